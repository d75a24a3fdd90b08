/- TimerAdvance, the statement over numbers alone: the program's Advance answers as the reference does. -/
import Derived.Test.YtjdpogkddoaioaaPTimerAdvancex1
namespace Go.Proofs.Ytjdpogkddoaioaa.PTimerAdvance
open Go.RowKit

theorem wakes_true : tricklelaw39_wakes.f 1 = some true := by decide +kernel

theorem advance_ref (a p lo hi : Int) : ∃ r, timer_Advance.f 1 a p lo hi = some r ∧ trickleref39_Advance.f 1 a p lo hi = some r := by
  unfold timer_Advance.f trickleref39_Advance.f timer_release.f trickleref39_Release.f timer_period.f trickleref39_Period.f timer_valid.f trickleref39_Interval.f
  simp only [timer_Advance.j0, trickleref39_Advance.j0, timer_Due.f, trickleref39_Due.f]
  by_cases h1 : a ≥ 0 <;> by_cases h2 : a ≤ 1099511660543 <;> by_cases h3 : p ≥ 1 <;> by_cases h4 : p ≤ 32767 <;> by_cases h5 : lo ≥ 0 <;> by_cases h6 : lo ≤ hi <;> by_cases h7 : hi ≤ 1099511627776 <;> simp [h1, h2, h3, h4, h5, h6, h7]
  by_cases h8 : a ≤ lo <;> simp [h8]
  by_cases h9 : p = 0
  · omega
  · simp [h9]

theorem TimerAdvance : ∀ a p lo hi : Int, ∃ k, tricklelaw39_TimerAdvance.f k a p lo hi = some true := by
  intro a p lo hi
  obtain ⟨r, h1, h2⟩ := advance_ref a p lo hi
  refine ⟨1, ?_⟩
  unfold tricklelaw39_TimerAdvance.f
  rw [wakes_true, h1, h2]
  simp
end Go.Proofs.Ytjdpogkddoaioaa.PTimerAdvance
