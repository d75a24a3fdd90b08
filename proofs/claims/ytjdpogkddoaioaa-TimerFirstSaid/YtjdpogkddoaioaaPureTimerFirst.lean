/- TimerFirst, the statement over numbers alone: First, Due and MayBeDue answer as the reference does. -/
import Derived.Test.YtjdpogkddoaioaaPTimerFirstx2
namespace Go.Proofs.Ytjdpogkddoaioaa.PTimerFirst
open Go.RowKit

theorem wakes_true : tricklelaw39_wakes.f 1 = some true := by decide +kernel

theorem first_ref (p s : Int) : ∃ r, timer_First.f p s = some r ∧ trickleref39_First.f p s = some r := by
  unfold timer_First.f trickleref39_First.f timer_period.f trickleref39_Period.f
  by_cases h1 : p ≥ 1 <;> by_cases h2 : p ≤ 32767 <;> by_cases h3 : s < 0 <;> by_cases h4 : s > 1099511627776 <;> simp [h1, h2, h3, h4]

theorem TimerFirst (p s lo hi : Int) : ∃ k, tricklelaw39_TimerFirst.f k p s lo hi = some true := by
  refine ⟨1, ?_⟩
  obtain ⟨r, h1, h2⟩ := first_ref p s
  unfold tricklelaw39_TimerFirst.f timer_Due.f timer_MayBeDue.f
  rw [wakes_true, h1, h2]
  simp
end Go.Proofs.Ytjdpogkddoaioaa.PTimerFirst
