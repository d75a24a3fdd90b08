/- TimerNext, the statement over numbers alone: the next release lies behind the time's lower bound, by at most one period. -/
import Derived.Test.YtjdpogkddoaioaaPTimerNextx1
namespace Go.Proofs.Ytjdpogkddoaioaa.PTimerNext
open Go.RowKit

theorem wakes_true : tricklelaw39_wakes.f 1 = some true := by decide +kernel

theorem wrap64_id {x : Int} (h0 : -9223372036854775808 ≤ x) (h1 : x ≤ 9223372036854775807) : wrap64 x = x := by
  unfold wrap64
  omega

theorem next_facts (a p lo : Int) (h1 : 0 ≤ a) (h3 : 1 ≤ p) (h4 : p ≤ 32767) (h6 : lo ≤ 1099511627776) (h8 : a ≤ lo) :
    wrap64 (Int.tdiv (wrap64 (lo - a)) p) = (lo - a) / p ∧ 0 ≤ (lo - a) / p ∧ (lo - a) / p ≤ lo - a ∧ (lo - a) / p * p ≤ lo - a ∧ lo - a < (lo - a) / p * p + p := by
  have hq0 : 0 ≤ (lo - a) / p := Int.ediv_nonneg (by omega) (by omega)
  have hq1 : (lo - a) / p ≤ lo - a := Int.ediv_le_self _ (by omega)
  have hm := Int.mul_ediv_add_emod (lo - a) p
  have hr0 := Int.emod_nonneg (lo - a) (show p ≠ 0 by omega)
  have hr1 := Int.emod_lt_of_pos (lo - a) (show 0 < p by omega)
  rw [Int.mul_comm] at hm
  have e1 : wrap64 (lo - a) = lo - a := wrap64_id (by omega) (by omega)
  have e2 : Int.tdiv (lo - a) p = (lo - a) / p := Int.tdiv_eq_ediv_of_nonneg (by omega)
  have e3 : wrap64 ((lo - a) / p) = (lo - a) / p := wrap64_id (by omega) (by omega)
  rw [e1, e2, e3]
  exact ⟨rfl, hq0, hq1, by omega, by omega⟩

theorem TimerNext (a p lo hi : Int) : ∃ k, tricklelaw39_TimerNext.f k a p lo hi = some true := by
  refine ⟨1, ?_⟩
  unfold tricklelaw39_TimerNext.f
  rw [wakes_true]
  unfold timer_Advance.f timer_release.f timer_period.f timer_valid.f
  simp only [timer_Advance.j0, timer_Due.f, trickleref39_Release.f]
  by_cases h1 : a ≥ 0 <;> by_cases h2 : a ≤ 1099511660543 <;> by_cases h3 : p ≥ 1 <;> by_cases h4 : p ≤ 32767 <;> by_cases h5 : lo ≥ 0 <;> by_cases h6 : lo ≤ hi <;> by_cases h7 : hi ≤ 1099511627776 <;> simp [h1, h2, h3, h4, h5, h6, h7]
  by_cases h8 : a ≤ lo <;> simp [h8]
  rw [if_neg (show ¬ p = 0 by omega)]
  obtain ⟨e, q0, q1, q2, q3⟩ := next_facts a p lo h1 h3 h4 (by omega) h8
  rw [e]
  generalize (lo - a) / p = q at *
  have e2 : wrap64 (q + 1) = q + 1 := wrap64_id (by omega) (by omega)
  have e3 : (q + 1) * p = q * p + p := by rw [Int.add_mul, Int.one_mul]
  rw [e2, e3]
  generalize q * p = m at *
  have e4 : wrap64 (m + p) = m + p := wrap64_id (by omega) (by omega)
  rw [e4]
  have e5 : wrap64 (a + (m + p)) = a + (m + p) := wrap64_id (by omega) (by omega)
  rw [e5]
  simp only [Option.bind_some]
  have e6 : wrap64 (a + (m + p) - lo) = a + (m + p) - lo := wrap64_id (by omega) (by omega)
  simp only [e6, e2, e3, e4, e5]
  simp
  rw [if_pos (by omega), if_pos (by omega), if_pos (by omega), if_pos (by omega)]
  simp
  omega
end Go.Proofs.Ytjdpogkddoaioaa.PTimerNext
