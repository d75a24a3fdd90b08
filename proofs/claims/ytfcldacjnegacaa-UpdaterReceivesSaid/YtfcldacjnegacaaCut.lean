/- The law's cut; an updater and its memory alone. -/
import Derived.Test.YtfcldacjnegacaaUpW
namespace Go.Proofs.Ytfcldacjnegacaa.Up
open Go.RowKit Go.Proofs.YtfcldacjnegacaaW.PrintWords Go.Proofs.YtfcldacjnegacaaW.PrintLast Go.Proofs.YtfcldacjnegacaaW.PrintMore Go.Proofs.Ytfcldacjnegacaa.Sl
attribute [local go_sem] max2_int min2_int max_two min_two
set_option linter.unusedVariables false
set_option linter.unusedSimpArgs false
/-- A chunk of an image. -/
def cutL (b : List Int) (c i : Nat) : List Int := (b.drop (i * c)).take (clen b.length c i)
theorem cutL_len {b : List Int} {c i : Nat} : (cutL b c i).length = clen b.length c i := by
  unfold cutL clen
  rw [List.length_take, List.length_drop]
  omega
theorem cut_C {W : World} {A : Option Addr} {b : List Int} {c i cp : Nat} (h : (Kd.int .u8).C W A b.length b) (hi : i * c < b.length) (hcp : b.length ≤ cp) :
    ∃ b0 o, A = some ⟨b0, o, none⟩ ∧ (Kd.int .u8).C W (some ⟨b0, o + i * c, none⟩) (clen b.length c i) (cutL b c i) := by
  obtain ⟨b0, o, rfl, _⟩ := byte_cell h (j := 0) (by omega)
  refine ⟨b0, o, rfl, ?_⟩
  have h1 := Kd.C_drop (m := i * c) (c := b.length + 1) h (by omega) (by omega)
  rw [if_neg (by omega)] at h1
  have h2 := Kd.C_take (m := clen b.length c i) h1 (by rw [List.length_drop]; unfold clen; omega)
  have e1 : ((b.drop (i * c)).take (clen b.length c i)).length = clen b.length c i := cutL_len
  rw [e1] at h2
  have e2 : Option.map (fun x => Addr.add x (i * c * (Kd.int .u8).sz)) (some (⟨b0, o, none⟩ : Addr)) = some ⟨b0, o + i * c, none⟩ := by
    rw [show (Kd.int .u8).sz = 1 from rfl, Nat.mul_one, Option.map_some]
    unfold Addr.add
    split <;> simp_all
  rw [e2] at h2
  exact h2
theorem wrap_small {n : Nat} (h : n ≤ 100000) : wrap64 ((n : Nat) : Int) = (n : Int) := by unfold wrap64; omega
theorem cut_walk {W : World} {b0 o lo hi n m cp : Nat} {c i : Int} (e1 : wrap64 (i + 1) = i + 1) (e2 : i * c = (lo : Int)) (e3 : (i + 1) * c = (hi : Int)) (w2 : wrap64 (lo : Int) = (lo : Int)) (w3 : wrap64 (hi : Int) = (hi : Int))
    (hm : (hi < n ∧ m = hi) ∨ (hi = n ∧ m = n) ∨ (n < hi ∧ m = n)) (b1 : lo ≤ m) (b2 : ¬ cp = lo) (b3 : m ≤ cp) :
    Calls Try.prog 15 #[.slice (some ⟨b0, o, none⟩) n cp, .int .i64 c, .int .i64 i] W fun e w' => e = .returned (.slice (some ⟨b0, o + lo, none⟩) (m - lo) (cp - lo)) ∧ W = w' := by
  have b4 : (lo : Int) ≤ (m : Int) := by omega
  have b5 : (m : Int) ≤ (cp : Int) := by omega
  rcases hm with ⟨h, rfl⟩ | ⟨rfl, rfl⟩ | ⟨h, rfl⟩
  · have t1 : ¬ n ≤ m := by omega
    have t2 : ¬ (n : Int) ≤ (m : Int) := by omega
    have t3 : ¬ (n : Int) < (m : Int) := by omega
    clear h
    go_enter Try.func15, Try.ntmps15
    go_wp2
    go_ret
    exact ⟨rfl, rfl⟩
  · go_enter Try.func15, Try.ntmps15
    go_wp2
    go_ret
    exact ⟨rfl, rfl⟩
  · have t1 : m ≤ hi := by omega
    have t2 : (m : Int) ≤ (hi : Int) := by omega
    have t3 : (m : Int) < (hi : Int) := by omega
    clear h
    go_enter Try.func15, Try.ntmps15
    go_wp2
    go_ret
    exact ⟨rfl, rfl⟩
theorem cut_bounds {lo c n i : Nat} (h : lo < n) (hc : 1 ≤ c) (hc2 : c ≤ 36) (hn : n ≤ 1000) (hi : i ≤ lo) : wrap64 ((i : Int) + 1) = (i : Int) + 1 ∧ lo ≤ 100000 ∧ lo + c ≤ 100000 ∧ lo + min c (n - lo) ≤ n ∧ min c (n - lo) = lo + min c (n - lo) - lo ∧ ((lo + c < n ∧ lo + min c (n - lo) = lo + c) ∨ (lo + c = n ∧ lo + min c (n - lo) = n) ∨ (n < lo + c ∧ lo + min c (n - lo) = n)) := by
  unfold wrap64
  omega
theorem cut_call {W w0 : World} {A : Option Addr} {b : List Int} {c i cp n : Nat} (hn : b.length = n) (h : (Kd.int .u8).C w0 A n b) (hi : i * c < n) (hcp : n ≤ cp) (hb : n ≤ 1000) (hc : 1 ≤ c) (hc2 : c ≤ 36) :
    ∃ A' c', (Kd.int .u8).C w0 A' (clen n c i) (cutL b c i) ∧ Calls Try.prog 15 #[.slice A n cp, .int .i64 (c : Int), .int .i64 (i : Int)] W fun e w' => e = .returned (.slice A' (clen n c i) c') ∧ W = w' := by
  subst hn
  obtain ⟨b0, o, rfl, hC⟩ := cut_C h hi hcp
  refine ⟨some ⟨b0, o + i * c, none⟩, cp - i * c, hC, ?_⟩
  have hi2 : i ≤ i * c := Nat.le_mul_of_pos_right _ hc
  obtain ⟨lo, hlo⟩ : ∃ lo, i * c = lo := ⟨_, rfl⟩
  have hlo' : (i : Int) * (c : Int) = (lo : Int) := by rw [← hlo]; push_cast; rfl
  have hhi' : ((i : Int) + 1) * (c : Int) = ((lo + c : Nat) : Int) := by rw [Int.add_mul, hlo', Int.one_mul]; push_cast; rfl
  unfold clen
  rw [hlo] at hi hi2 ⊢
  obtain ⟨k1, k2, k3, k4, k5, k6⟩ := cut_bounds hi hc hc2 hb hi2
  rw [k5]
  exact cut_walk k1 hlo' hhi' (wrap_small k2) (wrap_small k3) (by omega) (Nat.le_add_right _ _) (by omega) (by omega)
end Go.Proofs.Ytfcldacjnegacaa.Up
