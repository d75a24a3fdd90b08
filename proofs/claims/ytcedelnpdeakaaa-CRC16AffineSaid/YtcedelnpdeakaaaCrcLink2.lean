/- More of the two texts: the reference's Append and Check, the program's Check, as lists. -/
import Derived.Test.YtcedelnpdeakaaaCrcLink
import Derived.Laws.Strings
namespace Go.Proofs.Ytcedelnpdeakaaa.QAll
open Go.RowKit Go.Proofs.YtcedelnpdeakaaaW.PrintWords Go.Proofs.YtcedelnpdeakaaaW.PrintLast Go.Proofs.YtcedelnpdeakaaaW.PrintMore
open Go.Proofs.Ytcedelnpdeakaaa.Crc

theorem wf_take {l : List Int} (h : ∀ x ∈ l, 0 ≤ x ∧ x ≤ 255) (n : Nat) : ∀ x ∈ l.take n, 0 ≤ x ∧ x ≤ 255 := fun x hx => h x (List.mem_of_mem_take hx)
theorem byte_inj {a b : Int} (ha : 0 ≤ a ∧ a ≤ 255) (hb : 0 ≤ b ∧ b ≤ 255) (h : UInt8.ofNat a.toNat = UInt8.ofNat b.toNat) : a = b := by
  have h2 := congrArg UInt8.toNat h
  simp at h2
  omega
theorem str_inj : ∀ {a b : List Int}, (∀ x ∈ a, 0 ≤ x ∧ x ≤ 255) → (∀ x ∈ b, 0 ≤ x ∧ x ≤ 255) → ((strOfNums a).toList = (strOfNums b).toList ↔ a = b) := by
  have hd : ∀ a : List Int, (strOfNums a).toList = a.map fun n => UInt8.ofNat n.toNat := by
    intro a
    rw [ByteArray.toList_eq, strOfNums_data]
  have key : ∀ a b : List Int, (∀ x ∈ a, 0 ≤ x ∧ x ≤ 255) → (∀ x ∈ b, 0 ≤ x ∧ x ≤ 255) → (a.map fun n => UInt8.ofNat n.toNat) = (b.map fun n => UInt8.ofNat n.toNat) → a = b := by
    intro a
    induction a with
    | nil =>
      intro b _ _ h
      cases b with
      | nil => rfl
      | cons => simp at h
    | cons x a ih =>
      intro b ha hb h
      cases b with
      | nil => simp at h
      | cons y b =>
        simp only [List.map_cons, List.cons.injEq] at h
        rw [byte_inj (ha x (by simp)) (hb y (by simp)) h.1, ih b (fun z hz => ha z (by simp [hz])) (fun z hz => hb z (by simp [hz])) h.2]
  intro a b ha hb
  rw [hd, hd]
  exact ⟨key a b ha hb, fun h => by rw [h]⟩

/-- The two bytes of a sum. -/
def two (s : Nat) : List Int := [((s / 256 : Nat) : Int), ((s % 256 : Nat) : Int)]
theorem wf_two (s : Nat) (h : s < 65536) : ∀ x ∈ two s, 0 ≤ x ∧ x ≤ 255 := by
  intro x hx
  simp only [two, List.mem_cons, List.not_mem_nil, or_false] at hx
  rcases hx with rfl | rfl <;> omega
theorem wf_app {a b : List Int} (ha : ∀ x ∈ a, 0 ≤ x ∧ x ≤ 255) (hb : ∀ x ∈ b, 0 ≤ x ∧ x ≤ 255) : ∀ x ∈ a ++ b, 0 ≤ x ∧ x ≤ 255 := by
  intro x hx
  rcases List.mem_append.1 hx with h | h
  · exact ha x h
  · exact hb x h

/-- l with its own sum behind it. -/
def summed (l : List Int) : List Int := l ++ two (upd 0xFFFF#16 l).toNat
theorem wf_summed {l : List Int} (h : ∀ x ∈ l, 0 ≤ x ∧ x ≤ 255) : ∀ x ∈ summed l, 0 ≤ x ∧ x ≤ 255 := wf_app h (wf_two _ (upd 0xFFFF#16 l).isLt)

theorem ref_append (l : List Int) (hwf : ∀ x ∈ l, 0 ≤ x ∧ x ≤ 255) (hn : l.length < 140737488355326) (k : Nat) (hk : 10 * l.length + 1 ≤ k) : trickleref02_Append.f k l = some (summed l) := by
  unfold trickleref02_Append.f
  rw [ref_sum l hwf (by omega) k hk]
  simp only [Option.bind_some, List.length_nil, List.nil_append, Nat.zero_add]
  rw [if_pos (by omega), if_pos (by simp; omega)]
  have h1 : IntKind.u16.wrap (Int.tdiv (((upd 0xFFFF#16 l).toNat : Nat) : Int) 256) % 256 = (((upd 0xFFFF#16 l).toNat / 256 : Nat) : Int) := by
    have := (upd 0xFFFF#16 l).isLt
    rw [Int.tdiv_eq_ediv_of_nonneg (by omega), IntKind.wrap_u16]
    omega
  have h2 : Int.tmod (((upd 0xFFFF#16 l).toNat : Nat) : Int) 256 % 256 = (((upd 0xFFFF#16 l).toNat % 256 : Nat) : Int) := by
    rw [Int.tmod_eq_emod_of_nonneg (by omega)]
    omega
  rw [h1, h2]
  rfl

/-- What Check answers. -/
def checked (l : List Int) : List Int × Int := if l.length < 2 then ([], 3) else if summed (l.take (l.length - 2)) = l then (l.take (l.length - 2), 0) else ([], 4)

theorem ref_check (l : List Int) (hwf : ∀ x ∈ l, 0 ≤ x ∧ x ≤ 255) (hn : l.length < 140737488355326) (k : Nat) (hk : 10 * l.length + 1 ≤ k) : trickleref02_Check.f k l = some (checked l) := by
  unfold trickleref02_Check.f checked
  by_cases c : l.length < 2
  · rw [if_pos c, if_pos c]
  rw [if_neg c, if_neg c, ref_append _ (wf_take hwf _) (by rw [List.length_take]; omega) k (by rw [List.length_take]; omega)]
  simp only [Option.bind_some]
  by_cases e : summed (l.take (l.length - 2)) = l
  · rw [if_pos ((str_inj (wf_summed (wf_take hwf _)) hwf).2 e), if_pos (by omega), if_pos e]
  · rw [if_neg (fun h => e ((str_inj (wf_summed (wf_take hwf _)) hwf).1 h)), if_neg e]

theorem or_bytes (a b : Nat) (ha : a < 256) (hb : b < 256) : Go.bits .or .u16 (IntKind.u16.wrap (IntKind.u16.wrap (a : Int) * 256)) (IntKind.u16.wrap (b : Int)) = ((a * 256 + b : Nat) : Int) := by
  have h1 : IntKind.u16.wrap (IntKind.u16.wrap (a : Int) * 256) = ((a * 256 : Nat) : Int) := by rw [IntKind.wrap_u16, IntKind.wrap_u16]; omega
  have h2 : IntKind.u16.wrap (b : Int) = (b : Int) := by rw [IntKind.wrap_u16]; omega
  rw [h1, h2, u16_or_nat _ _ (by omega) (by omega), show a * 256 = 2 ^ 8 * a by omega, ← Nat.two_pow_add_eq_or_of_lt (show b < 2 ^ 8 by omega)]

theorem crc_check (l : List Int) (hwf : ∀ x ∈ l, 0 ≤ x ∧ x ≤ 255) (hn : l.length < 140737488355326) (k : Nat) (hk : 10 * l.length + 1 ≤ k) : crc16_Check.f k l = some (checked l) := by
  unfold crc16_Check.f checked
  by_cases c : l.length < 2
  · rw [if_pos c, if_pos c]
  rw [if_neg c, if_neg c, crc_sum _ (wf_take hwf _) (by rw [List.length_take]; omega) k (by rw [List.length_take]; omega)]
  simp only [Option.bind_some]
  have hd : (l.drop (l.length - 2)).length = 2 := by rw [List.length_drop]; omega
  obtain ⟨x, y, hxy⟩ : ∃ x y, l.drop (l.length - 2) = [x, y] := by
    match hl : l.drop (l.length - 2), hd with
    | [x, y], _ => exact ⟨x, y, rfl⟩
  have hx := hwf x (List.mem_of_mem_drop (by rw [hxy]; simp))
  have hy := hwf y (List.mem_of_mem_drop (by rw [hxy]; simp))
  obtain ⟨a, rfl⟩ := Int.eq_ofNat_of_zero_le hx.1
  obtain ⟨b, rfl⟩ := Int.eq_ofNat_of_zero_le hy.1
  rw [hxy, show rd [(a : Int), (b : Int)] 0 = (a : Int) from rfl, show rd [(a : Int), (b : Int)] 1 = (b : Int) from rfl, or_bytes a b (by omega) (by omega)]
  have hsplit : l = l.take (l.length - 2) ++ [(a : Int), (b : Int)] := by rw [← hxy, List.take_append_drop]
  have hiff : (((upd 0xFFFF#16 (l.take (l.length - 2))).toNat : Nat) : Int) = ((a * 256 + b : Nat) : Int) ↔ summed (l.take (l.length - 2)) = l := by
    have hs := (upd 0xFFFF#16 (l.take (l.length - 2))).isLt
    unfold summed
    generalize (upd 0xFFFF#16 (l.take (l.length - 2))).toNat = s at *
    constructor
    · intro h
      have hs1 : s / 256 = a := by omega
      have hs2 : s % 256 = b := by omega
      rw [two, hs1, hs2]
      exact hsplit.symm
    · intro h
      have h3 : l.take (l.length - 2) ++ two s = l.take (l.length - 2) ++ [(a : Int), (b : Int)] := h.trans hsplit
      have h4 := List.append_cancel_left h3
      simp only [two, List.cons.injEq, and_true] at h4
      omega
  by_cases e : summed (l.take (l.length - 2)) = l
  · rw [if_pos (hiff.2 e), if_pos e]
    unfold slices_Clone_byte_byte.f
    rw [if_pos (by rw [List.length_take]; omega)]
    rfl
  · rw [if_neg (fun h => e (hiff.1 h)), if_neg e]

/-- Whoever bears a sum that is right brings the register to 0. -/
theorem summed_zero (l : List Int) : upd 0xFFFF#16 (summed l) = 0#16 := by
  unfold summed
  rw [upd_append]
  exact upd_own _
end Go.Proofs.Ytcedelnpdeakaaa.QAll
