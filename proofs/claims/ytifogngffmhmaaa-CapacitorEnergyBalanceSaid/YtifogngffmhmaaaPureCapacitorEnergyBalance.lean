/- CapacitorEnergyBalance, the statement over numbers alone. -/
import Derived.Test.YtifogngffmhmaaaSchedB
import Derived.Test.YtifogngffmhmaaaQSdx8
namespace Go.Proofs.Ytifogngffmhmaaa.QSd
open Go.RowKit Go.Proofs.YtifogngffmhmaaaW.PrintWords Go.Proofs.YtifogngffmhmaaaW.PrintLast Go.Proofs.YtifogngffmhmaaaW.PrintMore
set_option linter.unusedVariables false
set_option linter.unusedSimpArgs false

theorem cv_snoc2 {l : List S57} {j : Nat} (hj : j < l.length) : cv (l.take j) ++ [(⟨(rd_T57 l (j : Int)).f0, (rd_T57 l (j : Int)).f1⟩ : S60)] = cv (l.take (j + 1)) := by
  rw [rd57 hj, List.take_succ_eq_append_getElem hj]
  unfold cv
  rw [List.map_append]
  rfl
theorem lit_u8 {n : Int} (h : (Lit.int .u8 n).wf = true) : 0 ≤ n ∧ n ≤ 255 := by
  simp only [Lit.wf, IntKind.min, IntKind.max, IntKind.signed, IntKind.bits, Bool.and_eq_true, decide_eq_true_eq] at h
  simpa using h
theorem sumE_take_succ {l : List S67} {j : Nat} (h : j < l.length) : sumE (l.take (j + 1)) = sumE (l.take j) + l[j].f0 := by
  rw [List.take_succ_eq_append_getElem h, sumE_snoc]
theorem balance_l1 (load : Int) (hl1 : 1 ≤ load) (hl2 : load ≤ 255) (H : Int) (hH : 0 ≤ H) (hH2 : H ≤ 1048576 * 65536) (out : List S67) (hlen : (out.length : Int) ≤ 65536) (ok : ∀ x ∈ out, okP load 65536 x)
    (bal : sumE out ≤ H + out.length * load) : ∀ (n j K : Nat), out.length - j ≤ n → n + 1 ≤ K → j ≤ out.length →
    tricklelaw08_CapacitorEnergyBalance.l1 K load H out (sumE (out.take j)) out (out.length : Int) (j : Int) = some true := by
  have nn : ∀ j, j ≤ out.length → 0 ≤ sumE (out.take j) ∧ sumE (out.take j) ≤ j * (255 * 65536) := by
    intro j
    induction j with
    | zero => intro _; simp [sumE]
    | succ j ih =>
      intro h
      obtain ⟨a, b⟩ := ih (by omega)
      obtain ⟨o1, ⟨q, o2, o3, o4⟩, _, _⟩ := ok (out[j]'(by omega)) (List.getElem_mem _)
      have : load * q ≤ 255 * 65536 := Int.mul_le_mul hl2 o3 o2 (by omega)
      rw [sumE_take_succ (show j < out.length by omega)]
      omega
  have ml : 0 ≤ (out.length : Int) * load := Int.mul_nonneg (by omega) (by omega)
  have ml2 : (out.length : Int) * load ≤ 65536 * 255 := Int.mul_le_mul hlen hl2 (by omega) (by omega)
  have fin : sumE out ≤ wrap64 (H + wrap64 ((out.length : Int) * wrap64 load)) := by
    rw [cap_wrap (x := load) (by omega) (by omega), cap_wrap (x := (out.length : Int) * load) (by omega) (by omega), cap_wrap (by omega) (by omega)]
    exact bal
  have wl : wrap64 load = load := cap_wrap (by omega) (by omega)
  intro n
  induction n with
  | zero =>
    intro j K h1 h2 h3
    obtain ⟨k, rfl⟩ : ∃ k, K = k + 1 := ⟨K - 1, by omega⟩
    obtain rfl : j = out.length := by omega
    rw [tricklelaw08_CapacitorEnergyBalance.l1.eq_2, if_neg (by omega), List.take_length, decide_eq_true fin]
  | succ n ih =>
    intro j K h1 h2 h3
    obtain ⟨k, rfl⟩ : ∃ k, K = k + 1 := ⟨K - 1, by omega⟩
    by_cases hj : j < out.length
    · obtain ⟨o1, ⟨q, o2, o3, o4⟩, o5, o6⟩ := ok out[j] (List.getElem_mem hj)
      have nj := nn (j + 1) (by omega)
      have st := sumE_take_succ hj
      rw [tricklelaw08_CapacitorEnergyBalance.l1.eq_2, if_pos (by omega), if_pos (by omega), if_pos (by omega), rd67 hj, wl, if_neg (by omega), if_neg (by omega)]
      have e : Int.tmod out[j].f0 load = 0 := by rw [o4]; exact Int.mul_tmod_right load q
      rw [e, if_pos rfl, if_neg (by omega), ← st, cap_wrap (x := sumE (out.take (j + 1))) (by omega) (by omega), nat_wrap hj (by omega)]
      exact ih (j + 1) k (by omega) (by omega) (by omega)
    · obtain rfl : j = out.length := by omega
      rw [tricklelaw08_CapacitorEnergyBalance.l1.eq_2, if_neg (by omega), List.take_length, decide_eq_true fin]

theorem har_bound {l : List S57} (ho : allOk l) : ∀ j, j ≤ l.length → 0 ≤ har l j ∧ har l j ≤ 1048576 * pre l j := by
  intro j
  induction j with
  | zero => intro _; exact ⟨Int.le_refl _, by rw [pre_zero]; exact Int.le_refl _⟩
  | succ j ih =>
    intro h
    obtain ⟨a, b⟩ := ih (by omega)
    obtain ⟨o1, o2, o3, o4⟩ := ho (l[j]'(by omega)) (List.getElem_mem _)
    rw [har_succ (show j < l.length by omega), pre_succ (show j < l.length by omega)]
    have h0 : 0 ≤ (l[j]'(by omega)).f0 * (l[j]'(by omega)).f1 := Int.mul_nonneg o1 o3
    have h1 : (l[j]'(by omega)).f0 * (l[j]'(by omega)).f1 ≤ 1048576 * (l[j]'(by omega)).f1 := Int.mul_le_mul_of_nonneg_right o2 o3
    omega

theorem balance_l0 {c on off load : Int} {l : List S57} (hG : GoodA c on off load l) (hl2 : load ≤ 255) : ∀ (n j K : Nat), l.length - j ≤ n → n + (65536 + 128 + 4 + 65537) + 1 ≤ K → j ≤ l.length →
    tricklelaw08_CapacitorEnergyBalance.l0 K load (cv (l.take j)) (har l j) (pre l j) l (l.length : Int) (j : Int) c on off = some true := by
  have hG0 := hG
  obtain ⟨⟨ho, hl, hs⟩, hV, h1, h2⟩ := hG
  have fin : ∀ K, 65536 + 128 + 4 + 65537 ≤ K → (if pre l l.length > 4000 then (some true) else ((tricklelaw08_config.f c on off).bind fun bt250 => ((capacitor_Schedule.f K bt250.1 bt250.2.1 bt250.2.2 (wrap64 load) (cv l)).bind fun bt253 => (if bt253.2 = 0 then (tricklelaw08_CapacitorEnergyBalance.l1 K load (har l l.length) bt253.1 0 bt253.1 (bt253.1.length : Int) 0) else (some false))))) = some true := by
    intro K hK
    by_cases hp : pre l l.length > 4000
    · rw [if_pos hp]
    · rw [if_neg hp, config_f, Option.bind_some]
      dsimp only
      obtain ⟨res, ch', run', draws', hI, e1, e2⟩ := schedule_good hG0 K K (by omega) (by omega)
      obtain ⟨hC, d0, dT, len, ok, bal⟩ := hI
      rw [cap_wrap (x := load) (by omega) (by omega), e1, Option.bind_some]
      dsimp only
      rw [if_pos rfl]
      have ld : 0 ≤ load * draws' := Int.mul_nonneg (by omega) d0
      have hc := hC.1
      have hb := har_bound ho l.length (by omega)
      exact balance_l1 load h1 hl2 (har l l.length) (by omega) (by omega) res (by omega) (fun x hx => okP_mono (ok x hx) hs) (by omega) res.length 0 K (by omega) (by omega) (by omega)
  intro n
  induction n with
  | zero =>
    intro j K h1 h2 h3
    obtain ⟨k, rfl⟩ : ∃ k, K = k + 1 := ⟨K - 1, by omega⟩
    obtain rfl : j = l.length := by omega
    rw [tricklelaw08_CapacitorEnergyBalance.l0.eq_2, if_neg (by omega), List.take_length]
    exact fin k (by omega)
  | succ n ih =>
    intro j K h1 h2 h3
    obtain ⟨k, rfl⟩ : ∃ k, K = k + 1 := ⟨K - 1, by omega⟩
    by_cases hj : j < l.length
    · obtain ⟨o1, o2, o3, o4⟩ := ho l[j] (List.getElem_mem hj)
      have hb := har_bound ho (j + 1) (by omega)
      have hb0 := har_bound ho j (by omega)
      have p1 := pre_le ho (j + 1) (by omega)
      have p0 := pre_nonneg ho (j + 1) (by omega)
      have hs' := har_succ hj
      have q0 : 0 ≤ l[j].f0 * l[j].f1 := Int.mul_nonneg o1 o3
      rw [tricklelaw08_CapacitorEnergyBalance.l0.eq_2, if_pos (by omega), if_pos (by omega), if_pos (by omega), if_pos (by rw [cv_len, List.length_take]; omega), cv_snoc2 hj, nat_wrap hj (by omega), rd57 hj,
        cap_wrap (x := l[j].f0 * l[j].f1) (by omega) (by omega), ← hs', cap_wrap (x := har l (j + 1)) (by omega) (by omega), ← pre_succ hj, cap_wrap (x := pre l (j + 1)) (by omega) (by omega)]
      exact ih (j + 1) k (by omega) (by omega) (by omega)
    · obtain rfl : j = l.length := by omega
      rw [tricklelaw08_CapacitorEnergyBalance.l0.eq_2, if_neg (by omega), List.take_length]
      exact fin k (by omega)

theorem CapacitorEnergyBalance (c on off load : Int) (l : List S57) (hl : l.length ≤ 8796093022207) (hload : (Lit.int .u8 load).wf = true) : ∃ k, tricklelaw08_CapacitorEnergyBalance.f k c on off load l = some true := by
  obtain ⟨l0, l1⟩ := lit_u8 hload
  refine ⟨65536 + 128 + 4 + 65537 + l.length + 1 + 1, ?_⟩
  unfold tricklelaw08_CapacitorEnergyBalance.f
  rw [cap_awake, Option.bind_some, if_pos rfl, cap_wrap (x := load) (by omega) (by omega)]
  by_cases hG : GoodA c on off load l
  · rw [right_true hG _ (by omega), Option.bind_some, if_pos rfl]
    exact balance_l0 hG l1 l.length 0 _ (by omega) (by omega) (by omega)
  · rw [right_false (by omega) hG _ (by omega), Option.bind_some, if_neg (by decide)]
theorem len57_CapacitorEnergyBalance {n : Nat} (h : n * Try.prog.bytesOf 57 ≤ reachBytes) : n ≤ 8796093022207 := by
  have e : Try.prog.bytesOf 57 = 16 := by kernel_rfl
  rw [e] at h
  simp only [reachBytes] at h
  omega
theorem CapacitorEnergyBalance_row {G R : Prop} (c on off load : Int) (l : List S57) (g0 : G) (g1 : (Lit.int .u8 load).wf = true) (g2 : l.length * Try.prog.bytesOf 57 ≤ reachBytes ∧ R) : ∃ k, tricklelaw08_CapacitorEnergyBalance.f k c on off load l = some true :=
  CapacitorEnergyBalance c on off load l (len57_CapacitorEnergyBalance g2.1) g1
end Go.Proofs.Ytifogngffmhmaaa.QSd
