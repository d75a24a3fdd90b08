/- The two loops of a schedule, the program's and the reference's, give the same periods, and these are covered by what was harvested. -/
import Derived.Test.YtifogngffmhmaaaSchedA
import Derived.Test.YtifogngffmhmaaaQSdx6
namespace Go.Proofs.Ytifogngffmhmaaa.QSd
open Go.RowKit Go.Proofs.YtifogngffmhmaaaW.PrintWords Go.Proofs.YtifogngffmhmaaaW.PrintLast Go.Proofs.YtifogngffmhmaaaW.PrintMore
set_option linter.unusedVariables false
set_option linter.unusedSimpArgs false

def sumE (l : List S67) : Int := (l.map fun x => x.f0).sum
def okP (load T : Int) (x : S67) : Prop := load ≤ x.f0 ∧ (∃ q : Int, 0 ≤ q ∧ q ≤ T ∧ x.f0 = load * q) ∧ 0 ≤ x.f1 ∧ x.f1 ≤ T
theorem okP_mono {load T T' : Int} {x : S67} (h : okP load T x) (ht : T ≤ T') : okP load T' x := by
  obtain ⟨a, ⟨q, b, c, d⟩, e, f⟩ := h
  exact ⟨a, ⟨q, b, by omega, d⟩, e, by omega⟩
theorem sumE_snoc (l : List S67) (x : S67) : sumE (l ++ [x]) = sumE l + x.f0 := by simp [sumE]
theorem sumE_set : ∀ (l : List S67) (n : Nat) (x : S67) (h : n < l.length), x.f0 = l[n].f0 → sumE (l.set n x) = sumE l := by
  intro l
  induction l with
  | nil => intro n x h; simp at h
  | cons y l ih =>
    intro n x h e
    cases n with
    | zero =>
      have e' : x.f0 = y.f0 := e
      simp only [List.set_cons_zero, sumE, List.map_cons, List.sum_cons, e']
    | succ n =>
      have := ih n x (by simpa using h) (by simpa using e)
      simp only [sumE] at this
      simp only [List.set_cons_succ, sumE, List.map_cons, List.sum_cons, this]
theorem rd67 {l : List S67} {j : Nat} (h : j < l.length) : rd_T67 l (j : Int) = l[j] := by
  unfold rd_T67
  rw [Int.toNat_natCast, List.getD_eq_getElem?_getD, List.getElem?_eq_getElem h, Option.getD_some]

/-- What holds of the periods at any time: T ticks have gone by, H has been harvested. -/
structure Inv8 (load T H c on off ch : Int) (run : Bool) (draws : Int) (out : List S67) : Prop where
  cap : CapInv c on off ch run
  d0 : 0 ≤ draws
  dT : draws ≤ T
  len : (out.length : Int) ≤ T
  ok : ∀ x ∈ out, okP load T x
  bal : sumE out + load * draws + ch ≤ H + out.length * load

theorem tick {c on off load p T H ch draws : Int} {run : Bool} {out : List S67} (hV : CapOk c on off) (hl : 1 ≤ load) (hl2 : load ≤ 1048576) (hp : 0 ≤ p) (hp2 : p ≤ 1048576) (hT : 0 ≤ T) (hT2 : T < 65536)
    (hI : Inv8 load T H c on off ch run draws out) (x34 : List S60) (x20 : List S57) (x35 x36 tm : Int) (u : Nat) (hu : (u : Int) < tm) (hu2 : u < 140737488355328) (s1 : Int) (k k2 : Nat) :
    ∃ ch' run' draws' out', Inv8 load (T + 1) (H + p) c on off ch' run' draws' out' ∧
      capacitor_Schedule0.l1 (k + 1) load out (load * draws) x34 x35 x36 tm (u : Int) c on off ch run p s1 = capacitor_Schedule0.l1 k load out' (load * draws') x34 x35 x36 tm ((u + 1 : Nat) : Int) c on off ch' run' p s1 ∧
      trickleref08_Schedule.l1 (k2 + 1) load out draws x20 x35 x36 tm (u : Int) c on off ch run p s1 = trickleref08_Schedule.l1 k2 load out' draws' x20 x35 x36 tm ((u + 1 : Nat) : Int) c on off ch' run' p s1 := by
  obtain ⟨hC, d0, dT, len, ok, bal⟩ := hI
  have hV' := hV
  obtain ⟨v1, v2, v3, v4⟩ := hV'
  have hC0 := hC
  obtain ⟨i1, i2, i3, i4⟩ := hC0
  have ld : 0 ≤ load * draws := Int.mul_nonneg (by omega) d0
  have ld2 : load * draws ≤ 1048576 * 65536 := Int.mul_le_mul hl2 (by omega) (by omega) (by omega)
  have wu : wrap64 ((u : Int) + 1) = ((u + 1 : Nat) : Int) := nat_wrap hu2 (Nat.le_refl _)
  have ll : load * (draws + 1) = load * draws + load := by rw [Int.mul_add, Int.mul_one]
  obtain ⟨e, ch1, run1, eh, hC1, hge, h1, _⟩ := harvest_step (p := p) (t := 1) hV hC
  obtain ⟨rfl, rfl, hrun1⟩ := h1 hp hp2 (by omega) (by omega)
  obtain ⟨e', ch1', run1', eh', er, _⟩ := harvest_ref (p := p) (t := 1) hV hC
  rw [eh] at eh'
  simp only [Option.some.injEq, Prod.mk.injEq, true_and] at eh'
  obtain ⟨rfl, rfl, rfl⟩ := eh'
  rw [Int.mul_one] at *
  have hch : min c (ch + p) ≤ ch + p := Int.min_le_right _ _
  rw [capacitor_Schedule0.l1.eq_2, if_pos hu, eh, Option.bind_some, trickleref08_Schedule.l1.eq_2, if_pos hu, er, Option.bind_some]
  dsimp only
  generalize min c (ch + p) = y at *
  clear hrun1 eh er
  cases run1 with
  | true =>
    rw [if_pos rfl, if_pos rfl]
    obtain ⟨r, ch2, run2, ed, hC2, hle, h2, _⟩ := draw_step (n := load) hV hC1 (by omega)
    obtain ⟨rfl, rfl, rfl⟩ := h2 rfl (by omega)
    obtain ⟨r', ch2', run2', ed', edr, _⟩ := draw_ref (n := load) hV hC1 (by omega)
    rw [ed] at ed'
    simp only [Option.some.injEq, Prod.mk.injEq, true_and] at ed'
    obtain ⟨rfl, rfl, rfl⟩ := ed'
    rw [ed, Option.bind_some, edr, Option.bind_some]
    dsimp only
    rw [cap_wrap (x := load * draws + load) (by omega) (by omega), cap_wrap (x := draws + 1) (by omega) (by omega), wu]
    have hm0 : 0 ≤ max 0 (y - load) := Int.le_max_left _ _
    have hm1 : max 0 (y - load) ≤ y := hle
    have hm2 : 0 < max 0 (y - load) → max 0 (y - load) = y - load := fun h => by omega
    generalize max 0 (y - load) = z at *
    by_cases hz : z > off
    · rw [decide_eq_true hz] at hC2 ⊢
      rw [if_pos rfl, if_pos rfl]
      refine ⟨z, true, draws + 1, out, ⟨hC2, by omega, by omega, by omega, fun x hx => okP_mono (ok x hx) (by omega), ?_⟩, by rw [ll], rfl⟩
      have := hm2 (by omega)
      omega
    · rw [decide_eq_false hz] at hC2 ⊢
      rw [if_neg (show ¬ false = true by decide), if_neg (show ¬ false = true by decide), if_pos (by omega), if_pos (by omega), ll, cap_wrap (x := load * draws + load) (by omega) (by omega)]
      refine ⟨z, false, 0, out ++ [⟨load * draws + load, 0⟩], ⟨hC2, by omega, by omega, by rw [List.length_append, List.length_singleton]; omega, ?_, ?_⟩, by rw [Int.mul_zero], rfl⟩
      · intro x hx
        rcases List.mem_append.1 hx with hx | hx
        · exact okP_mono (ok x hx) (by omega)
        · rw [List.mem_singleton] at hx
          subst hx
          exact ⟨by dsimp only; omega, ⟨draws + 1, by omega, by omega, ll.symm⟩, Int.le_refl _, by dsimp only; omega⟩
      · rw [sumE_snoc, List.length_append, List.length_singleton, Int.natCast_add, Int.add_mul, Int.mul_zero]
        dsimp only
        omega
  | false =>
    rw [if_neg (show ¬ false = true by decide), if_neg (show ¬ false = true by decide), wu]
    by_cases hlen : (out.length : Int) > 0
    · rw [if_pos hlen, if_pos hlen]
      have e1 : wrap64 ((out.length : Int) - 1) = ((out.length - 1 : Nat) : Int) := by rw [cap_wrap (by omega) (by omega)]; omega
      rw [e1, if_pos (show (0 : Int) ≤ ((out.length - 1 : Nat) : Int) by omega), if_pos (show ((out.length - 1 : Nat) : Int) < (out.length : Int) by omega), if_pos (show (0 : Int) ≤ ((out.length - 1 : Nat) : Int) by omega), if_pos (show ((out.length - 1 : Nat) : Int) < (out.length : Int) by omega)]
      have hb : out.length - 1 < out.length := by omega
      rw [rd67 hb, Int.toNat_natCast]
      have hokl := ok out[out.length - 1] (List.getElem_mem hb)
      have e2 : wrap64 (out[out.length - 1].f1 + 1) = out[out.length - 1].f1 + 1 := by
        obtain ⟨_, _, a, b⟩ := hokl
        exact cap_wrap (by omega) (by omega)
      rw [e2]
      refine ⟨y, false, draws, out.set (out.length - 1) ⟨out[out.length - 1].f0, out[out.length - 1].f1 + 1⟩, ⟨hC1, d0, by omega, by rw [List.length_set]; omega, ?_, ?_⟩, rfl, rfl⟩
      · intro x hx
        rcases List.mem_or_eq_of_mem_set hx with hx | rfl
        · exact okP_mono (ok x hx) (by omega)
        · obtain ⟨a, ⟨q, b1, b2, b3⟩, b, c⟩ := hokl
          exact ⟨a, ⟨q, b1, by omega, b3⟩, by dsimp only; omega, by dsimp only; omega⟩
      · rw [sumE_set out (out.length - 1) (⟨out[out.length - 1].f0, out[out.length - 1].f1 + 1⟩ : S67) hb rfl, List.length_set]
        omega
    · rw [if_neg hlen, if_neg hlen]
      exact ⟨y, false, draws, out, ⟨hC1, d0, by omega, by omega, fun x hx => okP_mono (ok x hx) (by omega), by omega⟩, rfl, rfl⟩

/-- What has been harvested before step j. -/
def har (l : List S57) (j : Nat) : Int := ((l.take j).map fun s => s.f0 * s.f1).sum
theorem har_succ {l : List S57} {j : Nat} (h : j < l.length) : har l (j + 1) = har l j + l[j].f0 * l[j].f1 := by
  unfold har
  rw [List.take_succ_eq_append_getElem h, List.map_append, List.sum_append]
  simp

theorem both {c on off load : Int} {l : List S57} (h : GoodA c on off load l) : ∀ (n j u : Nat) (hj : j < l.length) (K K2 : Nat) (ch draws : Int) (run : Bool) (out : List S67),
    2 * (l.length - j) + (pre l l.length - pre l j - u).toNat ≤ n → 2 * (l.length - j) + (pre l l.length - pre l j - u).toNat + 1 ≤ K → 2 * (l.length - j) + (pre l l.length - pre l j - u).toNat + 1 ≤ K2 → (u : Int) ≤ l[j].f1 →
    Inv8 load (pre l j + u) (har l j + l[j].f0 * u) c on off ch run draws out →
    ∃ res ch' run' draws', Inv8 load (pre l l.length) (har l l.length) c on off ch' run' draws' res ∧
      capacitor_Schedule0.l1 K load out (load * draws) (cv l) (l.length : Int) (j : Int) l[j].f1 (u : Int) c on off ch run l[j].f0 l[j].f1 = some (res, 0) ∧
      trickleref08_Schedule.l1 K2 load out draws l (l.length : Int) (j : Int) l[j].f1 (u : Int) c on off ch run l[j].f0 l[j].f1 = some (res, 0) := by
  obtain ⟨⟨ho, hl, hs⟩, hV, h1, h2⟩ := h
  intro n
  induction n with
  | zero => intro j u hj; intros; omega
  | succ n ih =>
    intro j u hj K K2 ch draws run out hn hK hK2 hu hI
    obtain ⟨k, rfl⟩ : ∃ k, K = k + 1 := ⟨K - 1, by omega⟩
    obtain ⟨k2, rfl⟩ : ∃ k, K2 = k + 1 := ⟨K2 - 1, by omega⟩
    obtain ⟨o1, o2, o3, o4⟩ := ho l[j] (List.getElem_mem hj)
    have ps := pre_succ hj
    have p0 := pre_nonneg ho j (by omega)
    have p1 := pre_le ho (j + 1) (by omega)
    by_cases hlt : (u : Int) < l[j].f1
    · obtain ⟨ch', run', draws', out', hI', e1, e2⟩ := tick hV h1 h2 o1 o2 (by omega) (by omega) hI (cv l) l (l.length : Int) (j : Int) l[j].f1 u hlt (by omega) l[j].f1 k k2
      rw [e1, e2]
      refine ih j (u + 1) hj k k2 ch' draws' run' out' (by omega) (by omega) (by omega) (by omega) ?_
      rw [show pre l j + ((u + 1 : Nat) : Int) = pre l j + u + 1 by omega, show har l j + l[j].f0 * ((u + 1 : Nat) : Int) = har l j + l[j].f0 * u + l[j].f0 by rw [Int.natCast_add, Int.mul_add]; omega]
      exact hI'
    · have hu' : (u : Int) = l[j].f1 := by omega
      rw [hu', ← ps, ← har_succ hj] at hI
      rw [capacitor_Schedule0.l1.eq_2, if_neg hlt, trickleref08_Schedule.l1.eq_2, if_neg hlt, nat_wrap hj (by omega)]
      obtain ⟨k', rfl⟩ : ∃ k', k = k' + 1 := ⟨k - 1, by omega⟩
      obtain ⟨k2', rfl⟩ : ∃ k', k2 = k' + 1 := ⟨k2 - 1, by omega⟩
      by_cases hj1 : j + 1 < l.length
      · rw [capacitor_Schedule0.l0.eq_2, if_pos (by omega), if_pos (by omega), cv_len, if_pos (by omega), rd60 hj1]
        rw [trickleref08_Schedule.l0.eq_2, if_pos (by omega), if_pos (by omega), if_pos (by omega), rd57 hj1]
        have p2 := pre_le ho (j + 1) (by omega)
        obtain ⟨_, _, o5, _⟩ := ho l[j + 1] (List.getElem_mem hj1)
        refine ih (j + 1) 0 hj1 k' k2' ch draws run out (by omega) (by omega) (by omega) o5 ?_
        rw [show pre l (j + 1) + ((0 : Nat) : Int) = pre l (j + 1) by omega, show har l (j + 1) + l[j + 1].f0 * ((0 : Nat) : Int) = har l (j + 1) by rw [show ((0 : Nat) : Int) = 0 from rfl, Int.mul_zero]; omega]
        exact hI
      · have hj2 : j + 1 = l.length := by omega
        rw [hj2] at hI ⊢
        refine ⟨out, ch, run, draws, hI, ?_, ?_⟩
        · rw [capacitor_Schedule0.l0.eq_2, if_neg (by omega)]
        · rw [trickleref08_Schedule.l0.eq_2, if_neg (by omega)]

theorem both_start {c on off load : Int} {l : List S57} (h : GoodA c on off load l) (K K2 : Nat) (hK : 65536 + 128 + 3 ≤ K) (hK2 : 65536 + 128 + 3 ≤ K2) :
    ∃ res ch' run' draws', Inv8 load (pre l l.length) (har l l.length) c on off ch' run' draws' res ∧
      capacitor_Schedule0.l0 K load ([] : List S67) 0 (cv l) (l.length : Int) 0 c on off 0 false = some (res, 0) ∧
      trickleref08_Schedule.l0 K2 load ([] : List S67) 0 l (l.length : Int) 0 c on off 0 false = some (res, 0) := by
  have h0 := h
  obtain ⟨⟨ho, hl, hs⟩, hV, h1, h2⟩ := h
  obtain ⟨v1, v2, v3, v4⟩ := hV
  obtain ⟨k, rfl⟩ : ∃ k, K = k + 1 := ⟨K - 1, by omega⟩
  obtain ⟨k2, rfl⟩ : ∃ k, K2 = k + 1 := ⟨K2 - 1, by omega⟩
  have inv : Inv8 load 0 0 c on off 0 false 0 ([] : List S67) := ⟨⟨by omega, by omega, fun h => absurd h (by decide), fun _ => by omega⟩, by omega, by omega, by simp, fun x hx => absurd hx (by simp), by simp [sumE]⟩
  by_cases hj : 0 < l.length
  · rw [capacitor_Schedule0.l0.eq_2, if_pos (by omega), if_pos (by omega), cv_len, if_pos (by omega), show (0 : Int) = ((0 : Nat) : Int) from rfl, rd60 hj]
    rw [trickleref08_Schedule.l0.eq_2, if_pos (by omega), if_pos (by omega), if_pos (by omega), rd57 hj]
    obtain ⟨_, _, o5, _⟩ := ho l[0] (List.getElem_mem hj)
    have p := pre_nonneg ho l.length (by omega)
    have := both h0 (65536 + 128) 0 0 hj k k2 0 0 false [] (by rw [pre_zero]; omega) (by rw [pre_zero]; omega) (by rw [pre_zero]; omega) o5 (by
      rw [show pre l 0 + ((0 : Nat) : Int) = 0 from rfl, show har l 0 + l[0].f0 * ((0 : Nat) : Int) = 0 by rw [show ((0 : Nat) : Int) = 0 from rfl, Int.mul_zero]; rfl]; exact inv)
    rw [Int.mul_zero] at this
    exact this
  · have hz : l.length = 0 := by omega
    rw [capacitor_Schedule0.l0.eq_2, if_neg (by omega), trickleref08_Schedule.l0.eq_2, if_neg (by omega), hz]
    exact ⟨[], 0, false, 0, inv, rfl, rfl⟩

theorem schedule_good {c on off load : Int} {l : List S57} (h : GoodA c on off load l) (K K2 : Nat) (hK : 65536 + 128 + 4 ≤ K) (hK2 : 65536 + 128 + 3 ≤ K2) :
    ∃ res ch' run' draws', Inv8 load (pre l l.length) (har l l.length) c on off ch' run' draws' res ∧
      capacitor_Schedule.f K c on off load (cv l) = some (res, 0) ∧ trickleref08_Schedule.f K2 c on off load l = some (res, 0) := by
  have h0 := h
  obtain ⟨hG, hV, h1, h2⟩ := h
  obtain ⟨k, rfl⟩ : ∃ k, K = k + 1 := ⟨K - 1, by omega⟩
  obtain ⟨res, ch', run', draws', hI, e1, e2⟩ := both_start h0 k K2 (by omega) hK2
  refine ⟨res, ch', run', draws', hI, ?_, ?_⟩
  · unfold capacitor_Schedule.f
    rw [if_pos (show 0 ≤ off ∧ off < on ∧ on ≤ c ∧ c ≤ 1073741824 from hV)]
    unfold capacitor_Schedule0.f
    rw [new_ok hV, Option.bind_some]
    dsimp only
    rw [if_pos rfl, if_neg (by omega), if_neg (by omega), valid_true hG, Option.bind_some, capacitor_Schedule0.j0.eq_2, if_neg (by decide), cv_len]
    exact e1
  · unfold trickleref08_Schedule.f
    rw [right_true h0 K2 (by have := hG.2.1; omega), Option.bind_some, if_pos rfl]
    exact e2
theorem schedule_bad {c on off load : Int} {l : List S57} (hb : l.length ≤ 140737488355328) (h : ¬ GoodA c on off load l) (K K2 : Nat) (hK : 1 ≤ K) (hK2 : l.length + 1 ≤ K2) :
    capacitor_Schedule.f K c on off load (cv l) = some ([], 1) ∧ trickleref08_Schedule.f K2 c on off load l = some ([], 1) := by
  constructor
  · obtain ⟨k, rfl⟩ : ∃ k, K = k + 1 := ⟨K - 1, by omega⟩
    unfold capacitor_Schedule.f
    by_cases hV : CapOk c on off
    · have hV' := hV
      unfold CapOk at hV'
      rw [if_pos hV']
      unfold capacitor_Schedule0.f
      rw [new_ok hV, Option.bind_some]
      dsimp only
      rw [if_pos rfl]
      by_cases h1 : load < 1
      · rw [if_pos h1, capacitor_Schedule0.j0.eq_2, if_pos rfl]
      · by_cases h2 : load > 1048576
        · rw [if_neg h1, if_pos h2, capacitor_Schedule0.j0.eq_2, if_pos rfl]
        · rw [if_neg h1, if_neg h2, valid_false hb (fun hG => h ⟨hG, hV, by omega, by omega⟩), Option.bind_some, capacitor_Schedule0.j0.eq_2, if_pos (by decide)]
    · unfold CapOk at hV
      rw [if_neg hV]
  · unfold trickleref08_Schedule.f
    rw [right_false hb h K2 hK2, Option.bind_some, if_neg (by decide)]
end Go.Proofs.Ytifogngffmhmaaa.QSd
