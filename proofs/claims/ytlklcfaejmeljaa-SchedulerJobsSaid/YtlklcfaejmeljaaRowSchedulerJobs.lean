/- SchedulerJobs holds: for every input the law answers true and leaves its arguments as they were. -/
import Derived.Test.YtlklcfaejmeljaaJbC
import Derived.Test.YtlklcfaejmeljaaFx
import Derived.Test.YtlklcfaejmeljaaKa
namespace Go.Proofs.Ytlklcfaejmeljaa.QJb
open Go.RowKit Go.Proofs.YtlklcfaejmeljaaW.PrintWords
structure S45 where
  f0 : List Int
  f1 : List Int
  f2 : List Int
  f3 : S43
def k45 : Kd S45 := Kd.iso (Kd.pair (Kd.slice 2 (Kd.int .i64)) (Kd.pair (Kd.slice 2 (Kd.int .i64)) (Kd.pair (Kd.slice 3 (Kd.int .i64)) k43))) (fun x : S45 => (x.f0, x.f1, x.f2, x.f3))
theorem k45_open {w : World} {x : S45} {cs : List Value} (h : k45.K w x cs) : ∃ A0 c0 A1 c1 A2 c2, cs = [.slice A0 x.f0.length c0, .slice A1 x.f1.length c1, .slice A2 x.f2.length c2, .int .i64 x.f3.f0, .int .i64 x.f3.f1] ∧ x.f0.length ≤ c0 ∧ Kd.C (Kd.int .i64) w A0 x.f0.length x.f0 ∧ x.f1.length ≤ c1 ∧ Kd.C (Kd.int .i64) w A1 x.f1.length x.f1 ∧ x.f2.length ≤ c2 ∧ Kd.C (Kd.int .i64) w A2 x.f2.length x.f2 := by
  obtain ⟨_, _, rfl, ⟨A0, c0, rfl, l0, g0⟩, ⟨_, _, rfl, ⟨A1, c1, rfl, l1, g1⟩, ⟨_, _, rfl, ⟨A2, c2, rfl, l2, g2⟩, ⟨_, _, rfl, rfl, rfl⟩⟩⟩⟩ := h
  exact ⟨A0, c0, A1, c1, A2, c2, rfl, l0, g0, l1, g1, l2, g2⟩
end Go.Proofs.Ytlklcfaejmeljaa.QJb
namespace Go.Proofs.Ytlklcfaejmeljaa.RowSchedulerJobs
open Go.RowKit Go.WideShapes Go.ChangeShapes Go.Proofs.YtlklcfaejmeljaaW.PrintWords Go.Proofs.Ytlklcfaejmeljaa.Ka Go.Proofs.Ytlklcfaejmeljaa.Fx
theorem own : ownKnob Try.prog.godebug = none := by kernel_rfl
theorem laidOut : laidOutB Try.prog = true := by kernel_rfl
section
variable {H : Type} {enc : TypeId × Value → H} {w : World}
theorem openS123 (n : Nat) : OpensS n enc Try.prog w 123 QJb.k123 (fun _ => True) := by
  induction n using Nat.strongRecOn with
  | ind n ih =>
    intro fuel cs dt ps hs ht hw
    obtain ⟨p, hK, _⟩ := opensS_struct (m := n) Try.underlying123 (by kernel_rfl) (opensFS_cons rfl (by kernel_rfl) (fun k _ => OpensS.of (opens_int Try.underlying3)) (opensFS_cons rfl (by kernel_rfl) (fun k _ => OpensS.of (opens_string Try.underlying9)) (opensFS_cons rfl (by kernel_rfl) (fun k _ => OpensS.of (opens_int Try.underlying111)) (opensFS_cons rfl (by kernel_rfl) (fun k _ => OpensS.of (opens_int Try.underlying3)) (opensFS_cons rfl (by kernel_rfl) (fun k hk => opensS_slice Try.underlying118 (by kernel_rfl) (fun j hj => ih j (by omega))) (opensFS_one rfl (by kernel_rfl) (fun k _ => OpensS.of (opens_int Try.underlying3)))))))) fuel cs dt ps hs ht hw
    obtain ⟨_, _, rfl, rfl, ⟨_, _, rfl, rfl, ⟨_, _, rfl, rfl, ⟨_, _, rfl, rfl, ⟨_, _, rfl, ⟨A4, c4, rfl, l4, g4⟩, rfl⟩⟩⟩⟩⟩ := hK
    exact ⟨(⟨p.1, p.2.1, p.2.2.1, p.2.2.2.1, p.2.2.2.2.1, p.2.2.2.2.2⟩ : QJb.S123), QJb.k123_mk w (⟨p.1, p.2.1, p.2.2.1, p.2.2.2.1, p.2.2.2.2.1, p.2.2.2.2.2⟩ : QJb.S123) l4 g4, trivial⟩
theorem openS120 (n : Nat) : OpensS n enc Try.prog w 120 QJb.k120 (fun _ => True) := by
  induction n using Nat.strongRecOn with
  | ind n ih =>
    intro fuel cs dt ps hs ht hw
    obtain ⟨p, hK, _⟩ := opensS_struct (m := n) Try.underlying120 (by kernel_rfl) (opensFS_cons rfl (by kernel_rfl) (fun k _ => OpensS.of (opens_int Try.underlying3)) (opensFS_cons rfl (by kernel_rfl) (fun k _ => OpensS.of (opens_string Try.underlying9)) (opensFS_cons rfl (by kernel_rfl) (fun k _ => OpensS.of (opens_int Try.underlying3)) (opensFS_cons rfl (by kernel_rfl) (fun k _ => OpensS.of (opens_slice Try.underlying118 (by kernel_rfl) (OpensS.all openS123))) (opensFS_cons rfl (by kernel_rfl) (fun k hk => opensS_slice Try.underlying47 (by kernel_rfl) (fun j hj => ih j (by omega))) (opensFS_cons rfl (by kernel_rfl) (fun k hk => opensS_slice Try.underlying47 (by kernel_rfl) (fun j hj => ih j (by omega))) (opensFS_one rfl (by kernel_rfl) (fun k _ => OpensS.of (opens_int Try.underlying3))))))))) fuel cs dt ps hs ht hw
    obtain ⟨_, _, rfl, rfl, ⟨_, _, rfl, rfl, ⟨_, _, rfl, rfl, ⟨_, _, rfl, ⟨A3, c3, rfl, l3, g3⟩, ⟨_, _, rfl, ⟨A4, c4, rfl, l4, g4⟩, ⟨_, _, rfl, ⟨A5, c5, rfl, l5, g5⟩, rfl⟩⟩⟩⟩⟩⟩ := hK
    exact ⟨(⟨p.1, p.2.1, p.2.2.1, p.2.2.2.1, p.2.2.2.2.1, p.2.2.2.2.2.1, p.2.2.2.2.2.2⟩ : QJb.S120), QJb.k120_mk w (⟨p.1, p.2.1, p.2.2.1, p.2.2.2.1, p.2.2.2.2.1, p.2.2.2.2.2.1, p.2.2.2.2.2.2⟩ : QJb.S120) l3 g3 l4 g4 l5 g5, trivial⟩
def Good113 (x : QJb.S113) : Prop := (x.f0.size ≤ reachBytes) ∧ ((Lit.int .i64 x.f1).wf = true) ∧ ((Lit.int .i16 x.f2).wf = true) ∧ ((Lit.int .i64 x.f3).wf = true)
theorem open113 : Opens enc Try.prog w 113 QJb.k113 Good113 :=
  opens_iso (fun x : QJb.S113 => (x.f0, x.f1, x.f2, x.f3)) (fun p => ⟨p.1, p.2.1, p.2.2.1, p.2.2.2⟩) (fun _ => rfl) ((opens_struct Try.underlying113 (by kernel_rfl) (opensF_cons rfl (by kernel_rfl) (opens_string Try.underlying9) (opensF_cons rfl (by kernel_rfl) (opens_int Try.underlying3) (opensF_cons rfl (by kernel_rfl) (opens_int Try.underlying111) (opensF_one rfl (by kernel_rfl) (opens_int Try.underlying3)))))).imp fun x hx => hx)
def Good49 (x : QJb.S49) : Prop := (x.f0.size ≤ reachBytes) ∧ ((Lit.int .i64 x.f1).wf = true) ∧ ((Lit.int .i64 x.f2).wf = true) ∧ (x.f3.size ≤ reachBytes) ∧ (x.f4.size ≤ reachBytes) ∧ ((Lit.int .i64 x.f5).wf = true) ∧ (x.f6.length * Try.prog.bytesOf 120 ≤ reachBytes ∧ x.f6.length ≤ maxLen ∧ ∀ e4 ∈ x.f6, True) ∧ ((Lit.int .i64 x.f7).wf = true)
theorem open49 : Opens enc Try.prog w 49 QJb.k49 Good49 :=
  opens_iso (fun x : QJb.S49 => (x.f0, x.f1, x.f2, x.f3, x.f4, x.f5, x.f6, x.f7)) (fun p => ⟨p.1, p.2.1, p.2.2.1, p.2.2.2.1, p.2.2.2.2.1, p.2.2.2.2.2.1, p.2.2.2.2.2.2.1, p.2.2.2.2.2.2.2⟩) (fun _ => rfl) ((opens_struct Try.underlying49 (by kernel_rfl) (opensF_cons rfl (by kernel_rfl) (opens_string Try.underlying9) (opensF_cons rfl (by kernel_rfl) (opens_int Try.underlying3) (opensF_cons rfl (by kernel_rfl) (opens_int Try.underlying3) (opensF_cons rfl (by kernel_rfl) (opens_string Try.underlying9) (opensF_cons rfl (by kernel_rfl) (opens_string Try.underlying9) (opensF_cons rfl (by kernel_rfl) (opens_int Try.underlying3) (opensF_cons rfl (by kernel_rfl) (opens_slice Try.underlying47 (by kernel_rfl) (OpensS.all openS120)) (opensF_one rfl (by kernel_rfl) (opens_int Try.underlying3)))))))))).imp fun x hx => hx)
def Good115 (x : QJb.S115) : Prop := ((Lit.int .i64 x.f0).wf = true) ∧ (x.f1.length * Try.prog.bytesOf 3 ≤ reachBytes ∧ x.f1.length ≤ maxLen ∧ ∀ e4 ∈ x.f1, (Lit.int .i64 e4).wf = true)
theorem open115 : Opens enc Try.prog w 115 QJb.k115 Good115 :=
  opens_iso (fun x : QJb.S115 => (x.f0, x.f1)) (fun p => ⟨p.1, p.2⟩) (fun _ => rfl) ((opens_struct Try.underlying115 (by kernel_rfl) (opensF_cons rfl (by kernel_rfl) (opens_int Try.underlying3) (opensF_one rfl (by kernel_rfl) (opens_slice Try.underlying30 (by kernel_rfl) (opens_int Try.underlying3))))).imp fun x hx => hx)
def Good117 (x : QJb.S117) : Prop := ((Lit.int .i64 x.f0).wf = true) ∧ ((Lit.int .i64 x.f1).wf = true) ∧ ((Lit.int .i64 x.f2).wf = true) ∧ ((Lit.int .i64 x.f3).wf = true) ∧ ((Lit.int .i16 x.f4).wf = true)
theorem open117 : Opens enc Try.prog w 117 QJb.k117 Good117 :=
  opens_iso (fun x : QJb.S117 => (x.f0, x.f1, x.f2, x.f3, x.f4)) (fun p => ⟨p.1, p.2.1, p.2.2.1, p.2.2.2.1, p.2.2.2.2⟩) (fun _ => rfl) ((opens_struct Try.underlying117 (by kernel_rfl) (opensF_cons rfl (by kernel_rfl) (opens_int Try.underlying3) (opensF_cons rfl (by kernel_rfl) (opens_int Try.underlying3) (opensF_cons rfl (by kernel_rfl) (opens_int Try.underlying3) (opensF_cons rfl (by kernel_rfl) (opens_int Try.underlying3) (opensF_one rfl (by kernel_rfl) (opens_int Try.underlying111))))))).imp fun x hx => hx)
def Good40 (x : QJb.S40) : Prop := ((Lit.int .i64 x.f0).wf = true) ∧ (x.f1.length * Try.prog.bytesOf 113 ≤ reachBytes ∧ x.f1.length ≤ maxLen ∧ ∀ e4 ∈ x.f1, Good113 e4) ∧ ((Lit.int .i64 x.f2).wf = true) ∧ ((Lit.int .i64 x.f3).wf = true) ∧ (x.f4.length * Try.prog.bytesOf 3 ≤ reachBytes ∧ x.f4.length ≤ maxLen ∧ ∀ e4 ∈ x.f4, (Lit.int .i64 e4).wf = true) ∧ (x.f5.length * Try.prog.bytesOf 49 ≤ reachBytes ∧ x.f5.length ≤ maxLen ∧ ∀ e4 ∈ x.f5, Good49 e4) ∧ (x.f6.length * Try.prog.bytesOf 3 ≤ reachBytes ∧ x.f6.length ≤ maxLen ∧ ∀ e4 ∈ x.f6, (Lit.int .i64 e4).wf = true) ∧ (x.f7.length * Try.prog.bytesOf 3 ≤ reachBytes ∧ x.f7.length ≤ maxLen ∧ ∀ e4 ∈ x.f7, (Lit.int .i64 e4).wf = true) ∧ (x.f8.length * Try.prog.bytesOf 115 ≤ reachBytes ∧ x.f8.length ≤ maxLen ∧ ∀ e4 ∈ x.f8, Good115 e4) ∧ (x.f9.length * Try.prog.bytesOf 3 ≤ reachBytes ∧ x.f9.length ≤ maxLen ∧ ∀ e4 ∈ x.f9, (Lit.int .i64 e4).wf = true) ∧ (x.f10.length * Try.prog.bytesOf 3 ≤ reachBytes ∧ x.f10.length ≤ maxLen ∧ ∀ e5 ∈ x.f10, (Lit.int .i64 e5).wf = true) ∧ (x.f11.length * Try.prog.bytesOf 117 ≤ reachBytes ∧ x.f11.length ≤ maxLen ∧ ∀ e5 ∈ x.f11, Good117 e5)
theorem open40 : Opens enc Try.prog w 40 QJb.k40 Good40 :=
  opens_iso (fun x : QJb.S40 => (x.f0, x.f1, x.f2, x.f3, x.f4, x.f5, x.f6, x.f7, x.f8, x.f9, x.f10, x.f11)) (fun p => ⟨p.1, p.2.1, p.2.2.1, p.2.2.2.1, p.2.2.2.2.1, p.2.2.2.2.2.1, p.2.2.2.2.2.2.1, p.2.2.2.2.2.2.2.1, p.2.2.2.2.2.2.2.2.1, p.2.2.2.2.2.2.2.2.2.1, p.2.2.2.2.2.2.2.2.2.2.1, p.2.2.2.2.2.2.2.2.2.2.2⟩) (fun _ => rfl) ((opens_struct Try.underlying40 (by kernel_rfl) (opensF_cons rfl (by kernel_rfl) (opens_int Try.underlying3) (opensF_cons rfl (by kernel_rfl) (opens_slice Try.underlying35 (by kernel_rfl) open113) (opensF_cons rfl (by kernel_rfl) (opens_int Try.underlying3) (opensF_cons rfl (by kernel_rfl) (opens_int Try.underlying3) (opensF_cons rfl (by kernel_rfl) (opens_slice Try.underlying30 (by kernel_rfl) (opens_int Try.underlying3)) (opensF_cons rfl (by kernel_rfl) (opens_slice Try.underlying36 (by kernel_rfl) open49) (opensF_cons rfl (by kernel_rfl) (opens_slice Try.underlying30 (by kernel_rfl) (opens_int Try.underlying3)) (opensF_cons rfl (by kernel_rfl) (opens_slice Try.underlying30 (by kernel_rfl) (opens_int Try.underlying3)) (opensF_cons rfl (by kernel_rfl) (opens_slice Try.underlying37 (by kernel_rfl) open115) (opensF_cons rfl (by kernel_rfl) (opens_slice Try.underlying30 (by kernel_rfl) (opens_int Try.underlying3)) (opensF_cons rfl (by kernel_rfl) (opens_slice Try.underlying30 (by kernel_rfl) (opens_int Try.underlying3)) (opensF_one rfl (by kernel_rfl) (opens_slice Try.underlying38 (by kernel_rfl) open117)))))))))))))).imp fun x hx => hx)
def Good43 (x : QJb.S43) : Prop := ((Lit.int .i64 x.f0).wf = true) ∧ ((Lit.int .i64 x.f1).wf = true)
theorem open43 : Opens enc Try.prog w 43 QJb.k43 Good43 :=
  opens_iso (fun x : QJb.S43 => (x.f0, x.f1)) (fun p => ⟨p.1, p.2⟩) (fun _ => rfl) ((opens_struct Try.underlying43 (by kernel_rfl) (opensF_cons rfl (by kernel_rfl) (opens_int Try.underlying2) (opensF_one rfl (by kernel_rfl) (opens_int Try.underlying2)))).imp fun x hx => hx)
def Good45 (x : QJb.S45) : Prop := (x.f0.length * Try.prog.bytesOf 2 ≤ reachBytes ∧ x.f0.length ≤ maxLen ∧ ∀ e4 ∈ x.f0, (Lit.int .i64 e4).wf = true) ∧ (x.f1.length * Try.prog.bytesOf 2 ≤ reachBytes ∧ x.f1.length ≤ maxLen ∧ ∀ e4 ∈ x.f1, (Lit.int .i64 e4).wf = true) ∧ (x.f2.length * Try.prog.bytesOf 3 ≤ reachBytes ∧ x.f2.length ≤ maxLen ∧ ∀ e4 ∈ x.f2, (Lit.int .i64 e4).wf = true) ∧ (Good43 x.f3)
theorem open45 : Opens enc Try.prog w 45 QJb.k45 Good45 :=
  opens_iso (fun x : QJb.S45 => (x.f0, x.f1, x.f2, x.f3)) (fun p => ⟨p.1, p.2.1, p.2.2.1, p.2.2.2⟩) (fun _ => rfl) ((opens_struct Try.underlying45 (by kernel_rfl) (opensF_cons rfl (by kernel_rfl) (opens_slice Try.underlying41 (by kernel_rfl) (opens_int Try.underlying2)) (opensF_cons rfl (by kernel_rfl) (opens_slice Try.underlying41 (by kernel_rfl) (opens_int Try.underlying2)) (opensF_cons rfl (by kernel_rfl) (opens_slice Try.underlying30 (by kernel_rfl) (opens_int Try.underlying3)) (opensF_one rfl (by kernel_rfl) open43))))).imp fun x hx => hx)
end
set_option maxRecDepth 100000 in
theorem lifted (os : Os) (started : os.Started) (H : Type) (enc : TypeId × Value → H) :
    ReturnsInHanded {} Try.checked os 5 .any (Rows.schedulerJobsSpec.pre6 enc Try.prog Try.f5 Rows.schedulerJobsRow.domain false) (Rows.schedulerJobsSpec.post enc Try.prog Try.f5 false true false false) := by
  refine law_lifted (C := Try.checked) (rt := 4) own started (by kernel_rfl) Try.func5
    (ChangeSpec.witness6 (enc := enc) (C := Try.checked) false ⟨#[], #[.agg #[.int .i64 0, .slice none 0 0, .int .i64 0, .int .i64 0, .slice none 0 0, .slice none 0 0, .slice none 0 0, .slice none 0 0, .slice none 0 0, .slice none 0 0, .slice none 0 0, .slice none 0 0], .agg #[.slice none 0 0, .slice none 0 0, .slice none 0 0, .int .i64 0, .int .i64 0]], []⟩ 8 (by kernel_rfl) (by kernel_rfl) (by kernel_rfl) (by kernel_rfl)) laidOut rfl (by kernel_rfl) rfl Try.underlying4 ?_ ?_
  · intro ds hds
    match ds, hds with
    | [d0, d1], _ => rfl
  · intro W args ds pl hval0 hA0 hw0
    have hval : ∀ (j : Nat) t v, Try.f5.params[j]? = some t → args[j]? = some v → ∃ base, Value.okWide Try.prog W .any base t v := hval0
    have hA : DataW.TrodAll enc Try.prog W 0 (fun _ => true) true Try.f5.params.toList args.toList ds pl := hA0
    have hw : ∀ n ∈ DataW.weightsEach Try.prog Try.f5.params.toList ds, n ≤ reachBytes := hw0
    rw [Try.params5] at hA hval hw
    clear hval0 hA0 hw0
    obtain ⟨v0, vs0, ds0, ps0, x0, e0, K0, g0, hA0, hw0⟩ := args_cons hA hw open40
    obtain ⟨v1, vs1, ds1, ps1, x1, e1, K1, g1, hA1, hw1⟩ := args_cons hA0 hw0 open45
    have hn := args_nil hA1
    obtain rfl : args = #[v0, v1] := by
      have : args.toList = [v0, v1] := by rw [e0, e1, hn]
      exact Array.ext' this
    obtain ⟨A1, c1, A4, c4, A5, c5, A6, c6, A7, c7, A8, c8, A9, c9, A10, c10, A11, c11, hc0, l1, q1, l4, q4, l5, q5, l6, q6, l7, q7, l8, q8, l9, q9, l10, q10, l11, q11⟩ := QJb.k40_open K0
    obtain ⟨B0, d0, B1, d1, B2, d2, hc1, m0, r0, m1, r1, m2, r2⟩ := QJb.k45_open K1
    obtain rfl := val_agg Try.underlying40 (hval 0 40 v0 rfl rfl) hc0
    obtain rfl := val_agg Try.underlying45 (hval 1 45 v1 rfl rfl) hc1
    exact QJb.Law_call (x := x0) (a := ⟨A1, A4, A5, A6, A7, A8, A9, A10, A11, c1, c4, c5, c6, c7, c8, c9, c10, c11⟩) x1.f3.f0 x1.f3.f1 ⟨l1, q1, l4, q4, l5, q5, l6, q6, l7, q7, l8, q8, l9, q9, l10, q10, l11, q11⟩ ⟨r0, m0, r2, m2, r1, m1⟩
theorem holds : Rows.SchedulerJobsSaid :=
  OpenClaim.holds_of_wide 5 Try.f5 rfl rfl rfl rfl rfl rfl rfl ⟨rfl, rfl, rfl, rfl, rfl⟩ rfl rfl rfl rfl rfl (by kernel_rfl) Try.func5 (by kernel_rfl)
    (of_decide_eq_true (by kernel_rfl)) (by unfold Func.isWrapper; first | (rw [if_pos (by decide +kernel)]; kernel_rfl) | (rw [if_neg (by decide +kernel)]; exact ⟨rfl, rfl⟩))
    (fun os started H enc _ => lifted os started H enc)
#print axioms holds
end Go.Proofs.Ytlklcfaejmeljaa.RowSchedulerJobs
