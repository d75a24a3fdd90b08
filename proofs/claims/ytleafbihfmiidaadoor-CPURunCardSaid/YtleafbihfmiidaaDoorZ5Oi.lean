/- What this claim needs of Oi. Parted by prune.py. -/
import Derived.Test.YtleafbihfmiidaaDoorZ5Op
namespace Go.Proofs.YtleafbihfmiidaaDoor.Kc
open Go.RowKit Go.WideShapes Go.ChangeShapes Go.Proofs.YtleafbihfmiidaaDoor.Ka
open Go.Proofs.YtleafbihfmiidaaDoorW.PrintWords
open Go.Proofs.YtleafbihfmiidaaDoor.QAl
abbrev OneV := { v : Value // v.oneCell' = true }
abbrev kAny : Kd OneV := Kd.scalar (fun v : OneV => v.1) (fun v => v.2)
section
variable {H : Type} {enc : TypeId × Value → H} {w : World}
theorem opens_any {P : Program} {t e : TypeId} (hu : P.underlying t = some (.slice e)) : Opens enc P w t kAny (fun _ => True) := by
  intro fuel cs dt ps h hw
  rcases Deep.open_slice hu h with ⟨rfl, _⟩ | ⟨a, len, cap, _, n, D, Pl, rfl, _⟩
  · exact ⟨⟨.slice none 0 0, rfl⟩, rfl, trivial⟩
  · exact ⟨⟨.slice (some a) len cap, rfl⟩, rfl, trivial⟩
def Good96 (x : S96) : Prop := (x.f0.size ≤ reachBytes) ∧ ((Lit.int .i64 x.f1).wf = true) ∧ ((Lit.int .i16 x.f2).wf = true) ∧ ((Lit.int .i64 x.f3).wf = true)
set_option maxRecDepth 100000 in
theorem open96 : Opens enc Tryd.prog w 96 k96 Good96 :=
  opens_iso (fun x : S96 => (x.f0, x.f1, x.f2, x.f3)) (fun p => ⟨p.1, p.2.1, p.2.2.1, p.2.2.2⟩) (fun _ => rfl) ((opens_struct Tryd.underlying96 (by kernel_rfl) (opensF_cons rfl (by kernel_rfl) (opens_string Tryd.underlying9) (opensF_cons rfl (by kernel_rfl) (opens_int Tryd.underlying3) (opensF_cons rfl (by kernel_rfl) (opens_int Tryd.underlying22) (opensF_one rfl (by kernel_rfl) (opens_int Tryd.underlying3)))))).imp fun x hx => hx)
def Good72 (x : S72) : Prop := ((Lit.int .i64 x.f0).wf = true) ∧ ((Lit.int .i64 x.f1).wf = true) ∧ ((Lit.int .i64 x.f2).wf = true) ∧ ((Lit.int .i64 x.f3).wf = true) ∧ ((Lit.int .i16 x.f4).wf = true)
set_option maxRecDepth 100000 in
theorem open72 : Opens enc Tryd.prog w 72 k72 Good72 :=
  opens_iso (fun x : S72 => (x.f0, x.f1, x.f2, x.f3, x.f4)) (fun p => ⟨p.1, p.2.1, p.2.2.1, p.2.2.2.1, p.2.2.2.2⟩) (fun _ => rfl) ((opens_struct Tryd.underlying72 (by kernel_rfl) (opensF_cons rfl (by kernel_rfl) (opens_int Tryd.underlying3) (opensF_cons rfl (by kernel_rfl) (opens_int Tryd.underlying3) (opensF_cons rfl (by kernel_rfl) (opens_int Tryd.underlying3) (opensF_cons rfl (by kernel_rfl) (opens_int Tryd.underlying3) (opensF_one rfl (by kernel_rfl) (opens_int Tryd.underlying22))))))).imp fun x hx => hx)
def Good100 (x : S100) : Prop := ((Lit.int .i64 x.f0).wf = true) ∧ ((Lit.int .i64 x.f1).wf = true) ∧ ((Lit.int .i64 x.f2).wf = true)
set_option maxRecDepth 100000 in
theorem open100 : Opens enc Tryd.prog w 100 k100 Good100 :=
  opens_iso (fun x : S100 => (x.f0, x.f1, x.f2)) (fun p => ⟨p.1, p.2.1, p.2.2⟩) (fun _ => rfl) ((opens_struct Tryd.underlying100 (by kernel_rfl) (opensF_cons rfl (by kernel_rfl) (opens_int Tryd.underlying3) (opensF_cons rfl (by kernel_rfl) (opens_int Tryd.underlying3) (opensF_one rfl (by kernel_rfl) (opens_int Tryd.underlying3))))).imp fun x hx => hx)
abbrev TImage : Type := (Int) × (List S96) × (Int) × (Int) × (List Int) × (OneV) × (List Int) × (OneV) × (OneV) × (OneV) × (OneV) × (List S72)
abbrev kImage : Kd TImage := (Kd.pair (Kd.int .i64) (Kd.pair (Kd.slice 96 k96) (Kd.pair (Kd.int .i64) (Kd.pair (Kd.int .i64) (Kd.pair (Kd.slice 3 (Kd.int .i64)) (Kd.pair kAny (Kd.pair (Kd.slice 3 (Kd.int .i64)) (Kd.pair kAny (Kd.pair kAny (Kd.pair kAny (Kd.pair kAny (Kd.slice 72 k72))))))))))))
abbrev GImage (x : TImage) : Prop := ((Lit.int .i64 x.1).wf = true) ∧ (x.2.1.length * Tryd.prog.bytesOf 96 ≤ reachBytes ∧ x.2.1.length ≤ maxLen ∧ ∀ e5 ∈ x.2.1, Good96 e5) ∧ ((Lit.int .i64 x.2.2.1).wf = true) ∧ ((Lit.int .i64 x.2.2.2.1).wf = true) ∧ (x.2.2.2.2.1.length * Tryd.prog.bytesOf 3 ≤ reachBytes ∧ x.2.2.2.2.1.length ≤ maxLen ∧ ∀ e11 ∈ x.2.2.2.2.1, (Lit.int .i64 e11).wf = true) ∧ (True) ∧ (x.2.2.2.2.2.2.1.length * Tryd.prog.bytesOf 3 ≤ reachBytes ∧ x.2.2.2.2.2.2.1.length ≤ maxLen ∧ ∀ e15 ∈ x.2.2.2.2.2.2.1, (Lit.int .i64 e15).wf = true) ∧ (True) ∧ (True) ∧ (True) ∧ (True) ∧ (x.2.2.2.2.2.2.2.2.2.2.2.length * Tryd.prog.bytesOf 72 ≤ reachBytes ∧ x.2.2.2.2.2.2.2.2.2.2.2.length ≤ maxLen ∧ ∀ e23 ∈ x.2.2.2.2.2.2.2.2.2.2.2, Good72 e23)
set_option maxRecDepth 100000 in
theorem opens_Image : Opens enc Tryd.prog w 47 kImage GImage :=
  opens_struct Tryd.underlying47 (by kernel_rfl) (opensF_cons rfl (by kernel_rfl) (opens_int Tryd.underlying3) (opensF_cons rfl (by kernel_rfl) (opens_slice Tryd.underlying42 (by kernel_rfl) open96) (opensF_cons rfl (by kernel_rfl) (opens_int Tryd.underlying3) (opensF_cons rfl (by kernel_rfl) (opens_int Tryd.underlying3) (opensF_cons rfl (by kernel_rfl) (opens_slice Tryd.underlying27 (by kernel_rfl) (opens_int Tryd.underlying3)) (opensF_cons rfl (by kernel_rfl) (opens_any Tryd.underlying43) (opensF_cons rfl (by kernel_rfl) (opens_slice Tryd.underlying27 (by kernel_rfl) (opens_int Tryd.underlying3)) (opensF_cons rfl (by kernel_rfl) (opens_any Tryd.underlying27) (opensF_cons rfl (by kernel_rfl) (opens_any Tryd.underlying44) (opensF_cons rfl (by kernel_rfl) (opens_any Tryd.underlying27) (opensF_cons rfl (by kernel_rfl) (opens_any Tryd.underlying27) (opensF_one rfl (by kernel_rfl) (opens_slice Tryd.underlying45 (by kernel_rfl) open72)))))))))))))
theorem Image_list {x : TImage} {l : List Value} (h : kImage.K w x l) :
    ∃ (A1 : Option Addr) (c1 : Nat) (A4 : Option Addr) (c4 : Nat) (A6 : Option Addr) (c6 : Nat) (A11 : Option Addr) (c11 : Nat), l = [.int .i64 x.1, .slice A1 x.2.1.length c1, .int .i64 x.2.2.1, .int .i64 x.2.2.2.1, .slice A4 x.2.2.2.2.1.length c4, x.2.2.2.2.2.1.1, .slice A6 x.2.2.2.2.2.2.1.length c6, x.2.2.2.2.2.2.2.1.1, x.2.2.2.2.2.2.2.2.1.1, x.2.2.2.2.2.2.2.2.2.1.1, x.2.2.2.2.2.2.2.2.2.2.1.1, .slice A11 x.2.2.2.2.2.2.2.2.2.2.2.length c11] ∧ (x.2.1.length ≤ c1 ∧ Kd.C k96 w A1 x.2.1.length x.2.1) ∧ (x.2.2.2.2.1.length ≤ c4 ∧ Kd.C (Kd.int .i64) w A4 x.2.2.2.2.1.length x.2.2.2.2.1) ∧ (x.2.2.2.2.2.2.1.length ≤ c6 ∧ Kd.C (Kd.int .i64) w A6 x.2.2.2.2.2.2.1.length x.2.2.2.2.2.2.1) ∧ (x.2.2.2.2.2.2.2.2.2.2.2.length ≤ c11 ∧ Kd.C k72 w A11 x.2.2.2.2.2.2.2.2.2.2.2.length x.2.2.2.2.2.2.2.2.2.2.2) := by
  obtain ⟨q0, r0, e0, K0, R0⟩ := h
  have d0 : q0 = [.int .i64 x.1] := K0
  obtain ⟨q1, r1, e1, K1, R1⟩ := R0
  obtain ⟨A1, c1, d1, hc1, hr1⟩ := K1
  obtain ⟨q2, r2, e2, K2, R2⟩ := R1
  have d2 : q2 = [.int .i64 x.2.2.1] := K2
  obtain ⟨q3, r3, e3, K3, R3⟩ := R2
  have d3 : q3 = [.int .i64 x.2.2.2.1] := K3
  obtain ⟨q4, r4, e4, K4, R4⟩ := R3
  obtain ⟨A4, c4, d4, hc4, hr4⟩ := K4
  obtain ⟨q5, r5, e5, K5, R5⟩ := R4
  have d5 : q5 = [x.2.2.2.2.2.1.1] := K5
  obtain ⟨q6, r6, e6, K6, R6⟩ := R5
  obtain ⟨A6, c6, d6, hc6, hr6⟩ := K6
  obtain ⟨q7, r7, e7, K7, R7⟩ := R6
  have d7 : q7 = [x.2.2.2.2.2.2.2.1.1] := K7
  obtain ⟨q8, r8, e8, K8, R8⟩ := R7
  have d8 : q8 = [x.2.2.2.2.2.2.2.2.1.1] := K8
  obtain ⟨q9, r9, e9, K9, R9⟩ := R8
  have d9 : q9 = [x.2.2.2.2.2.2.2.2.2.1.1] := K9
  obtain ⟨q10, r10, e10, K10, R10⟩ := R9
  have d10 : q10 = [x.2.2.2.2.2.2.2.2.2.2.1.1] := K10
  obtain ⟨A11, c11, d11, hc11, hr11⟩ := R10
  refine ⟨A1, c1, A4, c4, A6, c6, A11, c11, ?_, ⟨hc1, hr1⟩, ⟨hc4, hr4⟩, ⟨hc6, hr6⟩, ⟨hc11, hr11⟩⟩
  rw [e0, d0, e1, d1, e2, d2, e3, d3, e4, d4, e5, d5, e6, d6, e7, d7, e8, d8, e9, d9, e10, d10, d11]
  rfl
abbrev TWorld : Type := (List Int) × (List Int) × (Int) × (List S100)
abbrev kWorld : Kd TWorld := (Kd.pair (Kd.slice 22 (Kd.int .i16)) (Kd.pair (Kd.slice 22 (Kd.int .i16)) (Kd.pair (Kd.int .i64) (Kd.slice 100 k100))))
abbrev GWorld (x : TWorld) : Prop := (x.1.length * Tryd.prog.bytesOf 22 ≤ reachBytes ∧ x.1.length ≤ maxLen ∧ ∀ e3 ∈ x.1, (Lit.int .i16 e3).wf = true) ∧ (x.2.1.length * Tryd.prog.bytesOf 22 ≤ reachBytes ∧ x.2.1.length ≤ maxLen ∧ ∀ e5 ∈ x.2.1, (Lit.int .i16 e5).wf = true) ∧ ((Lit.int .i64 x.2.2.1).wf = true) ∧ (x.2.2.2.length * Tryd.prog.bytesOf 100 ≤ reachBytes ∧ x.2.2.2.length ≤ maxLen ∧ ∀ e7 ∈ x.2.2.2, Good100 e7)
set_option maxRecDepth 100000 in
theorem opens_World : Opens enc Tryd.prog w 50 kWorld GWorld :=
  opens_struct Tryd.underlying50 (by kernel_rfl) (opensF_cons rfl (by kernel_rfl) (opens_slice Tryd.underlying30 (by kernel_rfl) (opens_int Tryd.underlying22)) (opensF_cons rfl (by kernel_rfl) (opens_slice Tryd.underlying30 (by kernel_rfl) (opens_int Tryd.underlying22)) (opensF_cons rfl (by kernel_rfl) (opens_int Tryd.underlying3) (opensF_one rfl (by kernel_rfl) (opens_slice Tryd.underlying48 (by kernel_rfl) open100)))))
theorem World_list {x : TWorld} {l : List Value} (h : kWorld.K w x l) :
    ∃ (A0 : Option Addr) (c0 : Nat) (A1 : Option Addr) (c1 : Nat) (A3 : Option Addr) (c3 : Nat), l = [.slice A0 x.1.length c0, .slice A1 x.2.1.length c1, .int .i64 x.2.2.1, .slice A3 x.2.2.2.length c3] ∧ (x.1.length ≤ c0 ∧ Kd.C (Kd.int .i16) w A0 x.1.length x.1) ∧ (x.2.1.length ≤ c1 ∧ Kd.C (Kd.int .i16) w A1 x.2.1.length x.2.1) ∧ (x.2.2.2.length ≤ c3 ∧ Kd.C k100 w A3 x.2.2.2.length x.2.2.2) := by
  obtain ⟨q0, r0, e0, K0, R0⟩ := h
  obtain ⟨A0, c0, d0, hc0, hr0⟩ := K0
  obtain ⟨q1, r1, e1, K1, R1⟩ := R0
  obtain ⟨A1, c1, d1, hc1, hr1⟩ := K1
  obtain ⟨q2, r2, e2, K2, R2⟩ := R1
  have d2 : q2 = [.int .i64 x.2.2.1] := K2
  obtain ⟨A3, c3, d3, hc3, hr3⟩ := R2
  refine ⟨A0, c0, A1, c1, A3, c3, ?_, ⟨hc0, hr0⟩, ⟨hc1, hr1⟩, ⟨hc3, hr3⟩⟩
  rw [e0, d0, e1, d1, e2, d2, d3]
  rfl
abbrev kCase : Kd ((Int × List Int × List Int) × TWorld) := Kd.pair kState kWorld
def GState (x : Int × List Int × List Int) : Prop := (Lit.int .i64 x.1).wf = true ∧ (∀ v ∈ x.2.1, (Lit.int .i16 v).wf = true) ∧ (∀ v ∈ x.2.2, (Lit.int .i16 v).wf = true)
def GWorld' (x : TWorld) : Prop := GWorld x
set_option maxRecDepth 100000 in
theorem opens_Case : Opens enc Tryd.prog w 52 kCase (fun x => GState x.1 ∧ GWorld' x.2) := by
  have h1 : Opens enc Tryd.prog w 26 kState GState := opens_State
  have h2 : Opens enc Tryd.prog w 50 kWorld GWorld' := opens_World
  refine opens_struct Tryd.underlying52 ?_ (opensF_cons ?_ ?_ h1 (opensF_one ?_ ?_ h2))
  · kernel_rfl
  · rfl
  · kernel_rfl
  · rfl
  · kernel_rfl
end
end Go.Proofs.YtleafbihfmiidaaDoor.Kc
