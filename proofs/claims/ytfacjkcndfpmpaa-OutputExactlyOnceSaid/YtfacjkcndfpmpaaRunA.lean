/- Writes on a bank and on the reference: what they come to, over lists alone. -/
import Derived.Test.YtfacjkcndfpmpaaExam
namespace Go.Proofs.Ytfacjkcndfpmpaa.QAl
open Go.RowKit Go.Proofs.YtfacjkcndfpmpaaW.PrintWords Go.Proofs.YtfacjkcndfpmpaaW.PrintLast Go.Proofs.YtfacjkcndfpmpaaW.PrintMore Go.Proofs.Ytfacjkcndfpmpaa.Sl
set_option linter.unusedVariables false
set_option linter.unusedSimpArgs false

structure S46 where
  f0 : Int
  f1 : Int
  f2 : Int
def z46 : S46 := ⟨0, 0, 0⟩
def k46 : Kd S46 := Kd.iso (Kd.pair (Kd.int .i64) (Kd.pair (Kd.int .i64) (Kd.int .i16))) (fun x : S46 => (x.f0, x.f1, x.f2))
theorem k46_open {w : World} {x : S46} {cs : List Value} (h : k46.K w x cs) : cs = [.int .i64 x.f0, .int .i64 x.f1, .int .i16 x.f2] := by
  obtain ⟨c0, c1, rfl, h0, c2, c3, rfl, h2, h3⟩ := h
  have h0 : c0 = [.int .i64 x.f0] := h0
  have h2 : c2 = [.int .i64 x.f1] := h2
  have h3 : c3 = [.int .i16 x.f2] := h3
  rw [h0, h2, h3]
  rfl

def conv (x : S37) : S65 := ⟨x.f0, x.f1, x.f2⟩
abbrev St := List Int × List S37
def stepW (s : St) (a : S46) : St := if wrB s.1 s.2 a.f0 a.f1 = 0 then (s.1.set a.f1.toNat a.f2, s.2 ++ [⟨a.f0, a.f1, a.f2⟩]) else s
def runW (n : Nat) (l : List S46) : St := l.foldl stepW (List.replicate n 0, [])

theorem wr_zero {levels : List Int} {log : List S37} {seq port : Int} (h : wrB levels log seq port = 0) : seq = (log.length : Int) ∧ 0 ≤ port ∧ port < levels.length := by
  unfold wrB at h
  by_cases h1 : seq < 0 ∨ port < 0 ∨ (levels.length : Int) ≤ port
  · rw [if_pos h1] at h; omega
  · rw [if_neg h1] at h
    by_cases h2 : seq < (log.length : Int)
    · rw [if_pos h2] at h; omega
    · rw [if_neg h2] at h
      by_cases h3 : (log.length : Int) < seq
      · rw [if_pos h3] at h; omega
      · omega
theorem stepW_len (s : St) (a : S46) : (stepW s a).1.length = s.1.length ∧ (stepW s a).2.length ≤ s.2.length + 1 := by
  unfold stepW
  split
  · simp
  · exact ⟨rfl, by omega⟩
theorem foldW_len : ∀ (l : List S46) (s : St), (l.foldl stepW s).1.length = s.1.length ∧ (l.foldl stepW s).2.length ≤ s.2.length + l.length := by
  intro l
  induction l with
  | nil => intro s; exact ⟨rfl, by simp⟩
  | cons a l ih =>
    intro s
    have h1 := stepW_len s a
    have h2 := ih (stepW s a)
    simp only [List.foldl_cons, List.length_cons]
    omega
theorem runW_len (n : Nat) (l : List S46) : (runW n l).1.length = n ∧ (runW n l).2.length ≤ l.length := by
  have := foldW_len l (List.replicate n 0, [])
  simpa [runW] using this
theorem runW_succ (n : Nat) (l : List S46) (k : Nat) (h : k < l.length) : runW n (l.take (k + 1)) = stepW (runW n (l.take k)) l[k] := by
  unfold runW
  rw [List.take_succ_eq_append_getElem h, List.foldl_append]
  rfl

theorem refWrite {levels : List Int} {log : List S37} (seq port v : Int) (hlen : log.length < 1000) :
    trickleref49_Write.f 1 (levels.length : Int) (log.map conv) seq port v = some ((levels.length : Int), (stepW (levels, log) ⟨seq, port, v⟩).2.map conv, wrB levels log seq port) := by
  have hst : (stepW (levels, log) ⟨seq, port, v⟩).2.map conv = (if wrB levels log seq port = 0 then (log ++ [(⟨seq, port, v⟩ : S37)]).map conv else log.map conv) := by
    unfold stepW
    dsimp only
    split <;> rfl
  rw [hst]
  clear hst
  have hl : (log.map conv).length = log.length := by simp
  unfold trickleref49_Write.f
  by_cases h1 : seq < 0
  · have e : wrB levels log seq port = 1 := if_pos (.inl h1)
    rw [if_pos h1, trickleref49_Write.j0.eq_2, if_pos rfl, e, if_neg (by decide)]
  by_cases h2 : port < 0
  · have e : wrB levels log seq port = 1 := if_pos (.inr (.inl h2))
    rw [if_neg h1, if_pos h2, trickleref49_Write.j0.eq_2, if_pos rfl, e, if_neg (by decide)]
  by_cases h3 : (levels.length : Int) ≤ port
  · have e : wrB levels log seq port = 1 := if_pos (.inr (.inr h3))
    rw [if_neg h1, if_neg h2, trickleref49_Write.j0.eq_2, if_pos (decide_eq_true h3), e, if_neg (by decide)]
  have h123 : ¬ (seq < 0 ∨ port < 0 ∨ (levels.length : Int) ≤ port) := by omega
  rw [if_neg h1, if_neg h2, trickleref49_Write.j0.eq_2, if_neg (by rw [decide_eq_false h3]; decide), hl]
  by_cases h4 : seq < (log.length : Int)
  · have e : wrB levels log seq port = 11 := by unfold wrB; rw [if_neg h123, if_pos h4]
    rw [if_pos h4, e, if_neg (by decide)]
  by_cases h5 : seq > (log.length : Int)
  · have e : wrB levels log seq port = 10 := by unfold wrB; rw [if_neg h123, if_neg h4, if_pos h5]
    rw [if_neg h4, if_pos h5, e, if_neg (by decide)]
  · have e : wrB levels log seq port = 0 := by unfold wrB; rw [if_neg h123, if_neg h4, if_neg h5]
    rw [if_neg h4, if_neg h5, e, if_pos rfl, Option.bind_some, if_pos (by simp; omega), Option.bind_some, if_pos (by simp; omega)]
    simp [conv]

/-- A write, whatever it comes to. -/
theorem Write {w0 w : World} {g : Nat} {lv lg : Value} {s : St} {L : List Chunk} (seq port v : Int) (hM : Mem w0 w (bank w0 g lv lg s.1 s.2 L)) (hlen : s.1.length ≤ 1000) (hl : s.2.length < 5864062014805) :
    Calls Try.prog 19 #[.pointer (some ⟨g, 0, none⟩), .int .i64 seq, .int .i64 port, .int .i16 v] w fun e w' => ∃ lg', e = .returned (.int .i64 (wrB s.1 s.2 seq port)) ∧ Mem w0 w' (bank w0 g lv lg' (stepW s ⟨seq, port, v⟩).1 (stepW s ⟨seq, port, v⟩).2 L) := by
  unfold stepW
  by_cases h : wrB s.1 s.2 seq port = 0
  · dsimp only
    rw [if_pos h, h]
    obtain ⟨rfl, h0, h1⟩ := wr_zero h
    obtain ⟨p, rfl⟩ := Int.eq_ofNat_of_zero_le h0
    exact Write.good p v hM (by omega) hlen hl
  · dsimp only
    rw [if_neg h]
    exact (Write.bad seq port v hM h).mono fun e w' ⟨he, hw⟩ => ⟨lg, he, hw ▸ hM⟩
end Go.Proofs.Ytfacjkcndfpmpaa.QAl
