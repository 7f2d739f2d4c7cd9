/- The whole text by the program: the tokens from a place on, as a relation; the program's Scan tells just them. -/
import Derived.Test.YtamgmceogjgijaaDoorTokA
import Derived.Test.YtamgmceogjgijaaDoorH11
namespace Go.Proofs.YtamgmceogjgijaaDoor.Tok
open Go.RowKit Go.Proofs.YtamgmceogjgijaaDoorW.PrintWords Go.Proofs.YtamgmceogjgijaaDoorW.PrintLast Go.Proofs.YtamgmceogjgijaaDoorW.PrintMore Go.Proofs.YtamgmceogjgijaaDoor.G Go.Proofs.YtamgmceogjgijaaDoor.Ext
set_option linter.unusedVariables false
set_option linter.unusedSimpArgs false

/-- The first place from i on where no blank stands. -/
def bl (s : ByteArray) (i : Nat) : Nat := spanN blankI s i (s.size - i)
def tkS (s : ByteArray) (j : Nat) : S31 := ⟨(tokAt s j).kind, (j : Nat), (tokAt s j).text⟩
/-- The tokens from place i on, the place where it ends, the error. -/
inductive Run (s : ByteArray) : Nat → List S31 → Nat → Int → Prop
  | done {i : Nat} : bl s i = s.size → Run s i [] s.size 0
  | stop {i j : Nat} : bl s i = j → j < s.size → (tokAt s j).err ≠ 0 → Run s i [] j (tokAt s j).err
  | step {i j : Nat} {l : List S31} {n : Nat} {e : Int} : bl s i = j → j < s.size → (tokAt s j).err = 0 → Run s (tokAt s j).fin l n e → Run s i (tkS s j :: l) n e
theorem bl_range (s : ByteArray) (i : Nat) (hi : i ≤ s.size) : i ≤ bl s i ∧ bl s i ≤ s.size := by
  have := span_range blankI s (s.size - i) i
  unfold bl
  omega
theorem fin_range (s : ByteArray) (j : Nat) (hj : j < s.size) (hs : s.size ≤ 1000000) (h : (tokAt s j).err = 0) : j < (tokAt s j).fin ∧ (tokAt s j).fin ≤ s.size := by
  obtain ⟨_, _, _, _, h2⟩ := one_eq s j hj hs
  exact (h2 h).2.2.2
theorem run_ex (s : ByteArray) (hs : s.size ≤ 1000000) (d : Nat) : ∀ i, i ≤ s.size → s.size - i ≤ d → ∃ l n e, Run s i l n e ∧ l.length ≤ s.size - i ∧ n ≤ s.size := by
  induction d with
  | zero =>
    intro i h1 h2
    have := bl_range s i h1
    exact ⟨[], _, _, .done (by omega), by simp, Nat.le_refl _⟩
  | succ d ih =>
    intro i h1 h2
    have hb := bl_range s i h1
    by_cases h : bl s i = s.size
    · exact ⟨[], _, _, .done h, by simp, Nat.le_refl _⟩
    · by_cases he : (tokAt s (bl s i)).err = 0
      · have hf := fin_range s (bl s i) (by omega) hs he
        obtain ⟨l, n, e, hr, hl, hn⟩ := ih (tokAt s (bl s i)).fin hf.2 (by omega)
        exact ⟨_, n, e, .step rfl (by omega) he hr, by simp only [List.length_cons]; omega, hn⟩
      · exact ⟨[], _, _, .stop rfl (by omega) he, by simp, by omega⟩
theorem run_end {s : ByteArray} {i n : Nat} {l : List S31} (h : Run s i l n 0) : n = s.size := by
  generalize he : (0 : Int) = e at h
  induction h with
  | done _ => rfl
  | stop _ _ h => exact absurd he.symm h
  | step _ _ _ _ ih => exact ih he
theorem run_stop {s : ByteArray} {i n : Nat} {l : List S31} {e : Int} (h : Run s i l n e) (he : e ≠ 0) : n < s.size := by
  induction h with
  | done _ => exact absurd rfl he
  | stop _ h _ => exact h
  | step _ _ _ _ ih => exact ih he
theorem blank_v (s : ByteArray) (i : Nat) (hi : i ≤ s.size) (hs : s.size ≤ 1000000) : token_span_blank.f (s.extract i s.size) = some ((bl s i - i : Nat) : Int) := by
  have hsz := size_ex s i s.size (Nat.le_refl _)
  have hsp := span_ex blankI s i s.size (Nat.le_refl _) (s.size - i) 0 (by omega)
  rw [Nat.add_zero] at hsp
  unfold token_span_blank.f
  rw [if_pos (by omega), hsz]
  congr 1
  unfold bl
  omega
theorem scan_l0 {s : ByteArray} (hs : s.size ≤ 1000000) {i n : Nat} {l : List S31} {e : Int} (h : Run s i l n e) : ∀ acc : List S31, i ≤ s.size → acc.length + l.length < 4096 → Ev (fun k => token_Scan.l0 k s acc i) (if e = 0 then acc ++ l else [], (n : Int), e) := by
  have hw : ∀ i, i ≤ s.size → wrap64 ((i : Int) + ((bl s i - i : Nat) : Int)) = (bl s i : Nat) := by
    intro i hi
    have := bl_range s i hi
    rw [wrap_in (by omega) (by omega)]
    omega
  induction h with
  | @done i hb =>
    intro acc hi hl
    refine succ ?_
    simp only [token_Scan.l0]
    refine ev_pos (by omega) (ev_pos (by omega) (ev_some (blank_v s i hi hs) ?_))
    rw [hw i hi, hb, List.append_nil]
    simp only [if_true]
    exact Ev.now _
  | @stop i j hb hj he =>
    intro acc hi hl
    refine succ ?_
    simp only [token_Scan.l0]
    refine ev_pos (by omega) (ev_pos (by omega) (ev_some (blank_v s i hi hs) ?_))
    rw [hw i hi, hb, if_neg he]
    obtain ⟨k, m, tx, ho, _⟩ := one_eq s j hj hs
    refine ev_neg (by omega) (ev_neg (by simp only [List.length_nil] at hl; omega) (ev_pos (by omega) (ev_pos (by omega) (ev_some ho ?_))))
    exact ev_neg he (Ev.now _)
  | @step i j l n e hb hj he hr ih =>
    intro acc hi hl
    refine succ ?_
    simp only [token_Scan.l0]
    refine ev_pos (by omega) (ev_pos (by omega) (ev_some (blank_v s i hi hs) ?_))
    rw [hw i hi, hb]
    obtain ⟨k, m, tx, ho, hv⟩ := one_eq s j hj hs
    obtain ⟨rfl, rfl, hm, hf1, hf2⟩ := hv he
    simp only [List.length_cons] at hl
    refine ev_neg (by omega) (ev_neg (by omega) (ev_pos (by omega) (ev_pos (by omega) (ev_some ho ?_))))
    refine ev_pos he (ev_pos (by omega) ?_)
    show Ev (fun k => token_Scan.l0 k s (acc ++ [tkS s j]) (wrap64 ((j : Int) + m))) _
    rw [hm, wrap_in (by omega) (by omega)]
    have := ih (acc ++ [tkS s j]) hf2 (by simp only [List.length_append, List.length_cons, List.length_nil]; omega)
    rw [List.append_assoc] at this
    exact this
/-- The program's Scan of a text. -/
theorem scan_ev {s : ByteArray} (hs : s.size ≤ 1000000) {n : Nat} {l : List S31} {e : Int} (h : Run s 0 l n e) (hl : l.length < 4096) : Ev (fun k => token_Scan.f k s) (if e = 0 then l else [], (n : Int), e) := by
  have := scan_l0 hs h [] (Nat.zero_le _) (by simpa using hl)
  simpa [token_Scan.f] using this
end Go.Proofs.YtamgmceogjgijaaDoor.Tok
