/- TokenBlanks, plain. -/
import Derived.Test.YtamgmceogjgijaaDoorTokL
import Derived.Test.YtamgmceogjgijaaDoorGx6
namespace Go.Proofs.YtamgmceogjgijaaDoor.Tok
open Go.RowKit Go.Proofs.YtamgmceogjgijaaDoorW.PrintWords Go.Proofs.YtamgmceogjgijaaDoorW.PrintLast Go.Proofs.YtamgmceogjgijaaDoorW.PrintMore Go.Proofs.YtamgmceogjgijaaDoor.G Go.Proofs.YtamgmceogjgijaaDoor.Ext
set_option linter.unusedVariables false
set_option linter.unusedSimpArgs false

theorem run_at {s : ByteArray} (hs : s.size ≤ 1000000) {i n : Nat} {l : List S31} {e : Int} (h : Run s i l n e) : i ≤ s.size → ∀ x, x ∈ l → 0 ≤ x.f1 ∧ x.f1 < s.size := by
  induction h with
  | done _ => intro _ x hx; cases hx
  | stop _ _ _ => intro _ x hx; cases hx
  | @step i j l n e hb hj he hr ih =>
    intro hi x hx
    rcases List.mem_cons.1 hx with h | h
    · subst h
      show 0 ≤ (j : Int) ∧ (j : Int) < s.size
      omega
    · exact ih (fin_range s j hj hs he).2 x h
def Bk (g : ByteArray) : Prop := ∀ k : Nat, k < g.size → blankI (bt g (k : Nat)) = true
theorem bk_app {g h : ByteArray} (h1 : Bk g) (h2 : Bk h) : Bk (g ++ h) := by
  intro k hk
  rw [ap_size] at hk
  rcases Nat.lt_or_ge k g.size with c | c
  · rw [bt_left g h k c]; exact h1 k c
  · obtain ⟨m, rfl⟩ : ∃ m, k = g.size + m := ⟨k - g.size, by omega⟩
    rw [bt_right g h m (by omega)]
    exact h2 m (by omega)
theorem bk32 : Bk ⟨#[32]⟩ := by
  intro k hk
  have : k = 0 := by have : (⟨#[32]⟩ : ByteArray).size = 1 := rfl; omega
  subst this; decide
theorem bk10 : Bk ⟨#[10]⟩ := by
  intro k hk
  have : k = 0 := by have : (⟨#[10]⟩ : ByteArray).size = 1 := rfl; omega
  subst this; decide
theorem bk0 : Bk (strOfNums [32]) := bk32
theorem shift_key (p : Nat) (l : List S31) : (shift p l).map key = l.map key := by
  unfold shift
  rw [List.map_map]
  rfl
theorem blanks_l2 {a0 g : ByteArray} {la lb : List S31} (ha : la.length ≤ 1000000) (hb : lb.length ≤ 1000000) (hz : a0.size ≤ 1000000) (hg : g.size ≤ 1000000) (hat : ∀ x, x ∈ lb → 0 ≤ x.f1 ∧ x.f1 ≤ 1000000) :
    Ev (fun k => supercargolaw27_TokenBlanks.l2 k a0 g la lb (la ++ shift (a0.size + g.size) lb) 0) true := by
  have hsl : (shift (a0.size + g.size) lb).length = lb.length := by simp [shift]
  suffices h : ∀ d i : Nat, i + d = lb.length → Ev (fun k => supercargolaw27_TokenBlanks.l2 k a0 g la lb (la ++ shift (a0.size + g.size) lb) (i : Nat)) true from h lb.length 0 (by omega)
  intro d
  induction d with
  | zero =>
    intro i hi
    refine succ ?_
    simp only [supercargolaw27_TokenBlanks.l2]
    exact ev_neg (by omega) (Ev.now _)
  | succ d ih =>
    intro i hi
    have hm : lb[i] ∈ lb := List.getElem_mem (by omega)
    have hx := hat _ hm
    have hrd : rd_T31 (la ++ shift (a0.size + g.size) lb) ((la.length + i : Nat) : Int) = ⟨lb[i].f0, lb[i].f1 + ((a0.size + g.size : Nat) : Int), lb[i].f2⟩ := by
      rw [rd_at _ (la.length + i) (by rw [List.length_append, hsl]; omega), List.getElem_append_right (by omega)]
      simp [shift]
    refine succ ?_
    simp only [supercargolaw27_TokenBlanks.l2]
    rw [wrap_in (x := (la.length : Int) + (i : Nat)) (by omega) (by omega), wrap_in (x := (i : Int) + 1) (by omega) (by omega), show (la.length : Int) + (i : Nat) = ((la.length + i : Nat) : Int) by omega, hrd, rd_at lb i (by omega), wrap_in (x := lb[i].f1 + (a0.size : Int)) (by omega) (by omega), wrap_in (x := lb[i].f1 + (a0.size : Int) + (g.size : Int)) (by omega) (by omega), List.length_append, hsl]
    exact ev_pos (by omega) (ev_pos (by omega) (ev_pos (by omega) (ev_pos (by omega) (ev_pos (by show lb[i].f1 + ((a0.size + g.size : Nat) : Int) = _; omega) (ih (i + 1) (by omega))))))
theorem blanks_main (a0 a1 g : ByteArray) (h0 : a0.size ≤ 1000) (h1 : a1.size ≤ 1000) (hg0 : 0 < g.size) (hg : g.size ≤ 17) (hbk : Bk g) (x3 : Int) (hx : ¬ ((0 : Int) < wrap64 (Int.tmod x3 9)) ∨ True) {q : Int} (hq : ¬ q < wrap64 (Int.tmod x3 9)) : Ev (fun k => supercargolaw27_TokenBlanks.l1 k a0 a1 x3 g q) true := by
  obtain ⟨la, n1, e, hr1, hl1, hn1⟩ := run_ex a0 (by omega) a0.size 0 (by omega) (by omega)
  obtain ⟨lb, n2, f, hr2, hl2, hn2⟩ := run_ex a1 (by omega) a1.size 0 (by omega) (by omega)
  have z1 := ap_size a0 g
  have z2 := ap_size (a0 ++ g) a1
  have hsl : (shift (a0.size + g.size) lb).length = lb.length := by simp [shift]
  refine succ ?_
  simp only [supercargolaw27_TokenBlanks.l1]
  refine ev_neg hq (Ev.bind (scan_ev (by omega) hr1 (by omega)) (Ev.bind (scan_ev (by omega) hr2 (by omega)) (ev_pos (by omega) (ev_pos (by omega) ?_))))
  by_cases he : e = 0
  · subst he
    have hj := run_join hg0 hbk (by omega) (by omega) hr1 hr2
    refine Ev.bind (scan_ev (by omega) hj (by rw [List.length_append, hsl]; omega)) ?_
    simp only [if_true]
    by_cases hf : f = 0
    · subst hf
      simp only [if_true]
      rw [List.length_append, hsl, wrap_in (x := (la.length : Int) + (lb.length : Int)) (by omega) (by omega)]
      refine ev_neg (by omega) (ev_pos (by omega) (ev_pos (by omega) (ev_pos (by omega) ?_)))
      rw [Int.toNat_natCast, List.take_left, List.drop_left]
      refine Ev.bind (same_self la (by omega)) (ev_pos rfl (Ev.bind (alike_ev _ _ (by rw [hsl]; omega) (shift_key _ _)) (succ ?_)))
      simp only [supercargolaw27_TokenBlanks.j3]
      exact ev_neg (by decide) (blanks_l2 (by omega) (by omega) (by omega) (by omega) (fun x hx => by have := run_at (by omega) hr2 (Nat.zero_le _) x hx; omega))
    · exact ev_neg hf (now (by rw [bne_iff_ne]; exact hf))
  · obtain ⟨lc, n3, g3, hr3, hl3, hn3⟩ := run_ex ((a0 ++ g) ++ a1) (by omega) ((a0 ++ g) ++ a1).size 0 (by omega) (by omega)
    refine Ev.bind (scan_ev (by omega) hr3 (by omega)) (ev_neg he ?_)
    by_cases hg3 : g3 = 0
    · refine ev_pos hg3 (now ?_)
      show decide ((((if g3 = 0 then lc else [] : List S31).length : Nat) : Int) > 0) = true
      rw [if_pos hg3, decide_eq_true_eq]
      cases hr3 with
      | done hb =>
        exfalso
        have hne : bl a0 0 < a0.size := by
          cases hr1 with
          | done _ => exact absurd rfl he
          | stop h _ _ => omega
          | step h _ _ _ => omega
        have hs := span_stop blankI a0 (a0.size - 0) 0 (by unfold bl at hne; omega)
        have hin := span_in blankI ((a0 ++ g) ++ a1) (((a0 ++ g) ++ a1).size - 0) 0 (bl a0 0) (Nat.zero_le _) (by unfold bl at hb; omega)
        rw [bt_left _ _ _ (by omega), bt_left _ _ _ hne] at hin
        have hs' : blankI (bt a0 (bl a0 0 : Nat)) = false := hs
        rw [hs'] at hin
        cases hin
      | stop _ _ h => exact absurd hg3 h
      | step _ _ _ _ => simp only [List.length_cons]; omega
    · exact ev_neg hg3 (Ev.now _)
theorem tmod9 {x : Int} (h : (Lit.int .u8 x).wf = true) : ∃ N : Nat, N ≤ 8 ∧ wrap64 (Int.tmod x 9) = (N : Int) := by
  have hx : 0 ≤ x ∧ x ≤ 255 := by simpa [Lit.wf, IntKind.min, IntKind.max, IntKind.bits, IntKind.signed] using h
  refine ⟨(x % 9).toNat, by omega, ?_⟩
  rw [Int.tmod_eq_emod_of_nonneg hx.1, wrap_in (by omega) (by omega)]
  omega
theorem blanks_l1 (a0 a1 : ByteArray) (h0 : a0.size ≤ 1000) (h1 : a1.size ≤ 1000) (x3 : Int) {N : Nat} (hN : N ≤ 8) (hx : wrap64 (Int.tmod x3 9) = (N : Int)) (d : Nat) : ∀ (i : Nat) (g : ByteArray), i + d = N → Bk g → 0 < g.size → g.size ≤ 9 + i → Ev (fun k => supercargolaw27_TokenBlanks.l1 k a0 a1 x3 g (i : Nat)) true := by
  induction d with
  | zero =>
    intro i g hi hb hg0 hg
    exact blanks_main a0 a1 g h0 h1 hg0 (by omega) hb x3 (.inr trivial) (by omega)
  | succ d ih =>
    intro i g hi hb hg0 hg
    have hz := ap_size g ⟨#[10]⟩
    have e1 : (⟨#[10]⟩ : ByteArray).size = 1 := rfl
    refine succ ?_
    simp only [supercargolaw27_TokenBlanks.l1]
    refine ev_pos (by omega) (ev_pos (by omega) ?_)
    rw [wrap_in (x := (i : Int) + 1) (by omega) (by omega)]
    exact ih (i + 1) _ (by omega) (bk_app hb bk10) (by omega) (by omega)
theorem blanks_l0 (a0 a1 : ByteArray) (h0 : a0.size ≤ 1000) (h1 : a1.size ≤ 1000) (x2 x3 : Int) {N M : Nat} (hN : N ≤ 8) (hx : wrap64 (Int.tmod x2 9) = (N : Int)) (hM : M ≤ 8) (hx3 : wrap64 (Int.tmod x3 9) = (M : Int)) (d : Nat) : ∀ (i : Nat) (g : ByteArray), i + d = N → Bk g → 0 < g.size → g.size ≤ 1 + i → Ev (fun k => supercargolaw27_TokenBlanks.l0 k a0 a1 x2 x3 g (i : Nat)) true := by
  induction d with
  | zero =>
    intro i g hi hb hg0 hg
    refine succ ?_
    simp only [supercargolaw27_TokenBlanks.l0]
    exact ev_neg (by omega) (blanks_l1 a0 a1 h0 h1 x3 hM hx3 M 0 g (by omega) hb hg0 (by omega))
  | succ d ih =>
    intro i g hi hb hg0 hg
    have hz := ap_size g ⟨#[32]⟩
    have e1 : (⟨#[32]⟩ : ByteArray).size = 1 := rfl
    refine succ ?_
    simp only [supercargolaw27_TokenBlanks.l0]
    refine ev_pos (by omega) (ev_pos (by omega) ?_)
    rw [wrap_in (x := (i : Int) + 1) (by omega) (by omega)]
    exact ih (i + 1) _ (by omega) (bk_app hb bk32) (by omega) (by omega)
theorem blanks_pure (a0 a1 : ByteArray) (a2 a3 : Int) (w2 : (Lit.int .u8 a2).wf = true) (w3 : (Lit.int .u8 a3).wf = true) : Ev (fun k => supercargolaw27_TokenBlanks.f k a0 a1 a2 a3) true := by
  obtain ⟨N, hN, hx⟩ := tmod9 w2
  obtain ⟨M, hM, hx3⟩ := tmod9 w3
  unfold supercargolaw27_TokenBlanks.f
  refine Ev.bind awake_ev (ev_pos rfl (ev_ite (fun _ => succ ?_) (fun a => succ ?_)))
  · simp only [supercargolaw27_TokenBlanks.j0]
    exact ev_pos trivial (Ev.now _)
  · simp only [supercargolaw27_TokenBlanks.j0]
    refine ev_ite (fun _ => Ev.now _) (fun b => ?_)
    rw [decide_eq_true_eq] at b
    exact blanks_l0 a0 a1 (by omega) (by omega) a2 a3 hN hx hM hx3 N 0 _ (by omega) bk0 (by decide) (by decide)
end Go.Proofs.YtamgmceogjgijaaDoor.Tok
