/- Whether a voyage may be: the reference tells the same. -/
import Derived.Test.YtbojieeildhlcaaDoorPortMay
import Derived.Test.YtbojieeildhlcaaDoorH21
namespace Go.Proofs.YtbojieeildhlcaaDoor.Port
open Go.RowKit Go.Proofs.YtbojieeildhlcaaDoorW.PrintWords Go.Proofs.YtbojieeildhlcaaDoorW.PrintLast Go.Proofs.YtbojieeildhlcaaDoorW.PrintMore Go.Proofs.YtbojieeildhlcaaDoor.G Go.Proofs.YtbojieeildhlcaaDoor.Ext
set_option linter.unusedVariables false
set_option linter.unusedSimpArgs false

theorem letter_v (a : Int) : supercargoref03_letter.f a = some (lowI a) := by
  unfold supercargoref03_letter.f lowI
  by_cases h : 97 ≤ a
  · rw [if_pos h, if_pos h]
  · rw [if_neg h, if_neg h]
theorem digit_v (a : Int) : supercargoref03_digit.f a = some (digI a) := by
  unfold supercargoref03_digit.f digI
  by_cases h : 48 ≤ a
  · rw [if_pos h, if_pos h]
  · rw [if_neg h, if_neg h]
theorem rday_v (a : Int) : supercargoref16_day.f a = some (inD a) := by
  unfold supercargoref16_day.f inD
  by_cases h : a ≥ 0
  · rw [if_pos h, if_pos h]
  · rw [if_neg h, if_neg h]
def fitB (s : ByteArray) : Bool := if 1 ≤ s.size then decide (s.size ≤ 16) else false
theorem rname_l0 (s : ByteArray) (hs : s.size ≤ 9223372036854775807) (d : Nat) : ∀ i : Nat, i + d = s.size → Ev (fun k => supercargoref03_Name.l0 k s (i : Nat)) (allFrom s i d && fitB s) := by
  induction d with
  | zero =>
    intro i hi
    refine succ ?_
    simp only [supercargoref03_Name.l0]
    refine ev_neg (by omega) ?_
    unfold fitB
    by_cases h : 1 ≤ s.size
    · refine ev_pos (by omega) (now ?_)
      rw [if_pos h]
      simp only [allFrom, Bool.true_and]
      exact decide_eq_decide.2 (by omega)
    · refine ev_neg (by omega) (now ?_)
      rw [if_neg h]; simp [allFrom]
  | succ d ih =>
    intro i hi
    have j1 : ∀ b : Bool, (b = !runI (bt s i)) → Ev (fun k => supercargoref03_Name.j1 k s (i : Nat) b) (allFrom s i (d + 1) && fitB s) := by
      intro b hb
      refine succ ?_
      simp only [supercargoref03_Name.j1]
      cases hr : runI (bt s i) with
      | true =>
        rw [hr] at hb
        subst hb
        refine ev_neg (by decide) ?_
        rw [allFrom_yes s i d hr, wrap_in (by omega) (by omega)]
        exact ih (i + 1) (by omega)
      | false =>
        rw [hr] at hb
        subst hb
        refine ev_pos (by decide) (now ?_)
        rw [allFrom_no s i d hr]; rfl
    refine succ ?_
    simp only [supercargoref03_Name.l0]
    refine ev_pos (by omega) (ev_pos (by omega) ?_)
    refine ev_some (letter_v _) (ev_ite (fun a => ?_) (fun a => ?_))
    · exact j1 false (by unfold runI; rw [a]; rfl)
    · refine ev_some (digit_v _) (ev_ite (fun b => ?_) (fun b => ?_))
      · exact j1 false (by unfold runI; rw [b]; simp)
      · exact j1 _ (by unfold runI; rw [Bool.eq_false_iff.2 a, Bool.eq_false_iff.2 b]; rfl)
theorem rname_ev (s : ByteArray) (hs : s.size ≤ 9223372036854775807) : Ev (fun k => supercargoref03_Name.f k s) (nameB s) := by
  have h := rname_l0 s hs s.size 0 (by omega)
  have e : nameB s = (allFrom s 0 s.size && fitB s) := by
    unfold nameB fitB allR
    by_cases h1 : 1 ≤ s.size
    · by_cases h2 : s.size ≤ 16
      · rw [if_pos h1, if_pos h2, if_pos h1, decide_eq_true h2, Bool.and_true]
      · rw [if_pos h1, if_neg h2, if_pos h1, decide_eq_false h2, Bool.and_false]
    · rw [if_neg h1, if_neg h1, Bool.and_false]
  rw [e]
  exact h
theorem rmay_l0 (s : ByteArray) (l : List S32) (hl : l.length ≤ 64) (hz : ∀ i : Nat, i < l.length → (rd_T32 l (i : Nat)).f0.size ≤ 9223372036854775807) (d : Nat) : ∀ i : Nat, i + d = l.length → Ev (fun k => supercargoref16_May.l0 k (i : Nat) s l) (callsOk l i d) := by
  induction d with
  | zero =>
    intro i hi
    refine succ ?_
    simp only [supercargoref16_May.l0]
    exact ev_neg (by omega) (now (by simp [callsOk]))
  | succ d ih =>
    intro i hi
    have next := ih (i + 1) (by omega)
    have hzi := Aside0.mk (hz i (by omega))
    clear hz ih
    have j3 : ∀ b : Bool, (b = true → callOk l i = false) → (b = false → callOk l i = true) → Ev (fun k => supercargoref16_May.j3 k (i : Nat) b s l) (callsOk l i (d + 1)) := by
      intro b h1 h2
      refine succ ?_
      simp only [supercargoref16_May.j3]
      cases b with
      | true => exact ev_pos rfl (now (by rw [callsOk_no (h1 rfl)]))
      | false =>
        refine ev_neg (by decide) ?_
        rw [callsOk_yes (h2 rfl), wrap_in (by omega) (by omega)]
        exact next
    have j2 : ∀ b : Bool, (b = true → callOk l i = false) → (b = false → callOk l i = prevOk l i) → Ev (fun k => supercargoref16_May.j2 k (i : Nat) b s l (rd_T32 l (i : Nat)).f0 (rd_T32 l (i : Nat)).f1 (rd_T32 l (i : Nat)).f2 (rd_T32 l (i : Nat)).f3) (callsOk l i (d + 1)) := by
      intro b h1 h2
      refine succ ?_
      simp only [supercargoref16_May.j2]
      cases b with
      | true => exact ev_pos rfl (now (by rw [callsOk_no (h1 rfl)]))
      | false =>
        have h3 := h2 rfl
        refine ev_neg (by decide) ?_
        rcases Nat.eq_zero_or_pos i with h0 | h0
        · refine ev_neg (by omega) (j3 _ (fun h => by cases h) (fun _ => ?_))
          rw [h3]; unfold prevOk; rw [if_neg (by omega)]
        · rw [wrap_in (x := (i : Int) - 1) (by omega) (by omega)]
          refine ev_pos (by omega) (ev_pos (by omega) (ev_pos (by omega) (ev_ite (fun a => ?_) (fun a => ?_))))
          · refine j3 _ (fun _ => ?_) (fun h => by cases h)
            rw [h3]; unfold prevOk; rw [if_pos h0, if_pos a]
          · refine j3 _ (fun h => ?_) (fun h => ?_)
            · rw [h3]; unfold prevOk; rw [if_pos h0, if_neg a, h]; rfl
            · rw [h3]; unfold prevOk; rw [if_pos h0, if_neg a, h]; rfl
    refine succ ?_
    simp only [supercargoref16_May.l0]
    refine ev_pos (by omega) (ev_pos (by omega) ?_)
    have bad : callOk l i = false → Ev (fun k => supercargoref16_May.j2 k (i : Nat) true s l (rd_T32 l (i : Nat)).f0 (rd_T32 l (i : Nat)).f1 (rd_T32 l (i : Nat)).f2 (rd_T32 l (i : Nat)).f3) (callsOk l i (d + 1)) := fun h => j2 true (fun _ => h) (fun h => by cases h)
    refine Ev.bind (rname_ev _ hzi.out) ?_
    refine ev_ite (fun a => ev_some (rday_v _) (ev_ite (fun c => ev_some (rday_v _) (ev_ite (fun e => ev_some (rday_v _) (ev_ite (fun b => ev_ite (fun g => ?_) (fun g => ?_)) (fun b => ?_))) (fun e => ?_))) (fun c => ?_))) (fun a => ?_)
    · exact bad (by unfold callOk; rw [a, b, c, e, decide_eq_true g]; rfl)
    · refine j2 _ (fun h => ?_) (fun h => ?_)
      · unfold callOk; rw [a, b, c, e, decide_eq_false g, h]; rfl
      · unfold callOk; rw [a, b, c, e, decide_eq_false g, h]; rfl
    · exact bad (by unfold callOk; rw [Bool.eq_false_iff.2 b]; simp)
    · exact bad (by unfold callOk; rw [Bool.eq_false_iff.2 e]; simp)
    · exact bad (by unfold callOk; rw [Bool.eq_false_iff.2 c]; simp)
    · exact bad (by unfold callOk; rw [Bool.eq_false_iff.2 a]; rfl)
/-- A voyage whose texts are of a size that a text can have. -/
def sized (v : S35) : Prop := v.f0.size ≤ 9223372036854775807 ∧ ∀ i : Nat, i < v.f1.length → (rd_T32 v.f1 (i : Nat)).f0.size ≤ 9223372036854775807
theorem rmay_ev (v : S35) (hz : sized v) : Ev (fun k => supercargoref16_May.f k v.f0 v.f1) (mayB v) := by
  have bad : mayB v = false → Ev (fun k => supercargoref16_May.j0 k true v.f0 v.f1) (mayB v) := by
    intro h
    refine succ ?_
    simp only [supercargoref16_May.j0]
    exact ev_pos trivial (now h.symm)
  unfold supercargoref16_May.f
  refine Ev.bind (rname_ev _ hz.1) (ev_ite (fun a => ev_ite (fun b => ?_) (fun b => ?_)) (fun a => ?_))
  · exact bad (by unfold mayB; rw [decide_eq_false (show ¬ 1 ≤ v.f1.length by omega)]; simp)
  · by_cases c : (v.f1.length : Int) > 64
    · rw [decide_eq_true c]
      exact bad (by unfold mayB; rw [decide_eq_false (show ¬ v.f1.length ≤ 64 by omega)]; simp)
    · rw [decide_eq_false c]
      refine succ ?_
      simp only [supercargoref16_May.j0]
      refine ev_neg (by decide) ?_
      have e : mayB v = callsOk v.f1 0 v.f1.length := by unfold mayB; rw [a, decide_eq_true (show 1 ≤ v.f1.length by omega), decide_eq_true (show v.f1.length ≤ 64 by omega)]; rfl
      rw [e]
      exact rmay_l0 v.f0 v.f1 (by omega) hz.2 v.f1.length 0 (by omega)
  · exact bad (by unfold mayB; rw [Bool.eq_false_iff.2 a]; rfl)
end Go.Proofs.YtbojieeildhlcaaDoor.Port
