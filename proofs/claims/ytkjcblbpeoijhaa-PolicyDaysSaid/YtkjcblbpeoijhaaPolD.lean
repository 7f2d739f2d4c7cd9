/- Plain laws of the policy seat: what is covered, by the program and by the document. -/
import Derived.Test.YtkjcblbpeoijhaaPolC
import Derived.Test.YtkjcblbpeoijhaaGx9
import Derived.Test.YtkjcblbpeoijhaaGx10
namespace Go.Proofs.Ytkjcblbpeoijhaa.Pol
open Go.RowKit Go.Proofs.YtkjcblbpeoijhaaW.PrintWords Go.Proofs.YtkjcblbpeoijhaaW.PrintLast Go.Proofs.YtkjcblbpeoijhaaW.PrintMore Go.Proofs.Ytkjcblbpeoijhaa.G Go.Proofs.Ytkjcblbpeoijhaa.Ext
set_option linter.unusedVariables false

/-! ### is a cause among some -/
def memFrom (l : List Int) (c : Int) : Nat → Nat → Bool
  | _, 0 => false
  | i, d + 1 => if c = rd l i then true else memFrom l c (i + 1) d
theorem memFrom_yes {l : List Int} {c : Int} {i d : Nat} (h : c = rd l i) : memFrom l c i (d + 1) = true := by simp only [memFrom]; rw [if_pos h]
theorem memFrom_no {l : List Int} {c : Int} {i d : Nat} (h : ¬ c = rd l i) : memFrom l c i (d + 1) = memFrom l c (i + 1) d := by simp only [memFrom]; rw [if_neg h]
theorem index_l0 (l : List Int) (c : Int) (hl : l.length ≤ 100) (d : Nat) : ∀ i : Nat, i + d = l.length → ∃ j : Int, Ev (fun k => slices_Index_int_int.l0 k l c l.length i) j ∧ memFrom l c i d = decide (j ≥ 0) := by
  induction d with
  | zero =>
    intro i hi
    refine ⟨-1, succ ?_, by simp [memFrom]⟩
    simp only [slices_Index_int_int.l0]
    exact ev_neg (by omega) (Ev.now _)
  | succ d ih =>
    intro i hi
    by_cases h : c = rd l i
    · refine ⟨i, succ ?_, by rw [memFrom_yes h]; exact (decide_eq_true (by omega)).symm⟩
      simp only [slices_Index_int_int.l0]
      exact ev_pos (by omega) (ev_pos (by omega) (ev_pos (by omega) (ev_pos h (Ev.now _))))
    · obtain ⟨j, hj, hm⟩ := ih (i + 1) (by omega)
      refine ⟨j, succ ?_, by rw [memFrom_no h]; exact hm⟩
      simp only [slices_Index_int_int.l0]
      rw [wrap_in (by omega) (by omega)]
      exact ev_pos (by omega) (ev_pos (by omega) (ev_pos (by omega) (ev_neg h hj)))
theorem contains_ev (l : List Int) (c : Int) (hl : l.length ≤ 100) : Ev (fun k => slices_Contains_int_int.f k l c) (memFrom l c 0 l.length) := by
  obtain ⟨j, hj, hm⟩ := index_l0 l c hl l.length 0 (by omega)
  unfold slices_Contains_int_int.f slices_Index_int_int.f
  exact Ev.bind hj (now hm.symm)

/-! ### the way -/
theorem rd47_drop (l : List S47) (m : Nat) (j : Nat) : rd_T47 (l.drop m) j = rd_T47 l ((m + j : Nat) : Int) := by
  unfold rd_T47
  rw [Int.toNat_natCast, Int.toNat_natCast]
  simp [List.getD_eq_getElem?_getD, List.getElem?_drop]
theorem findH_drop (s : ByteArray) (l : List S47) (m : Nat) (d : Nat) : ∀ i, findH s (l.drop m) i d = if findH s l (m + i) d < 0 then -1 else findH s l (m + i) d - m := by
  induction d with
  | zero => intro i; simp [findH]
  | succ d ih =>
    intro i
    by_cases h : ((rd_T47 l ((m + i : Nat) : Int)).f3.toList == s.toList) = true
    · rw [findH_yes s (l.drop m) i d (by rw [rd47_drop]; exact h), findH_yes s l (m + i) d h, if_neg (by omega)]
      omega
    · rw [findH_no s (l.drop m) i d (by rw [rd47_drop]; exact Bool.eq_false_iff.2 h), findH_no s l (m + i) d (Bool.eq_false_iff.2 h), ih (i + 1)]
      rfl
/-- What is left of the way, its end not met yet. -/
def tailB (s : ByteArray) (l : List S47) (day : Int) (i d : Nat) : Bool := if findH s l i d < 0 then true else decide (day ≤ (rd_T47 l (findH s l i d)).f4)
/-- What is left of the way, its begin not met yet. -/
def headB (f1 f2 : ByteArray) (l : List S47) (day : Int) (i d : Nat) : Bool :=
  if findH f1 l i d < 0 then false else if day < (rd_T47 l (findH f1 l i d)).f4 then false else tailB f2 l day ((findH f1 l i d).toNat + 1) (l.length - ((findH f1 l i d).toNat + 1))
theorem onWay_eq (f1 f2 : ByteArray) (l : List S47) (day : Int) : onWayB f1 f2 l day = headB f1 f2 l day 0 l.length := by
  unfold onWayB headB
  by_cases h : findH f1 l 0 l.length < 0
  · rw [if_pos h, if_pos h]
  · rw [if_neg h, if_neg h]
    by_cases h2 : day < (rd_T47 l (findH f1 l 0 l.length)).f4
    · rw [if_pos h2, if_pos h2]
    · rw [if_neg h2, if_neg h2]
      obtain ⟨b, hb⟩ : ∃ b : Nat, findH f1 l 0 l.length = b := ⟨(findH f1 l 0 l.length).toNat, by omega⟩
      rw [hb, show ((b : Int) + 1).toNat = b + 1 by omega, Int.toNat_natCast, List.length_drop]
      unfold tailB
      rw [findH_drop, Nat.add_zero]
      have hr := findH_range f2 l (l.length - (b + 1)) (b + 1)
      by_cases h3 : findH f2 l (b + 1) (l.length - (b + 1)) < 0
      · simp only [if_pos h3]; rfl
      · simp only [if_neg h3]
        obtain ⟨e, he⟩ : ∃ e : Nat, findH f2 l (b + 1) (l.length - (b + 1)) = ((b + 1 + e : Nat) : Int) := ⟨(findH f2 l (b + 1) (l.length - (b + 1))).toNat - (b + 1), by omega⟩
        rw [he, show ((b + 1 + e : Nat) : Int) - ((b + 1 : Nat) : Int) = (e : Int) by omega, rd47_drop, if_neg (by omega)]
section
variable (f0 f1 f2 : ByteArray) (f3 f4 : Int) (l : List Int) (f6 f7 f8 : Int) (h : List S47) (day : Int)
theorem way_tail (hl : h.length ≤ 100) (b : Int) (hb : 0 ≤ b) (d : Nat) : ∀ i : Nat, i + d = h.length → Ev (fun k => supercargoref42_Way.l0 k h day b i f0 f1 f2 f3 f4 l f6 f7 f8) (tailB f2 h day i d) := by
  induction d with
  | zero =>
    intro i hi
    refine succ ?_
    simp only [supercargoref42_Way.l0]
    refine ev_neg (by omega) (now ?_)
    simp [tailB, findH, hb]
  | succ d ih =>
    intro i hi
    refine succ ?_
    simp only [supercargoref42_Way.l0]
    refine ev_pos (by omega) (ev_neg (by omega) (succ ?_))
    simp only [supercargoref42_Way.j1]
    refine ev_neg (by simp) (ev_pos (by omega) (ev_pos (by omega) (ev_pos (by omega) (ev_ite (fun a => now ?_) (fun a => ?_)))))
    · have e := findH_yes f2 h i d (by rw [beq_iff_eq]; exact a)
      unfold tailB
      rw [e, if_neg (by omega)]
    · have e := findH_no f2 h i d (by rw [beq_eq_false_iff_ne]; exact a)
      rw [wrap_in (by omega) (by omega)]
      unfold tailB
      rw [e]
      exact ih (i + 1) (by omega)
theorem way_head (hl : h.length ≤ 100) (d : Nat) : ∀ i : Nat, i + d = h.length → Ev (fun k => supercargoref42_Way.l0 k h day (-1) i f0 f1 f2 f3 f4 l f6 f7 f8) (headB f1 f2 h day i d) := by
  induction d with
  | zero =>
    intro i hi
    refine succ ?_
    simp only [supercargoref42_Way.l0]
    refine ev_neg (by omega) (now ?_)
    simp [headB, findH]
  | succ d ih =>
    intro i hi
    refine succ ?_
    simp only [supercargoref42_Way.l0]
    refine ev_pos (by omega) (ev_pos (by omega) (ev_pos (by omega) (succ ?_)))
    simp only [supercargoref42_Way.j1]
    refine ev_ite (fun a => ev_pos (by omega) (ev_pos (by omega) (ev_ite (fun b => now ?_) (fun b => ?_)))) (fun a => ev_neg (by omega) ?_)
    · have e := findH_yes f1 h i d a
      unfold headB
      rw [e, if_neg (by omega), if_pos b]
    · have e := findH_yes f1 h i d a
      unfold headB
      rw [e, if_neg (by omega), if_neg b, Int.toNat_natCast, wrap_in (by omega) (by omega)]
      exact way_tail f0 f1 f2 f3 f4 l f6 f7 f8 h day hl i (by omega) _ (i + 1) (by omega)
    · have e := findH_no f1 h i d (Bool.eq_false_iff.2 a)
      unfold headB
      rw [e, wrap_in (by omega) (by omega)]
      exact ih (i + 1) (by omega)
theorem way_ev (hl : h.length ≤ 100) : Ev (fun k => supercargoref42_Way.f k f0 f1 f2 f3 f4 l f6 f7 f8 h day) (onWayB f1 f2 h day) := by
  rw [onWay_eq]
  exact way_head f0 f1 f2 f3 f4 l f6 f7 f8 h day hl h.length 0 (by omega)

/-! ### covered -/
def coverB (cause : Int) : Bool := if mayB f0 f1 f2 f3 f4 l f6 f7 f8 = true then (if memFrom l cause 0 l.length = true then (if f6 ≤ day ∧ day ≤ f7 then onWayB f1 f2 h day else false) else false) else false
theorem covers_ev (cause : Int) (h0 : f0.size ≤ 100) (h1 : f1.size ≤ 100) (h2 : f2.size ≤ 100) (hl : l.length ≤ 100) (hh : h.length ≤ 100) : Ev (fun k => policy_Covers.f k f0 f1 f2 f3 f4 l f6 f7 f8 h cause day) (coverB f0 f1 f2 f3 f4 l f6 f7 f8 h day cause) := by
  unfold policy_Covers.f coverB
  refine Ev.bind (may_ev f0 f1 f2 f3 f4 l f6 f7 f8 h0 h1 h2 hl) (ev_ite (fun a => ?_) (fun a => now (by rw [if_neg a])))
  rw [if_pos a]
  refine Ev.bind (contains_ev l cause hl) (ev_ite (fun b => ?_) (fun b => now (by rw [if_neg b])))
  rw [if_pos b]
  simp only [within_eq, Option.bind_some, decide_eq_true_eq]
  refine ev_ite (fun c => ?_) (fun c => now (by rw [if_neg c]))
  rw [if_pos c]
  refine ev_some (a := onWayB f1 f2 h day) (by unfold policy_onWay.f; rw [if_pos (by omega)]) (Ev.now _)
theorem rcovers_l0 (cause : Int) (h0 : f0.size ≤ 100) (h1 : f1.size ≤ 100) (h2 : f2.size ≤ 100) (hl : l.length ≤ 100) (hh : h.length ≤ 100) (d : Nat) : ∀ (i : Nat) (b : Bool), i + d = l.length → Ev (fun k => supercargoref42_Covers.l0 k h cause day b i f0 f1 f2 f3 f4 l f6 f7 f8) (if mayB f0 f1 f2 f3 f4 l f6 f7 f8 = true then (if (b || memFrom l cause i d) = true then (if f6 ≤ day ∧ day ≤ f7 then onWayB f1 f2 h day else false) else false) else false) := by
  induction d with
  | zero =>
    intro i b hi
    refine succ ?_
    simp only [supercargoref42_Covers.l0]
    refine ev_neg (by omega) (Ev.bind (rmay_ev f0 f1 f2 f3 f4 l f6 f7 f8 h0 h1 h2 hl) (ev_ite (fun a => ?_) (fun a => now (by rw [if_neg a]))))
    rw [if_pos a, memFrom, Bool.or_false]
    refine ev_ite (fun c => ?_) (fun c => now (by rw [if_neg c]))
    rw [if_pos c]
    refine ev_ite (fun g => ev_ite (fun g2 => ?_) (fun g2 => now (by rw [if_neg (by omega)]))) (fun g => now (by rw [if_neg (by omega)]))
    rw [if_pos ⟨g, g2⟩]
    exact Ev.bind (way_ev f0 f1 f2 f3 f4 l f6 f7 f8 h day hh) (Ev.now _)
  | succ d ih =>
    intro i b hi
    refine succ ?_
    simp only [supercargoref42_Covers.l0]
    rw [wrap_in (x := (i : Int) + 1) (by omega) (by omega)]
    refine ev_pos (by omega) (ev_ite (fun a => ?_) (fun a => ev_pos (by omega) ?_))
    · have := ih (i + 1) true (by omega)
      rw [a]
      simpa using this
    · have := ih (i + 1) (rd l i == cause) (by omega)
      rw [Bool.eq_false_iff.2 a]
      by_cases e : cause = rd l i
      · rw [memFrom_yes e]
        simpa [show (rd l i == cause) = true by rw [beq_iff_eq]; exact e.symm] using this
      · rw [memFrom_no e]
        have e2 : (rd l i == cause) = false := by rw [beq_eq_false_iff_ne]; exact fun x => e x.symm
        rw [e2] at this ⊢
        simpa using this
theorem rcovers_ev (cause : Int) (h0 : f0.size ≤ 100) (h1 : f1.size ≤ 100) (h2 : f2.size ≤ 100) (hl : l.length ≤ 100) (hh : h.length ≤ 100) : Ev (fun k => supercargoref42_Covers.f k f0 f1 f2 f3 f4 l f6 f7 f8 h cause day) (coverB f0 f1 f2 f3 f4 l f6 f7 f8 h day cause) := by
  have := rcovers_l0 f0 f1 f2 f3 f4 l f6 f7 f8 h day cause h0 h1 h2 hl hh l.length 0 false (by omega)
  simpa [coverB, supercargoref42_Covers.f] using this
end
theorem heavy_l0 (h : List S47) (hl : h.length ≤ 100) (d : Nat) : ∀ i : Nat, i + d = h.length → ∃ b, Ev (fun k => supercargolaw42_heavy.l0 k h i) b := by
  induction d with
  | zero =>
    intro i hi
    refine ⟨false, succ ?_⟩
    simp only [supercargolaw42_heavy.l0]
    exact ev_neg (by omega) (Ev.now _)
  | succ d ih =>
    intro i hi
    obtain ⟨b, hb⟩ := ih (i + 1) (by omega)
    have yes : Ev (fun k => supercargolaw42_heavy.j1 k h i true) true := by
      refine succ ?_
      simp only [supercargolaw42_heavy.j1]
      exact ev_pos trivial (Ev.now _)
    have no : Ev (fun k => supercargolaw42_heavy.j1 k h i false) b := by
      refine succ ?_
      simp only [supercargolaw42_heavy.j1]
      rw [wrap_in (by omega) (by omega)]
      exact ev_neg (by simp) hb
    by_cases c : (((rd_T47 h i).f0).size : Int) > 100 ∨ (((rd_T47 h i).f1).size : Int) > 100 ∨ (((rd_T47 h i).f2).size : Int) > 100 ∨ (((rd_T47 h i).f3).size : Int) > 100
    · refine ⟨true, succ ?_⟩
      simp only [supercargolaw42_heavy.l0]
      refine ev_pos (by omega) (ev_pos (by omega) (ev_ite (fun _ => yes) (fun a1 => ev_ite (fun _ => yes) (fun a2 => ev_ite (fun _ => yes) (fun a3 => ?_)))))
      rw [decide_eq_true (by omega)]
      exact yes
    · refine ⟨b, succ ?_⟩
      simp only [supercargolaw42_heavy.l0]
      refine ev_pos (by omega) (ev_pos (by omega) (ev_neg (by omega) (ev_neg (by omega) (ev_neg (by omega) ?_))))
      rw [decide_eq_false (by omega)]
      exact no
theorem heavy_ev (h : List S47) : ∃ b, Ev (fun k => supercargolaw42_heavy.f k h) b ∧ (b = false → h.length ≤ 40) := by
  by_cases a : (h.length : Int) > 40
  · refine ⟨true, ?_, fun e => by cases e⟩
    unfold supercargolaw42_heavy.f
    exact ev_pos a (Ev.now _)
  · obtain ⟨b, hb⟩ := heavy_l0 h (by omega) h.length 0 (by omega)
    refine ⟨b, ?_, fun _ => by omega⟩
    unfold supercargolaw42_heavy.f
    exact ev_neg a hb
end Go.Proofs.Ytkjcblbpeoijhaa.Pol
