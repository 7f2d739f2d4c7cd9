/- The plain law of PolicyDays: the printed function answers true at every input. -/
import Derived.Test.YtkjcblbpeoijhaaPolD
import Derived.Test.YtkjcblbpeoijhaaGx12
namespace Go.Proofs.Ytkjcblbpeoijhaa.Pol
open Go.RowKit Go.Proofs.YtkjcblbpeoijhaaW.PrintWords Go.Proofs.YtkjcblbpeoijhaaW.PrintLast Go.Proofs.YtkjcblbpeoijhaaW.PrintMore Go.Proofs.Ytkjcblbpeoijhaa.G Go.Proofs.Ytkjcblbpeoijhaa.Ext
set_option linter.unusedVariables false
/-- As of two days on its way, as of each day between. -/
theorem onWay_between (f1 f2 : ByteArray) (h : List S47) {a b c : Int} (hab : a ≤ b) (hbc : b ≤ c) (ha : onWayB f1 f2 h a = true) (hc : onWayB f1 f2 h c = true) : onWayB f1 f2 h b = true := by
  unfold onWayB at ha hc ⊢
  by_cases h1 : findH f1 h 0 h.length < 0
  · rw [if_pos h1] at ha; cases ha
  · rw [if_neg h1] at ha hc ⊢
    by_cases h2 : a < (rd_T47 h (findH f1 h 0 h.length)).f4
    · rw [if_pos h2] at ha; cases ha
    · rw [if_neg (by omega)] at hc ⊢
      by_cases h3 : findH f2 (h.drop (findH f1 h 0 h.length + 1).toNat) 0 (h.drop (findH f1 h 0 h.length + 1).toNat).length < 0
      · rw [if_pos h3]
      · rw [if_neg h3] at hc ⊢
        have := of_decide_eq_true hc
        exact decide_eq_true (by omega)
theorem days_law (f0 f1 f2 : ByteArray) (f3 f4 : Int) (l : List Int) (f6 f7 f8 : Int) (h : List S47) (cause a b c : Int) : ∃ k, supercargolaw42_PolicyDays.f k f0 f1 f2 f3 f4 l f6 f7 f8 h cause a b c = some true := by
  refine Ev.rounds (g := fun k => supercargolaw42_PolicyDays.f k f0 f1 f2 f3 f4 l f6 f7 f8 h cause a b c) ?_
  unfold supercargolaw42_PolicyDays.f
  have out : Ev (fun k => supercargolaw42_PolicyDays.j0 k h cause a b c true f0 f1 f2 f3 f4 l f6 f7 f8) true := by
    refine succ ?_
    simp only [supercargolaw42_PolicyDays.j0]
    exact ev_pos trivial (Ev.now _)
  refine Ev.bind awake_ev (ev_pos rfl (ev_some (long_eq f0 f1 f2 f3 f4 l f6 f7 f8) (ev_ite (fun _ => out) (fun hL => ev_ite (fun _ => out) (fun hl => ?_)))))
  simp only [decide_eq_true_eq, not_or] at hL
  obtain ⟨hv, hb, hh⟩ := heavy_ev h
  refine Ev.bind hb (ev_ite (fun _ => out) (fun _ => ev_ite (fun _ => out) (fun hab => ?_)))
  by_cases hbc : b > c
  · rw [decide_eq_true hbc]; exact out
  rw [decide_eq_false hbc]
  have cov : ∀ d, Ev (fun k => policy_Covers.f k f0 f1 f2 f3 f4 l f6 f7 f8 h cause d) (coverB f0 f1 f2 f3 f4 l f6 f7 f8 h d cause) := fun d => covers_ev f0 f1 f2 f3 f4 l f6 f7 f8 h d cause (by omega) (by omega) (by omega) (by omega) (by omega)
  have no : ∀ d, (mayB f0 f1 f2 f3 f4 l f6 f7 f8 = true → ¬ (f6 ≤ d ∧ d ≤ f7)) → coverB f0 f1 f2 f3 f4 l f6 f7 f8 h d cause = false := by
    intro d hd
    unfold coverB
    by_cases m : mayB f0 f1 f2 f3 f4 l f6 f7 f8 = true
    · rw [if_pos m, if_neg (hd m)]; simp
    · rw [if_neg m]
  have endd : Ev (fun k => supercargolaw42_PolicyDays.j1 k h cause false f0 f1 f2 f3 f4 l f6 f7 f8) true := by
    refine succ ?_
    simp only [supercargolaw42_PolicyDays.j1]
    refine ev_neg (by simp) (Ev.bind (cov _) (ev_neg ?_ (Ev.bind (cov _) (now ?_))))
    · rw [no _ (fun m => ?_)]; simp
      have := may_bounds f0 f1 f2 f3 f4 l f6 f7 f8 m
      rw [wrap_in (by omega) (by omega)]; omega
    · rw [no _ (fun m => ?_)]; rfl
      have := may_bounds f0 f1 f2 f3 f4 l f6 f7 f8 m
      rw [wrap_in (by omega) (by omega)]; omega
  refine succ ?_
  simp only [supercargolaw42_PolicyDays.j0]
  refine ev_neg (by simp) (Ev.bind (cov a) (ev_ite (fun ca => Ev.bind (cov c) (ev_ite (fun cc => Ev.bind (cov b) ?_) (fun _ => endd))) (fun _ => endd)))
  have cb : coverB f0 f1 f2 f3 f4 l f6 f7 f8 h b cause = true := by
    unfold coverB at ca cc ⊢
    by_cases m : mayB f0 f1 f2 f3 f4 l f6 f7 f8 = true
    · rw [if_pos m] at ca cc ⊢
      by_cases g : memFrom l cause 0 l.length = true
      · rw [if_pos g] at ca cc ⊢
        by_cases d1 : f6 ≤ a ∧ a ≤ f7
        · by_cases d2 : f6 ≤ c ∧ c ≤ f7
          · rw [if_pos d1] at ca
            rw [if_pos d2] at cc
            rw [if_pos (by omega)]
            exact onWay_between f1 f2 h (by omega) (by omega) ca cc
          · rw [if_neg d2] at cc; cases cc
        · rw [if_neg d1] at ca; cases ca
      · rw [if_neg g] at ca; cases ca
    · rw [if_neg m] at ca; cases ca
  rw [cb]
  exact endd
end Go.Proofs.Ytkjcblbpeoijhaa.Pol
