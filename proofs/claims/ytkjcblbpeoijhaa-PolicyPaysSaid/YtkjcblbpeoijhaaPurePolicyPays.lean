/- The plain law of PolicyPays: the printed function answers true at every input. -/
import Derived.Test.YtkjcblbpeoijhaaPolC
import Derived.Test.YtkjcblbpeoijhaaGx7
namespace Go.Proofs.Ytkjcblbpeoijhaa.Pol
open Go.RowKit Go.Proofs.YtkjcblbpeoijhaaW.PrintWords Go.Proofs.YtkjcblbpeoijhaaW.PrintLast Go.Proofs.YtkjcblbpeoijhaaW.PrintMore Go.Proofs.Ytkjcblbpeoijhaa.G Go.Proofs.Ytkjcblbpeoijhaa.Ext
set_option linter.unusedVariables false
section
variable (f0 f1 f2 : ByteArray) (f3 f4 : Int) (l : List Int) (f6 f7 f8 : Int)
theorem pays_law (loss value : Int) : ∃ k, supercargolaw42_PolicyPays.f k f0 f1 f2 f3 f4 l f6 f7 f8 loss value = some true := by
  refine Ev.rounds (g := fun k => supercargolaw42_PolicyPays.f k f0 f1 f2 f3 f4 l f6 f7 f8 loss value) ?_
  unfold supercargolaw42_PolicyPays.f
  refine Ev.bind awake_ev (ev_pos rfl (ev_some (long_eq f0 f1 f2 f3 f4 l f6 f7 f8) (ev_ite (fun _ => Ev.now _) (fun hL => ?_))))
  simp only [decide_eq_true_eq, not_or] at hL
  refine Ev.bind (ins_ev f0 f1 f2 f3 f4 l f6 f7 f8 value (by omega) (by omega) (by omega) (by omega)) (Ev.bind (pays_ev f0 f1 f2 f3 f4 l f6 f7 f8 loss value (by omega) (by omega) (by omega) (by omega)) (Ev.bind (rmay_ev f0 f1 f2 f3 f4 l f6 f7 f8 (by omega) (by omega) (by omega) (by omega)) ?_))
  -- not fine: nothing is insured, nothing paid
  have bad : ¬ (mayB f0 f1 f2 f3 f4 l f6 f7 f8 = true ∧ (1 ≤ value ∧ value ≤ 1099511627776)) → Ev (fun k => supercargolaw42_PolicyPays.j0 k loss value (insB f0 f1 f2 f3 f4 l f6 f7 f8 value).1 (insB f0 f1 f2 f3 f4 l f6 f7 f8 value).2 (payB f0 f1 f2 f3 f4 l f6 f7 f8 loss value).1 (payB f0 f1 f2 f3 f4 l f6 f7 f8 loss value).2 false f0 f1 f2 f3 f4 l f6 f7 f8) true := by
    intro h
    have e1 : insB f0 f1 f2 f3 f4 l f6 f7 f8 value = (0, false) := if_neg h
    have e2 : payB f0 f1 f2 f3 f4 l f6 f7 f8 loss value = (0, false) := if_neg (fun x => h ⟨x.1, x.2.1⟩)
    rw [e1, e2]
    refine succ ?_
    simp only [supercargolaw42_PolicyPays.j0]
    refine ev_neg (by simp) (succ ?_)
    simp only [supercargolaw42_PolicyPays.j1]
    exact ev_pos trivial (ev_neg (by simp) (ev_pos trivial (ev_pos rfl (ev_neg (by simp) (ev_pos trivial (Ev.now _))))))
  refine ev_ite (fun a => ev_ite (fun b => ?_) (fun b => bad (fun h => by omega))) (fun a => bad (fun h => a h.1))
  by_cases c : value ≤ 1099511627776
  · rw [decide_eq_true c]
    have hv : 1 ≤ value ∧ value ≤ 1099511627776 := ⟨b, c⟩
    have e1 : insB f0 f1 f2 f3 f4 l f6 f7 f8 value = (mn value f3, true) := if_pos ⟨a, hv⟩
    obtain ⟨hs, ho, hsh, _⟩ := may_bounds f0 f1 f2 f3 f4 l f6 f7 f8 a
    refine succ ?_
    simp only [supercargolaw42_PolicyPays.j0]
    have badl : ¬ (0 ≤ loss ∧ loss ≤ 1099511627776) → Ev (fun k => supercargolaw42_PolicyPays.j1 k loss value (insB f0 f1 f2 f3 f4 l f6 f7 f8 value).1 (insB f0 f1 f2 f3 f4 l f6 f7 f8 value).2 (payB f0 f1 f2 f3 f4 l f6 f7 f8 loss value).1 (payB f0 f1 f2 f3 f4 l f6 f7 f8 loss value).2 true true f0 f1 f2 f3 f4 l f6 f7 f8) true := by
      intro h
      have e2 : payB f0 f1 f2 f3 f4 l f6 f7 f8 loss value = (0, false) := if_neg (fun x => h x.2.2)
      rw [e1, e2]
      refine succ ?_
      simp only [supercargolaw42_PolicyPays.j1, rins_eq, Option.bind_some]
      exact ev_pos trivial (ev_neg (by simp) (ev_pos trivial (ev_pos rfl (ev_pos trivial (now (by simp))))))
    refine ev_pos trivial (ev_ite (fun d => badl (by omega)) (fun d => ?_))
    by_cases g : loss > 1099511627776
    · rw [decide_eq_true g]; exact badl (by omega)
    · rw [decide_eq_false g]
      have hl : 0 ≤ loss ∧ loss ≤ 1099511627776 := by omega
      have e2 : payB f0 f1 f2 f3 f4 l f6 f7 f8 loss value = (payN f3 f4 f8 loss value, true) := if_pos ⟨a, hv, hl⟩
      rw [e1, e2]
      have hc := pay_core (own := f4) hs (by omega) hsh hv hl
      have m1 : mn loss value ≤ loss ∧ mn loss value ≤ value := by rw [mn_def]; split <;> omega
      have m2 : mn value f3 ≤ value ∧ mn value f3 ≤ f3 := by rw [mn_def]; split <;> omega
      refine succ ?_
      simp only [supercargolaw42_PolicyPays.j1, rins_eq, Option.bind_some]
      refine ev_neg (by simp) (ev_pos trivial (ev_pos trivial (ev_pos trivial (Ev.bind (rpays_ev f0 f1 f2 f3 f4 l f6 f7 f8 loss value hs ho hsh hv hl) (ev_pos rfl ?_)))))
      exact ev_pos (by omega) (ev_pos (by omega) (ev_pos (by omega) (ev_pos (by omega) (now (decide_eq_true (by omega))))))
  · rw [decide_eq_false c]; exact bad (fun h => c h.2.2)
end
end Go.Proofs.Ytkjcblbpeoijhaa.Pol
