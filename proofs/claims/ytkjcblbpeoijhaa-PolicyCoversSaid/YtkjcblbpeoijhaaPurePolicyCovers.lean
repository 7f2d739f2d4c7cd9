/- The plain law of PolicyCovers: the printed function answers true at every input. -/
import Derived.Test.YtkjcblbpeoijhaaPolD
import Derived.Test.YtkjcblbpeoijhaaGx11
namespace Go.Proofs.Ytkjcblbpeoijhaa.Pol
open Go.RowKit Go.Proofs.YtkjcblbpeoijhaaW.PrintWords Go.Proofs.YtkjcblbpeoijhaaW.PrintLast Go.Proofs.YtkjcblbpeoijhaaW.PrintMore Go.Proofs.Ytkjcblbpeoijhaa.G Go.Proofs.Ytkjcblbpeoijhaa.Ext
set_option linter.unusedVariables false
theorem covers_law (f0 f1 f2 : ByteArray) (f3 f4 : Int) (l : List Int) (f6 f7 f8 : Int) (h : List S47) (cause day : Int) : ∃ k, supercargolaw42_PolicyCovers.f k f0 f1 f2 f3 f4 l f6 f7 f8 h cause day = some true := by
  refine Ev.rounds (g := fun k => supercargolaw42_PolicyCovers.f k f0 f1 f2 f3 f4 l f6 f7 f8 h cause day) ?_
  unfold supercargolaw42_PolicyCovers.f
  have out : Ev (fun k => supercargolaw42_PolicyCovers.j0 k h cause day true f0 f1 f2 f3 f4 l f6 f7 f8) true := by
    refine succ ?_
    simp only [supercargolaw42_PolicyCovers.j0]
    exact ev_pos trivial (Ev.now _)
  refine Ev.bind awake_ev (ev_pos rfl (ev_some (long_eq f0 f1 f2 f3 f4 l f6 f7 f8) (ev_ite (fun _ => out) (fun hL => ?_))))
  simp only [decide_eq_true_eq, not_or] at hL
  obtain ⟨b, hb, hh⟩ := heavy_ev h
  refine Ev.bind hb ?_
  cases b with
  | true => exact out
  | false =>
    have := hh rfl
    refine succ ?_
    simp only [supercargolaw42_PolicyCovers.j0]
    refine ev_neg (by simp) (Ev.bind (may_ev f0 f1 f2 f3 f4 l f6 f7 f8 (by omega) (by omega) (by omega) (by omega)) (Ev.bind (rmay_ev f0 f1 f2 f3 f4 l f6 f7 f8 (by omega) (by omega) (by omega) (by omega)) (ev_pos (by simp) ?_)))
    exact Ev.bind (covers_ev f0 f1 f2 f3 f4 l f6 f7 f8 h day cause (by omega) (by omega) (by omega) (by omega) (by omega)) (Ev.bind (rcovers_ev f0 f1 f2 f3 f4 l f6 f7 f8 h day cause (by omega) (by omega) (by omega) (by omega) (by omega)) (now (by simp)))
end Go.Proofs.Ytkjcblbpeoijhaa.Pol
