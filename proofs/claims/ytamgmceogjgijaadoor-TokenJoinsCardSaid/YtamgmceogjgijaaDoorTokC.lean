/- The document's examples: awake is true. -/
import Derived.Test.YtamgmceogjgijaaDoorTokB
import Derived.Test.YtamgmceogjgijaaDoorH10
namespace Go.Proofs.YtamgmceogjgijaaDoor.Tok
open Go.RowKit Go.Proofs.YtamgmceogjgijaaDoorW.PrintWords Go.Proofs.YtamgmceogjgijaaDoorW.PrintLast Go.Proofs.YtamgmceogjgijaaDoorW.PrintMore Go.Proofs.YtamgmceogjgijaaDoor.G Go.Proofs.YtamgmceogjgijaaDoor.Ext
set_option linter.unusedVariables false
set_option linter.unusedSimpArgs false

def ex1 : ByteArray := ⟨#[115, 117, 109, 32, 60, 61, 32, 49, 50]⟩
def ex2 : ByteArray := ⟨#[97, 32, 34, 98, 32, 99, 34]⟩
theorem fin10 : (tokAt ex1 0).fin = 3 := by decide +kernel
theorem fin14 : (tokAt ex1 4).fin = 6 := by decide +kernel
theorem fin17 : (tokAt ex1 7).fin = 9 := by decide +kernel
theorem fin20 : (tokAt ex2 0).fin = 1 := by decide +kernel
theorem fin22 : (tokAt ex2 2).fin = 7 := by decide +kernel
theorem run1 : Run ex1 0 [tkS ex1 0, tkS ex1 4, tkS ex1 7] 9 0 := by
  refine .step (by decide +kernel) (by decide +kernel) (by decide +kernel) ?_
  rw [fin10]
  refine .step (by decide +kernel) (by decide +kernel) (by decide +kernel) ?_
  rw [fin14]
  refine .step (by decide +kernel) (by decide +kernel) (by decide +kernel) ?_
  rw [fin17]
  exact .done (by decide +kernel)
theorem run2 : Run ex2 0 [tkS ex2 0, tkS ex2 2] 7 0 := by
  refine .step (by decide +kernel) (by decide +kernel) (by decide +kernel) ?_
  rw [fin20]
  refine .step (by decide +kernel) (by decide +kernel) (by decide +kernel) ?_
  rw [fin22]
  exact .done (by decide +kernel)
instance eqS : DecidableEq S31 := fun a b => decidable_of_iff (a.f0 = b.f0 ∧ a.f1 = b.f1 ∧ a.f2 = b.f2) ⟨fun h => by cases a; cases b; obtain ⟨h1, h2, h3⟩ := h; cases h1; cases h2; cases h3; rfl, fun h => by cases h; exact ⟨rfl, rfl, rfl⟩⟩
theorem t1 : [tkS ex1 0, tkS ex1 4, tkS ex1 7] = [⟨0, 0, ⟨#[115, 117, 109]⟩⟩, ⟨5, 4, ⟨#[60, 61]⟩⟩, ⟨2, 7, ⟨#[49, 50]⟩⟩] := by decide +kernel
theorem t2 : [tkS ex2 0, tkS ex2 2] = [⟨1, 0, ⟨#[97]⟩⟩, ⟨3, 2, ⟨#[98, 32, 99]⟩⟩] := by decide +kernel
theorem awake_ev : Ev (fun k => supercargolaw27_awake.f k) true := by
  have h1 := scan_ev (s := ex1) (by decide) run1 (by decide)
  have h2 := scan_ev (s := ex2) (by decide) run2 (by decide)
  rw [t1, if_pos rfl] at h1
  rw [t2, if_pos rfl] at h2
  unfold supercargolaw27_awake.f
  refine Ev.bind h1 (Ev.bind h2 ?_)
  exact Ev.congr (fun n => by decide +kernel) (Ev.now _)
end Go.Proofs.YtamgmceogjgijaaDoor.Tok
