/- A world for the witnesses: the settled one, the words and the kinds laid as their initialisers lay them. -/
import Derived.Test.YtamgmceogjgijaaDoorTab
import Derived.WalkKit
import Derived.ProofKit
import Derived.Deep.DeepHandedRow
import Derived.Deep.DeepWitnessRowRef
namespace Go.Proofs.YtamgmceogjgijaaDoor.Tab
open Go.RowKit Go.Proofs.YtamgmceogjgijaaDoor.Ext
set_option maxRecDepth 100000
noncomputable def laidWorld (os : Os) : World :=
  let N := (World.settled Tryd.prog os).heap.size
  let w0 := World.holding Tryd.prog os ⟨#[.cells (wordsL.map Value.string).toArray 9, .cells (kindsL.map Value.string).toArray 9], #[], []⟩
  let put (h : Array Obj) (g : Nat) (cs : Array Value) : Array Obj := h.modify g fun
    | .cells _ t frozen => .cells cs t frozen
    | o => o
  { w0 with heap := put (put w0.heap 0 #[.slice (some ⟨N, 0, none⟩) 35 35]) 1 #[.slice (some ⟨N + 1, 0, none⟩) 6 6] }
theorem met1 (os : Os) (args : Array Value) : laidMet Tryd.prog [("supercargo/token.words", Rows.laid_supercargo_token_words)] ((laidWorld os).forCall (fun _ _ => 0) ⟨#[], args, []⟩).memory :=
  laidMet_of_run' 8 (by kernel_rfl) (by kernel_rfl)
theorem met2 (os : Os) (args : Array Value) : laidMet Tryd.prog [("supercargo/token.kinds", Rows.laid_supercargo_token_kinds), ("supercargo/token.words", Rows.laid_supercargo_token_words)] ((laidWorld os).forCall (fun _ _ => 0) ⟨#[], args, []⟩).memory :=
  laidMet_of_run' 8 (by kernel_rfl) (by kernel_rfl)
end Go.Proofs.YtamgmceogjgijaaDoor.Tab
