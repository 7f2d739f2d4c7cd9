/- What the listed variables give, and a world for the witness in which they lie. -/
import Derived.Test.YtbojieeildhlcaaDoorExt
import Derived.Test.YtbojieeildhlcaaDoorRows
import Derived.LaidLaws
import Derived.WalkKit
import Derived.ProofKit
import Derived.Deep.DeepHandedRow
import Derived.Deep.DeepWitnessRowRef
namespace Go.Proofs.YtbojieeildhlcaaDoor.Tab
open Go.RowKit Go.Proofs.YtbojieeildhlcaaDoor.Ext
set_option maxRecDepth 100000
def valsOf : DataW Unit → Array Value
  | .agg l => (l.map fun d => match d with | .lit (.int k z) => Value.int k z | _ => undef).toArray
  | _ => #[]
noncomputable def laidWorld (os : Os) : World :=
  let w0 := World.holding Tryd.prog os ⟨#[], #[], []⟩
  let put (h : Array Obj) (g : Nat) (cs : Array Value) : Array Obj := h.modify g fun
    | .cells _ t frozen => .cells cs t frozen
    | o => o
  { w0 with heap := put (put (put w0.heap 1 (valsOf Rows.laid_math_bits_deBruijn32tab)) 2 (valsOf Rows.laid_math_bits_deBruijn64tab)) 0 (valsOf Rows.laid_internal_strconv_uint64pow10) }
theorem met1 (os : Os) (args : Array Value) : laidMet Tryd.prog [("math/bits.deBruijn32tab", Rows.laid_math_bits_deBruijn32tab), ("math/bits.deBruijn64tab", Rows.laid_math_bits_deBruijn64tab), ("internal/strconv.uint64pow10", Rows.laid_internal_strconv_uint64pow10)] ((laidWorld os).forCall (fun _ _ => 0) ⟨#[], args, []⟩).memory :=
  laidMet_of_run' 8 (by kernel_rfl) (by kernel_rfl)
end Go.Proofs.YtbojieeildhlcaaDoor.Tab
