/- What the listed variables give, and a world for the witness in which they lie. -/
import Derived.Test.YtkjcblbpeoijhaaDoorExt
import Derived.Test.YtkjcblbpeoijhaaDoorRows
import Derived.LaidLaws
import Derived.WalkKit
import Derived.ProofKit
import Derived.Deep.DeepHandedRow
import Derived.Deep.DeepWitnessRowRef
namespace Go.Proofs.YtkjcblbpeoijhaaDoor.Tab
open Go.RowKit Go.Proofs.YtkjcblbpeoijhaaDoor.Ext
set_option maxRecDepth 100000
theorem pow_data {H : Type} : (Rows.laid_internal_strconv_uint64pow10 : DataW H) = Lib.tabData .u64 Lib.pow10Tab := rfl
theorem tPow : (Tryd.prog.globals[2]?).map (·.type) = some 85 := by kernel_rfl
theorem gl_of {W : World} (h : laidMetH Tryd.prog [("math/bits.deBruijn32tab", Rows.laid_math_bits_deBruijn32tab), ("math/bits.deBruijn64tab", Rows.laid_math_bits_deBruijn64tab), ("internal/strconv.uint64pow10", Rows.laid_internal_strconv_uint64pow10)] W) : Gl W := by
  have h1 : laidMet Tryd.prog [("math/bits.deBruijn32tab", Rows.laid_math_bits_deBruijn32tab), ("math/bits.deBruijn64tab", Rows.laid_math_bits_deBruijn64tab), ("internal/strconv.uint64pow10", Rows.laid_internal_strconv_uint64pow10)] W := h
  obtain ⟨ps, hv, _⟩ := h1
  obtain ⟨_, _, _, _, _, q, _, _, _, _, hv, _⟩ := hv
  obtain ⟨_, _, _, _, _, q2, _, _, _, _, hv, _⟩ := hv
  obtain ⟨g, t, cs, fuel, p, q3, hg, ht, hvar, hd, _, _⟩ := hv
  obtain rfl := Option.some.inj (gPow.symm.trans hg)
  obtain rfl := Option.some.inj (tPow.symm.trans ht)
  rw [pow_data] at hd
  refine ⟨?_⟩
  unfold Lib.TabIs
  rw [hvar, ← Lib.cells_of_tab (k := .u64) Tryd.underlying85 Tryd.underlying69 (by kernel_rfl) (by kernel_rfl) hd]
def valsOf : DataW Unit → Array Value
  | .agg l => (l.map fun d => match d with | .lit (.int k z) => Value.int k z | _ => undef).toArray
  | _ => #[]
noncomputable def laidWorld (os : Os) : World :=
  let w0 := World.holding Tryd.prog os ⟨#[], #[], []⟩
  let put (h : Array Obj) (g : Nat) (cs : Array Value) : Array Obj := h.modify g fun
    | .cells _ t frozen => .cells cs t frozen
    | o => o
  { w0 with heap := put (put (put w0.heap 4 (valsOf Rows.laid_math_bits_deBruijn32tab)) 5 (valsOf Rows.laid_math_bits_deBruijn64tab)) 2 (valsOf Rows.laid_internal_strconv_uint64pow10) }
theorem met1 (os : Os) (args : Array Value) : laidMet Tryd.prog [("math/bits.deBruijn32tab", Rows.laid_math_bits_deBruijn32tab), ("math/bits.deBruijn64tab", Rows.laid_math_bits_deBruijn64tab), ("internal/strconv.uint64pow10", Rows.laid_internal_strconv_uint64pow10)] ((laidWorld os).forCall (fun _ _ => 0) ⟨#[], args, []⟩).memory :=
  laidMet_of_run' 8 (by kernel_rfl) (by kernel_rfl)
end Go.Proofs.YtkjcblbpeoijhaaDoor.Tab
