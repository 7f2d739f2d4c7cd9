-- Printed by a program of this session's (wip/lab) after the kit's print: Lean checks it.
import Derived.Test.YtamgmceogjgijaaDoorGx0
import Derived.Test.YtamgmceogjgijaaDoorGx1
import Derived.Test.YtamgmceogjgijaaDoorExt
import Derived.Laws.Cover1
namespace Go.Proofs.YtamgmceogjgijaaDoor.G
open Go.Proofs.YtamgmceogjgijaaDoor.Ext
open Go.RowKit Go.Proofs.YtamgmceogjgijaaDoorW.PrintWords Go.Proofs.YtamgmceogjgijaaDoorW.PrintLast Go.Proofs.YtamgmceogjgijaaDoorW.PrintMore
attribute [local go_sem] max2_int min2_int max_two min_two max_three min_three max_four min_four   -- for this text's walks alone
set_option linter.unusedVariables false
set_option linter.unusedSimpArgs false

attribute [local go_sem high] eqA31
/-! ### supercargoref27_Words: function 16 -/
def supercargoref27_Words.f  : Option (List ByteArray) := some (([(⟨#[97, 98, 111, 118, 101]⟩ : ByteArray), (⟨#[97, 108, 108]⟩ : ByteArray), (⟨#[97, 110, 100]⟩ : ByteArray), (⟨#[97, 110, 121]⟩ : ByteArray), (⟨#[97, 112, 112, 108, 105, 99, 97, 110, 116]⟩ : ByteArray), (⟨#[98, 101, 108, 111, 119]⟩ : ByteArray), (⟨#[98, 101, 110, 101, 102, 105, 99, 105, 97, 114, 121]⟩ : ByteArray), (⟨#[99, 104, 97, 110, 103, 101]⟩ : ByteArray), (⟨#[99, 111, 110, 102, 105, 114, 109, 101, 114]⟩ : ByteArray), (⟨#[99, 111, 112, 105, 101, 115]⟩ : ByteArray), (⟨#[99, 114, 101, 100, 105, 116]⟩ : ByteArray), (⟨#[100, 97, 121, 115]⟩ : ByteArray), (⟨#[100, 114, 97, 102, 116]⟩ : ByteArray), (⟨#[101, 120, 112, 105, 114, 121]⟩ : ByteArray), (⟨#[102, 114, 111, 109]⟩ : ByteArray), (⟨#[105, 110, 115, 117, 114, 97, 110, 99, 101]⟩ : ByteArray), (⟨#[105, 110, 118, 111, 105, 99, 101]⟩ : ByteArray), (⟨#[105, 115, 115, 117, 101, 114]⟩ : ByteArray), (⟨#[108, 97, 100, 105, 110, 103]⟩ : ByteArray), (⟨#[108, 97, 116, 101, 115, 116]⟩ : ByteArray), (⟨#[110, 111]⟩ : ByteArray), (⟨#[110, 111, 116]⟩ : ByteArray), (⟨#[111, 102]⟩ : ByteArray), (⟨#[111, 114]⟩ : ByteArray), (⟨#[111, 114, 105, 103, 105, 110]⟩ : ByteArray), (⟨#[112, 97, 99, 107, 105, 110, 103]⟩ : ByteArray), (⟨#[112, 97, 114, 116, 105, 97, 108]⟩ : ByteArray), (⟨#[115, 105, 103, 104, 116]⟩ : ByteArray), (⟨#[115, 117, 109]⟩ : ByteArray), (⟨#[116, 101, 110, 111, 114]⟩ : ByteArray), (⟨#[116, 111]⟩ : ByteArray), (⟨#[119, 97, 110, 116, 115]⟩ : ByteArray), (⟨#[119, 105, 116, 104]⟩ : ByteArray), (⟨#[119, 105, 116, 104, 105, 110]⟩ : ByteArray), (⟨#[121, 101, 115]⟩ : ByteArray)] : List ByteArray))
set_option maxHeartbeats 8000000 in
set_option maxRecDepth 100000 in
theorem supercargoref27_Words.calls  (r : List ByteArray) (w : World) (h : supercargoref27_Words.f  = some r) :
    Calls Tryd.prog 16 #[] w fun e w' => ∃ v0_ : Value, e = .returned (v0_) ∧ Kd.R Kd.string 9 w' w.heap.size (fun _ => True) v0_ r ∧ Below w.heap.size w w' := by
  have HB := Aside0.mk (Below.refl w.heap.size w)
  have H : (some (([(⟨#[97, 98, 111, 118, 101]⟩ : ByteArray), (⟨#[97, 108, 108]⟩ : ByteArray), (⟨#[97, 110, 100]⟩ : ByteArray), (⟨#[97, 110, 121]⟩ : ByteArray), (⟨#[97, 112, 112, 108, 105, 99, 97, 110, 116]⟩ : ByteArray), (⟨#[98, 101, 108, 111, 119]⟩ : ByteArray), (⟨#[98, 101, 110, 101, 102, 105, 99, 105, 97, 114, 121]⟩ : ByteArray), (⟨#[99, 104, 97, 110, 103, 101]⟩ : ByteArray), (⟨#[99, 111, 110, 102, 105, 114, 109, 101, 114]⟩ : ByteArray), (⟨#[99, 111, 112, 105, 101, 115]⟩ : ByteArray), (⟨#[99, 114, 101, 100, 105, 116]⟩ : ByteArray), (⟨#[100, 97, 121, 115]⟩ : ByteArray), (⟨#[100, 114, 97, 102, 116]⟩ : ByteArray), (⟨#[101, 120, 112, 105, 114, 121]⟩ : ByteArray), (⟨#[102, 114, 111, 109]⟩ : ByteArray), (⟨#[105, 110, 115, 117, 114, 97, 110, 99, 101]⟩ : ByteArray), (⟨#[105, 110, 118, 111, 105, 99, 101]⟩ : ByteArray), (⟨#[105, 115, 115, 117, 101, 114]⟩ : ByteArray), (⟨#[108, 97, 100, 105, 110, 103]⟩ : ByteArray), (⟨#[108, 97, 116, 101, 115, 116]⟩ : ByteArray), (⟨#[110, 111]⟩ : ByteArray), (⟨#[110, 111, 116]⟩ : ByteArray), (⟨#[111, 102]⟩ : ByteArray), (⟨#[111, 114]⟩ : ByteArray), (⟨#[111, 114, 105, 103, 105, 110]⟩ : ByteArray), (⟨#[112, 97, 99, 107, 105, 110, 103]⟩ : ByteArray), (⟨#[112, 97, 114, 116, 105, 97, 108]⟩ : ByteArray), (⟨#[115, 105, 103, 104, 116]⟩ : ByteArray), (⟨#[115, 117, 109]⟩ : ByteArray), (⟨#[116, 101, 110, 111, 114]⟩ : ByteArray), (⟨#[116, 111]⟩ : ByteArray), (⟨#[119, 97, 110, 116, 115]⟩ : ByteArray), (⟨#[119, 105, 116, 104]⟩ : ByteArray), (⟨#[119, 105, 116, 104, 105, 110]⟩ : ByteArray), (⟨#[121, 101, 115]⟩ : ByteArray)] : List ByteArray))) = some r := h
  clear h
  obtain ⟨y135, hy135⟩ : ∃ y_ : List ByteArray, y_ = (([(⟨#[97, 98, 111, 118, 101]⟩ : ByteArray), (⟨#[97, 108, 108]⟩ : ByteArray), (⟨#[97, 110, 100]⟩ : ByteArray), (⟨#[97, 110, 121]⟩ : ByteArray), (⟨#[97, 112, 112, 108, 105, 99, 97, 110, 116]⟩ : ByteArray), (⟨#[98, 101, 108, 111, 119]⟩ : ByteArray), (⟨#[98, 101, 110, 101, 102, 105, 99, 105, 97, 114, 121]⟩ : ByteArray), (⟨#[99, 104, 97, 110, 103, 101]⟩ : ByteArray), (⟨#[99, 111, 110, 102, 105, 114, 109, 101, 114]⟩ : ByteArray), (⟨#[99, 111, 112, 105, 101, 115]⟩ : ByteArray), (⟨#[99, 114, 101, 100, 105, 116]⟩ : ByteArray), (⟨#[100, 97, 121, 115]⟩ : ByteArray), (⟨#[100, 114, 97, 102, 116]⟩ : ByteArray), (⟨#[101, 120, 112, 105, 114, 121]⟩ : ByteArray), (⟨#[102, 114, 111, 109]⟩ : ByteArray), (⟨#[105, 110, 115, 117, 114, 97, 110, 99, 101]⟩ : ByteArray), (⟨#[105, 110, 118, 111, 105, 99, 101]⟩ : ByteArray), (⟨#[105, 115, 115, 117, 101, 114]⟩ : ByteArray), (⟨#[108, 97, 100, 105, 110, 103]⟩ : ByteArray), (⟨#[108, 97, 116, 101, 115, 116]⟩ : ByteArray), (⟨#[110, 111]⟩ : ByteArray), (⟨#[110, 111, 116]⟩ : ByteArray), (⟨#[111, 102]⟩ : ByteArray), (⟨#[111, 114]⟩ : ByteArray), (⟨#[111, 114, 105, 103, 105, 110]⟩ : ByteArray), (⟨#[112, 97, 99, 107, 105, 110, 103]⟩ : ByteArray), (⟨#[112, 97, 114, 116, 105, 97, 108]⟩ : ByteArray), (⟨#[115, 105, 103, 104, 116]⟩ : ByteArray), (⟨#[115, 117, 109]⟩ : ByteArray), (⟨#[116, 101, 110, 111, 114]⟩ : ByteArray), (⟨#[116, 111]⟩ : ByteArray), (⟨#[119, 97, 110, 116, 115]⟩ : ByteArray), (⟨#[119, 105, 116, 104]⟩ : ByteArray), (⟨#[119, 105, 116, 104, 105, 110]⟩ : ByteArray), (⟨#[121, 101, 115]⟩ : ByteArray)] : List ByteArray)) := ⟨_, rfl⟩
  replace H : (some y135) = some r := by first | (rw [hy135]; with_reducible exact H) | (have H2_ := (Option.bind_some _ _).symm.trans H; rw [hy135]; with_reducible exact H2_) | (have H2_ := (Option.bind_some _ _).symm.trans H; with_reducible exact H2_) | with_reducible exact H | (rw [hy135]; exact H) | exact H
  have Ny135 := Aside0.mk hy135
  clear hy135
  obtain rfl := Option.some.inj H
  go_enter Tryd.func16, Tryd.ntmps16
  go_wp2_with (first | ((with_reducible refine gate_dst (N := 1) rfl ?_); refine Kd.R_lit Kd.string _ 9 ?hg (N := 1) ?hd (xs := ([(⟨#[97, 98, 111, 118, 101]⟩ : ByteArray), (⟨#[97, 108, 108]⟩ : ByteArray), (⟨#[97, 110, 100]⟩ : ByteArray), (⟨#[97, 110, 121]⟩ : ByteArray), (⟨#[97, 112, 112, 108, 105, 99, 97, 110, 116]⟩ : ByteArray), (⟨#[98, 101, 108, 111, 119]⟩ : ByteArray), (⟨#[98, 101, 110, 101, 102, 105, 99, 105, 97, 114, 121]⟩ : ByteArray), (⟨#[99, 104, 97, 110, 103, 101]⟩ : ByteArray), (⟨#[99, 111, 110, 102, 105, 114, 109, 101, 114]⟩ : ByteArray), (⟨#[99, 111, 112, 105, 101, 115]⟩ : ByteArray), (⟨#[99, 114, 101, 100, 105, 116]⟩ : ByteArray), (⟨#[100, 97, 121, 115]⟩ : ByteArray), (⟨#[100, 114, 97, 102, 116]⟩ : ByteArray), (⟨#[101, 120, 112, 105, 114, 121]⟩ : ByteArray), (⟨#[102, 114, 111, 109]⟩ : ByteArray), (⟨#[105, 110, 115, 117, 114, 97, 110, 99, 101]⟩ : ByteArray), (⟨#[105, 110, 118, 111, 105, 99, 101]⟩ : ByteArray), (⟨#[105, 115, 115, 117, 101, 114]⟩ : ByteArray), (⟨#[108, 97, 100, 105, 110, 103]⟩ : ByteArray), (⟨#[108, 97, 116, 101, 115, 116]⟩ : ByteArray), (⟨#[110, 111]⟩ : ByteArray), (⟨#[110, 111, 116]⟩ : ByteArray), (⟨#[111, 102]⟩ : ByteArray), (⟨#[111, 114]⟩ : ByteArray), (⟨#[111, 114, 105, 103, 105, 110]⟩ : ByteArray), (⟨#[112, 97, 99, 107, 105, 110, 103]⟩ : ByteArray), (⟨#[112, 97, 114, 116, 105, 97, 108]⟩ : ByteArray), (⟨#[115, 105, 103, 104, 116]⟩ : ByteArray), (⟨#[115, 117, 109]⟩ : ByteArray), (⟨#[116, 101, 110, 111, 114]⟩ : ByteArray), (⟨#[116, 111]⟩ : ByteArray), (⟨#[119, 97, 110, 116, 115]⟩ : ByteArray), (⟨#[119, 105, 116, 104]⟩ : ByteArray), (⟨#[119, 105, 116, 104, 105, 110]⟩ : ByteArray), (⟨#[121, 101, 115]⟩ : ByteArray)] : List ByteArray)) (inner := [.string (⟨#[97, 98, 111, 118, 101]⟩ : ByteArray), .string (⟨#[97, 108, 108]⟩ : ByteArray), .string (⟨#[97, 110, 100]⟩ : ByteArray), .string (⟨#[97, 110, 121]⟩ : ByteArray), .string (⟨#[97, 112, 112, 108, 105, 99, 97, 110, 116]⟩ : ByteArray), .string (⟨#[98, 101, 108, 111, 119]⟩ : ByteArray), .string (⟨#[98, 101, 110, 101, 102, 105, 99, 105, 97, 114, 121]⟩ : ByteArray), .string (⟨#[99, 104, 97, 110, 103, 101]⟩ : ByteArray), .string (⟨#[99, 111, 110, 102, 105, 114, 109, 101, 114]⟩ : ByteArray), .string (⟨#[99, 111, 112, 105, 101, 115]⟩ : ByteArray), .string (⟨#[99, 114, 101, 100, 105, 116]⟩ : ByteArray), .string (⟨#[100, 97, 121, 115]⟩ : ByteArray), .string (⟨#[100, 114, 97, 102, 116]⟩ : ByteArray), .string (⟨#[101, 120, 112, 105, 114, 121]⟩ : ByteArray), .string (⟨#[102, 114, 111, 109]⟩ : ByteArray), .string (⟨#[105, 110, 115, 117, 114, 97, 110, 99, 101]⟩ : ByteArray), .string (⟨#[105, 110, 118, 111, 105, 99, 101]⟩ : ByteArray), .string (⟨#[105, 115, 115, 117, 101, 114]⟩ : ByteArray), .string (⟨#[108, 97, 100, 105, 110, 103]⟩ : ByteArray), .string (⟨#[108, 97, 116, 101, 115, 116]⟩ : ByteArray), .string (⟨#[110, 111]⟩ : ByteArray), .string (⟨#[110, 111, 116]⟩ : ByteArray), .string (⟨#[111, 102]⟩ : ByteArray), .string (⟨#[111, 114]⟩ : ByteArray), .string (⟨#[111, 114, 105, 103, 105, 110]⟩ : ByteArray), .string (⟨#[112, 97, 99, 107, 105, 110, 103]⟩ : ByteArray), .string (⟨#[112, 97, 114, 116, 105, 97, 108]⟩ : ByteArray), .string (⟨#[115, 105, 103, 104, 116]⟩ : ByteArray), .string (⟨#[115, 117, 109]⟩ : ByteArray), .string (⟨#[116, 101, 110, 111, 114]⟩ : ByteArray), .string (⟨#[116, 111]⟩ : ByteArray), .string (⟨#[119, 97, 110, 116, 115]⟩ : ByteArray), .string (⟨#[119, 105, 116, 104]⟩ : ByteArray), .string (⟨#[119, 105, 116, 104, 105, 110]⟩ : ByteArray), .string (⟨#[121, 101, 115]⟩ : ByteArray)]) (ok := fun _ => True) (okp := fun _ => True) ?hr ?hp (fun _ hk => hk) trivial (Below.refl _ _) (Nat.le_refl _) (by simp) ?_; (case hd => rfl); (case hg => rfl); (case hr => first | (go_simp; done) | (go_simp; rfl)); (case hp => exact (Reps.one (show Kd.M Kd.string _ _ _ (⟨#[97, 98, 111, 118, 101]⟩ : ByteArray) [.string (⟨#[97, 98, 111, 118, 101]⟩ : ByteArray)] from rfl) (Reps.one (show Kd.M Kd.string _ _ _ (⟨#[97, 108, 108]⟩ : ByteArray) [.string (⟨#[97, 108, 108]⟩ : ByteArray)] from rfl) (Reps.one (show Kd.M Kd.string _ _ _ (⟨#[97, 110, 100]⟩ : ByteArray) [.string (⟨#[97, 110, 100]⟩ : ByteArray)] from rfl) (Reps.one (show Kd.M Kd.string _ _ _ (⟨#[97, 110, 121]⟩ : ByteArray) [.string (⟨#[97, 110, 121]⟩ : ByteArray)] from rfl) (Reps.one (show Kd.M Kd.string _ _ _ (⟨#[97, 112, 112, 108, 105, 99, 97, 110, 116]⟩ : ByteArray) [.string (⟨#[97, 112, 112, 108, 105, 99, 97, 110, 116]⟩ : ByteArray)] from rfl) (Reps.one (show Kd.M Kd.string _ _ _ (⟨#[98, 101, 108, 111, 119]⟩ : ByteArray) [.string (⟨#[98, 101, 108, 111, 119]⟩ : ByteArray)] from rfl) (Reps.one (show Kd.M Kd.string _ _ _ (⟨#[98, 101, 110, 101, 102, 105, 99, 105, 97, 114, 121]⟩ : ByteArray) [.string (⟨#[98, 101, 110, 101, 102, 105, 99, 105, 97, 114, 121]⟩ : ByteArray)] from rfl) (Reps.one (show Kd.M Kd.string _ _ _ (⟨#[99, 104, 97, 110, 103, 101]⟩ : ByteArray) [.string (⟨#[99, 104, 97, 110, 103, 101]⟩ : ByteArray)] from rfl) (Reps.one (show Kd.M Kd.string _ _ _ (⟨#[99, 111, 110, 102, 105, 114, 109, 101, 114]⟩ : ByteArray) [.string (⟨#[99, 111, 110, 102, 105, 114, 109, 101, 114]⟩ : ByteArray)] from rfl) (Reps.one (show Kd.M Kd.string _ _ _ (⟨#[99, 111, 112, 105, 101, 115]⟩ : ByteArray) [.string (⟨#[99, 111, 112, 105, 101, 115]⟩ : ByteArray)] from rfl) (Reps.one (show Kd.M Kd.string _ _ _ (⟨#[99, 114, 101, 100, 105, 116]⟩ : ByteArray) [.string (⟨#[99, 114, 101, 100, 105, 116]⟩ : ByteArray)] from rfl) (Reps.one (show Kd.M Kd.string _ _ _ (⟨#[100, 97, 121, 115]⟩ : ByteArray) [.string (⟨#[100, 97, 121, 115]⟩ : ByteArray)] from rfl) (Reps.one (show Kd.M Kd.string _ _ _ (⟨#[100, 114, 97, 102, 116]⟩ : ByteArray) [.string (⟨#[100, 114, 97, 102, 116]⟩ : ByteArray)] from rfl) (Reps.one (show Kd.M Kd.string _ _ _ (⟨#[101, 120, 112, 105, 114, 121]⟩ : ByteArray) [.string (⟨#[101, 120, 112, 105, 114, 121]⟩ : ByteArray)] from rfl) (Reps.one (show Kd.M Kd.string _ _ _ (⟨#[102, 114, 111, 109]⟩ : ByteArray) [.string (⟨#[102, 114, 111, 109]⟩ : ByteArray)] from rfl) (Reps.one (show Kd.M Kd.string _ _ _ (⟨#[105, 110, 115, 117, 114, 97, 110, 99, 101]⟩ : ByteArray) [.string (⟨#[105, 110, 115, 117, 114, 97, 110, 99, 101]⟩ : ByteArray)] from rfl) (Reps.one (show Kd.M Kd.string _ _ _ (⟨#[105, 110, 118, 111, 105, 99, 101]⟩ : ByteArray) [.string (⟨#[105, 110, 118, 111, 105, 99, 101]⟩ : ByteArray)] from rfl) (Reps.one (show Kd.M Kd.string _ _ _ (⟨#[105, 115, 115, 117, 101, 114]⟩ : ByteArray) [.string (⟨#[105, 115, 115, 117, 101, 114]⟩ : ByteArray)] from rfl) (Reps.one (show Kd.M Kd.string _ _ _ (⟨#[108, 97, 100, 105, 110, 103]⟩ : ByteArray) [.string (⟨#[108, 97, 100, 105, 110, 103]⟩ : ByteArray)] from rfl) (Reps.one (show Kd.M Kd.string _ _ _ (⟨#[108, 97, 116, 101, 115, 116]⟩ : ByteArray) [.string (⟨#[108, 97, 116, 101, 115, 116]⟩ : ByteArray)] from rfl) (Reps.one (show Kd.M Kd.string _ _ _ (⟨#[110, 111]⟩ : ByteArray) [.string (⟨#[110, 111]⟩ : ByteArray)] from rfl) (Reps.one (show Kd.M Kd.string _ _ _ (⟨#[110, 111, 116]⟩ : ByteArray) [.string (⟨#[110, 111, 116]⟩ : ByteArray)] from rfl) (Reps.one (show Kd.M Kd.string _ _ _ (⟨#[111, 102]⟩ : ByteArray) [.string (⟨#[111, 102]⟩ : ByteArray)] from rfl) (Reps.one (show Kd.M Kd.string _ _ _ (⟨#[111, 114]⟩ : ByteArray) [.string (⟨#[111, 114]⟩ : ByteArray)] from rfl) (Reps.one (show Kd.M Kd.string _ _ _ (⟨#[111, 114, 105, 103, 105, 110]⟩ : ByteArray) [.string (⟨#[111, 114, 105, 103, 105, 110]⟩ : ByteArray)] from rfl) (Reps.one (show Kd.M Kd.string _ _ _ (⟨#[112, 97, 99, 107, 105, 110, 103]⟩ : ByteArray) [.string (⟨#[112, 97, 99, 107, 105, 110, 103]⟩ : ByteArray)] from rfl) (Reps.one (show Kd.M Kd.string _ _ _ (⟨#[112, 97, 114, 116, 105, 97, 108]⟩ : ByteArray) [.string (⟨#[112, 97, 114, 116, 105, 97, 108]⟩ : ByteArray)] from rfl) (Reps.one (show Kd.M Kd.string _ _ _ (⟨#[115, 105, 103, 104, 116]⟩ : ByteArray) [.string (⟨#[115, 105, 103, 104, 116]⟩ : ByteArray)] from rfl) (Reps.one (show Kd.M Kd.string _ _ _ (⟨#[115, 117, 109]⟩ : ByteArray) [.string (⟨#[115, 117, 109]⟩ : ByteArray)] from rfl) (Reps.one (show Kd.M Kd.string _ _ _ (⟨#[116, 101, 110, 111, 114]⟩ : ByteArray) [.string (⟨#[116, 101, 110, 111, 114]⟩ : ByteArray)] from rfl) (Reps.one (show Kd.M Kd.string _ _ _ (⟨#[116, 111]⟩ : ByteArray) [.string (⟨#[116, 111]⟩ : ByteArray)] from rfl) (Reps.one (show Kd.M Kd.string _ _ _ (⟨#[119, 97, 110, 116, 115]⟩ : ByteArray) [.string (⟨#[119, 97, 110, 116, 115]⟩ : ByteArray)] from rfl) (Reps.one (show Kd.M Kd.string _ _ _ (⟨#[119, 105, 116, 104]⟩ : ByteArray) [.string (⟨#[119, 105, 116, 104]⟩ : ByteArray)] from rfl) (Reps.one (show Kd.M Kd.string _ _ _ (⟨#[119, 105, 116, 104, 105, 110]⟩ : ByteArray) [.string (⟨#[119, 105, 116, 104, 105, 110]⟩ : ByteArray)] from rfl) (Reps.one (show Kd.M Kd.string _ _ _ (⟨#[121, 101, 115]⟩ : ByteArray) [.string (⟨#[121, 101, 115]⟩ : ByteArray)] from rfl) (Reps.none _ _))))))))))))))))))))))))))))))))))))); intro v136 w1 ho2 hb hg_ hnew_; clear hg_ hnew_; (first | rw [← Ny135.out] at ho2 | (simp only [Int.reduceToNat] at ho2; rw [← Ny135.out] at ho2)); have n0_ := Aside0.mk (Kd.R_lower ho2 (below_size (by repeat (first | (with_reducible first | exact HB.out | apply below_alloc | apply pw_below_drewN | apply below_drew1) | exact HB.out)))); have n1_ := Aside0.mk (below_step (by repeat (first | (with_reducible first | exact HB.out | apply below_alloc | apply pw_below_drewN | apply below_drew1) | exact HB.out)) hb); clear HB; have HO137 := n0_; have HB := n1_; clear n0_ n1_; clear hb ho2))
  go_ret
  exact ⟨_, by first | rfl | (simp [errW_none, errW_some] <;> rfl) | (simp [*, errW_none, errW_some] <;> rfl), by (with_reducible repeat (first | apply Kd.R_alloc | apply Kd.R_drewN | apply Kd.R_drew)); exact HO137.out, by repeat (first | (with_reducible first | exact HB.out | apply below_alloc | apply pw_below_drewN | apply below_drew1) | exact HB.out)⟩

/-! ### supercargoref27_run: function 39 -/
def supercargoref27_run.f (a0 : Int) : Option (Bool) := if a0 ≥ 97 then (if a0 ≤ 122 then (some true) else (if a0 ≥ 48 then (if a0 ≤ 57 then (some true) else (some (a0 == 45))) else (some (a0 == 45)))) else (if a0 ≥ 48 then (if a0 ≤ 57 then (some true) else (some (a0 == 45))) else (some (a0 == 45)))
set_option maxHeartbeats 8000000 in
set_option maxRecDepth 100000 in
theorem supercargoref27_run.calls (a0 : Int) (r : Bool) (w : World) (h : supercargoref27_run.f a0 = some r) :
    Calls Tryd.prog 39 #[.int .u8 a0] w fun e w' => e = .returned (.bool r) ∧ Drawn0 w w' := by
  have H : (if a0 ≥ 97 then (if a0 ≤ 122 then (some true) else (if a0 ≥ 48 then (if a0 ≤ 57 then (some true) else (some (a0 == 45))) else (some (a0 == 45)))) else (if a0 ≥ 48 then (if a0 ≤ 57 then (some true) else (some (a0 == 45))) else (some (a0 == 45)))) = some r := h
  clear h
  by_cases c2 : a0 ≥ 97
  · rw [if_pos c2] at H
    have c2b0 : decide (97 ≤ a0) = true := decide_eq_true c2
    clear c2
    by_cases c3 : a0 ≤ 122
    · rw [if_pos c3] at H
      have c3b0 : decide (a0 ≤ 122) = true := decide_eq_true c3
      clear c3
      obtain rfl := Option.some.inj H
      go_enter Tryd.func39, Tryd.ntmps39
      go_wp2
      go_ret
      exact ⟨by first | rfl | (simp; done) | (simp [*]; done), by repeat (first | exact Drawn0.refl _ | apply Drawn0.step)⟩
    · rw [if_neg c3] at H
      have c3b0 : decide (a0 ≤ 122) = false := decide_eq_false c3
      clear c3
      by_cases c4 : a0 ≥ 48
      · rw [if_pos c4] at H
        have c4b0 : decide (48 ≤ a0) = true := decide_eq_true c4
        clear c4
        by_cases c5 : a0 ≤ 57
        · rw [if_pos c5] at H
          have c5b0 : decide (a0 ≤ 57) = true := decide_eq_true c5
          clear c5
          obtain rfl := Option.some.inj H
          go_enter Tryd.func39, Tryd.ntmps39
          go_wp2
          go_ret
          exact ⟨by first | rfl | (simp; done) | (simp [*]; done), by repeat (first | exact Drawn0.refl _ | apply Drawn0.step)⟩
        · rw [if_neg c5] at H
          have c5b0 : decide (a0 ≤ 57) = false := decide_eq_false c5
          clear c5
          obtain rfl := Option.some.inj H
          go_enter Tryd.func39, Tryd.ntmps39
          go_wp2
          go_ret
          exact ⟨by first | rfl | (simp; done) | (simp [*]; done), by repeat (first | exact Drawn0.refl _ | apply Drawn0.step)⟩
      · rw [if_neg c4] at H
        have c4b0 : decide (48 ≤ a0) = false := decide_eq_false c4
        clear c4
        obtain rfl := Option.some.inj H
        go_enter Tryd.func39, Tryd.ntmps39
        go_wp2
        go_ret
        exact ⟨by first | rfl | (simp; done) | (simp [*]; done), by repeat (first | exact Drawn0.refl _ | apply Drawn0.step)⟩
  · rw [if_neg c2] at H
    have c2b0 : decide (97 ≤ a0) = false := decide_eq_false c2
    clear c2
    by_cases c6 : a0 ≥ 48
    · rw [if_pos c6] at H
      have c6b0 : decide (48 ≤ a0) = true := decide_eq_true c6
      clear c6
      by_cases c7 : a0 ≤ 57
      · rw [if_pos c7] at H
        have c7b0 : decide (a0 ≤ 57) = true := decide_eq_true c7
        clear c7
        obtain rfl := Option.some.inj H
        go_enter Tryd.func39, Tryd.ntmps39
        go_wp2
        go_ret
        exact ⟨by first | rfl | (simp; done) | (simp [*]; done), by repeat (first | exact Drawn0.refl _ | apply Drawn0.step)⟩
      · rw [if_neg c7] at H
        have c7b0 : decide (a0 ≤ 57) = false := decide_eq_false c7
        clear c7
        obtain rfl := Option.some.inj H
        go_enter Tryd.func39, Tryd.ntmps39
        go_wp2
        go_ret
        exact ⟨by first | rfl | (simp; done) | (simp [*]; done), by repeat (first | exact Drawn0.refl _ | apply Drawn0.step)⟩
    · rw [if_neg c6] at H
      have c6b0 : decide (48 ≤ a0) = false := decide_eq_false c6
      clear c6
      obtain rfl := Option.some.inj H
      go_enter Tryd.func39, Tryd.ntmps39
      go_wp2
      go_ret
      exact ⟨by first | rfl | (simp; done) | (simp [*]; done), by repeat (first | exact Drawn0.refl _ | apply Drawn0.step)⟩

/-! ### supercargoref27_digits: function 40 -/
def supercargoref27_digits.l0 : Nat → ByteArray → Int → Option (Bool)
  | 0, _, _ => none
  | k + 1, x0, x3 => if x3 < (x0.size : Int) then (if 0 ≤ x3 then (if (bt x0 x3) < 48 then (some false) else (if (bt x0 x3) > 57 then (some false) else (supercargoref27_digits.l0 k x0 (wrap64 (x3 + 1))))) else (none)) else (some true)
def supercargoref27_digits.f (k : Nat) (a0 : ByteArray) : Option (Bool) := supercargoref27_digits.l0 k a0 0
set_option maxHeartbeats 8000000 in
set_option maxRecDepth 100000 in
theorem supercargoref27_digits.calls (k : Nat) (a0 : ByteArray) (r : Bool) (w : World) (h : supercargoref27_digits.f k a0 = some r) :
    Calls Tryd.prog 40 #[.string a0] w fun e w' => e = .returned (.bool r) ∧ Drawn0 w w' := by
  have H : (supercargoref27_digits.l0 k a0 0) = some r := h
  clear h
  have H' := Aside0.mk H
  clear H
  go_enter Tryd.func40, Tryd.ntmps40
  go_wp2
  go_loopg [3] k (fun kq v3 w' => ∃ (x3_1 : Int), v3 = .int .i64 x3_1 ∧ Aside0 (supercargoref27_digits.l0 kq a0 x3_1 = some r) ∧ Aside0 (kq ≤ k) ∧ Drawn0 w w')
  case atStart => exact ⟨(0), (by first | rfl | (simp; done) | (simp [*]; done)), H', ⟨Nat.le_refl _⟩, by repeat (first | exact Drawn0.refl _ | apply Drawn0.step)⟩
  case round =>
    clear H'
    obtain ⟨x3_1, rfl, HA, HK1, ⟨m1, rfl⟩⟩ := hrel
    cases gk with
    | zero => exact absurd HA.out (by simp [supercargoref27_digits.l0])
    | succ k1 =>
      have H := HA.out
      clear HA
      simp only [supercargoref27_digits.l0] at H
      by_cases c2 : x3_1 < (a0.size : Int)
      · rw [if_pos c2] at H
        have c2b0 : decide (x3_1 < (a0.size : Int)) = true := decide_eq_true c2
        clear c2
        by_cases c3 : 0 ≤ x3_1
        · rw [if_pos c3] at H
          have c3b0 : decide (0 ≤ x3_1) = true := decide_eq_true c3
          clear c3
          by_cases c5 : (bt a0 x3_1) < 48
          · rw [if_pos c5] at H
            have c5b0 : decide ((bt a0 x3_1) < 48) = true := decide_eq_true c5
            clear c5
            obtain rfl := Option.some.inj H
            have p4 : 0 ≤ (x3_1 : Int) := of_decide_eq_true (by first | (with_reducible assumption) | assumption)
            have q4 : x3_1 < (a0.size : Int) := of_decide_eq_true (by first | (with_reducible assumption) | assumption)
            have hx4 := bt_at a0 x3_1
            replace p4 := eq_true p4
            replace q4 := eq_true q4
            go_wp2
            go_ret
            exact ⟨by first | rfl | (simp; done) | (simp [*]; done), by repeat (first | exact Drawn0.refl _ | apply Drawn0.step)⟩
          · rw [if_neg c5] at H
            have c5b0 : decide ((bt a0 x3_1) < 48) = false := decide_eq_false c5
            clear c5
            by_cases c7 : (bt a0 x3_1) > 57
            · rw [if_pos c7] at H
              have c7b0 : decide (57 < (bt a0 x3_1)) = true := decide_eq_true c7
              clear c7
              obtain rfl := Option.some.inj H
              have p4 : 0 ≤ (x3_1 : Int) := of_decide_eq_true (by first | (with_reducible assumption) | assumption)
              have q4 : x3_1 < (a0.size : Int) := of_decide_eq_true (by first | (with_reducible assumption) | assumption)
              have hx4 := bt_at a0 x3_1
              replace p4 := eq_true p4
              replace q4 := eq_true q4
              have p6 : 0 ≤ (x3_1 : Int) := of_decide_eq_true (by first | (with_reducible assumption) | assumption)
              have q6 : x3_1 < (a0.size : Int) := of_decide_eq_true (by first | (with_reducible assumption) | assumption)
              have hx6 := bt_at a0 x3_1
              replace p6 := eq_true p6
              replace q6 := eq_true q6
              go_wp2
              go_ret
              exact ⟨by first | rfl | (simp; done) | (simp [*]; done), by repeat (first | exact Drawn0.refl _ | apply Drawn0.step)⟩
            · rw [if_neg c7] at H
              have c7b0 : decide (57 < (bt a0 x3_1)) = false := decide_eq_false c7
              clear c7
              have H' := Aside0.mk H
              clear H
              have p4 : 0 ≤ (x3_1 : Int) := of_decide_eq_true (by first | (with_reducible assumption) | assumption)
              have q4 : x3_1 < (a0.size : Int) := of_decide_eq_true (by first | (with_reducible assumption) | assumption)
              have hx4 := bt_at a0 x3_1
              replace p4 := eq_true p4
              replace q4 := eq_true q4
              have p6 : 0 ≤ (x3_1 : Int) := of_decide_eq_true (by first | (with_reducible assumption) | assumption)
              have q6 : x3_1 < (a0.size : Int) := of_decide_eq_true (by first | (with_reducible assumption) | assumption)
              have hx6 := bt_at a0 x3_1
              replace p6 := eq_true p6
              replace q6 := eq_true q6
              go_wp2
              go_roundg k1
              case measure => have := HK1.out; omega
              case rel => exact ⟨(wrap64 (x3_1 + 1)), (by first | rfl | (simp; done) | (simp [*]; done)), H', ⟨by have := HK1.out; omega⟩, by repeat (first | exact Drawn0.refl _ | apply Drawn0.step)⟩
        · rw [if_neg c3] at H
          exact absurd H (by simp)
      · rw [if_neg c2] at H
        have c2b0 : decide (x3_1 < (a0.size : Int)) = false := decide_eq_false c2
        clear c2
        obtain rfl := Option.some.inj H
        go_wp2
        go_ret
        exact ⟨by first | rfl | (simp; done) | (simp [*]; done), by repeat (first | exact Drawn0.refl _ | apply Drawn0.step)⟩

/-! ### supercargoref27_above: function 41 -/
def supercargoref27_above.f (a0 : ByteArray) : Option (Bool) := if (a0.size : Int) > 13 then (some true) else (if (a0.size : Int) = 13 then (some (!(Op.bytesLess a0.toList ([49, 48, 57, 57, 53, 49, 49, 54, 50, 55, 55, 55, 54] : List UInt8) || a0.toList == ([49, 48, 57, 57, 53, 49, 49, 54, 50, 55, 55, 55, 54] : List UInt8)))) else (some false))
set_option maxHeartbeats 8000000 in
set_option maxRecDepth 100000 in
theorem supercargoref27_above.calls (a0 : ByteArray) (r : Bool) (w : World) (h : supercargoref27_above.f a0 = some r) :
    Calls Tryd.prog 41 #[.string a0] w fun e w' => e = .returned (.bool r) ∧ Drawn0 w w' := by
  have H : (if (a0.size : Int) > 13 then (some true) else (if (a0.size : Int) = 13 then (some (!(Op.bytesLess a0.toList ([49, 48, 57, 57, 53, 49, 49, 54, 50, 55, 55, 55, 54] : List UInt8) || a0.toList == ([49, 48, 57, 57, 53, 49, 49, 54, 50, 55, 55, 55, 54] : List UInt8)))) else (some false))) = some r := h
  clear h
  by_cases c2 : (a0.size : Int) > 13
  · rw [if_pos c2] at H
    have c2b0 : decide (13 < (a0.size : Int)) = true := decide_eq_true c2
    have c2b1 : decide (13 < a0.size) = true := decide_eq_true (by omega)
    clear c2
    obtain rfl := Option.some.inj H
    go_enter Tryd.func41, Tryd.ntmps41
    go_wp2
    go_ret
    exact ⟨by first | rfl | (simp; done) | (simp [*]; done), by repeat (first | exact Drawn0.refl _ | apply Drawn0.step)⟩
  · rw [if_neg c2] at H
    have c2b0 : decide (13 < (a0.size : Int)) = false := decide_eq_false c2
    have c2b1 : decide (13 < a0.size) = false := decide_eq_false (by omega)
    clear c2
    by_cases c3 : (a0.size : Int) = 13
    · rw [if_pos c3] at H
      have c3b0 : ((a0.size : Int) == 13) = true := beq_iff_eq.mpr c3
      have c3b1 : ((a0.size : Int) != 13) = false := bne_eq_false_iff_eq.mpr c3
      clear c3
      obtain rfl := Option.some.inj H
      go_enter Tryd.func41, Tryd.ntmps41
      go_wp2
      go_ret
      exact ⟨by first | rfl | (simp; done) | (simp [*]; done), by repeat (first | exact Drawn0.refl _ | apply Drawn0.step)⟩
    · rw [if_neg c3] at H
      have c3b0 : ((a0.size : Int) == 13) = false := beq_eq_false_iff_ne.mpr c3
      have c3b1 : ((a0.size : Int) != 13) = true := bne_iff_ne.mpr c3
      obtain rfl := Option.some.inj H
      go_enter Tryd.func41, Tryd.ntmps41
      go_wp2
      go_ret
      exact ⟨by first | rfl | (simp; done) | (simp [*]; done), by repeat (first | exact Drawn0.refl _ | apply Drawn0.step)⟩

/-! ### supercargoref27_in: function 42 -/
def supercargoref27_in.l0 : Nat → List ByteArray → ByteArray → Int → Option (Bool)
  | 0, _, _, _ => none
  | k + 1, x0, x1, x5 => if x5 < (x0.length : Int) then (if 0 ≤ x5 then (if (rdOf ByteArray.empty x0 x5).toList = x1.toList then (some true) else (supercargoref27_in.l0 k x0 x1 (wrap64 (x5 + 1)))) else (none)) else (some false)
def supercargoref27_in.f (k : Nat) (l0 : List ByteArray) (a1 : ByteArray) : Option (Bool) := supercargoref27_in.l0 k l0 a1 0
set_option maxHeartbeats 8000000 in
set_option maxRecDepth 100000 in
theorem supercargoref27_in.calls (k : Nat) (A0 : Option Addr) (c0 : Nat) (l0 : List ByteArray) (a1 : ByteArray) (r : Bool) (w : World) (hr0 : Kd.C Kd.string w A0 l0.length l0) (hc0 : l0.length ≤ c0) (h : supercargoref27_in.f k l0 a1 = some r) :
    Calls Tryd.prog 42 #[.slice A0 l0.length c0, .string a1] w fun e w' => e = .returned (.bool r) ∧ Drawn0 w w' := by
  have HR0 := Aside0.mk hr0
  have HC0 := Aside0.mk hc0
  clear hr0 hc0
  have H : (supercargoref27_in.l0 k l0 a1 0) = some r := h
  clear h
  have H' := Aside0.mk H
  clear H
  go_enter Tryd.func42, Tryd.ntmps42
  go_wp2
  go_loopg [5] k (fun kq v5 w' => ∃ (x5_1 : Int), v5 = .int .i64 x5_1 ∧ Aside0 (supercargoref27_in.l0 kq l0 a1 x5_1 = some r) ∧ Aside0 (kq ≤ k) ∧ Drawn0 w w')
  case atStart => exact ⟨(0), (by first | rfl | (simp; done) | (simp [*]; done)), H', ⟨Nat.le_refl _⟩, by repeat (first | exact Drawn0.refl _ | apply Drawn0.step)⟩
  case round =>
    clear H'
    try clear p2
    obtain ⟨x5_1, rfl, HA, HK1, ⟨m1, rfl⟩⟩ := hrel
    cases gk with
    | zero => exact absurd HA.out (by simp [supercargoref27_in.l0])
    | succ k1 =>
      have H := HA.out
      clear HA
      simp only [supercargoref27_in.l0] at H
      by_cases c3 : x5_1 < (l0.length : Int)
      · rw [if_pos c3] at H
        have c3b0 : decide (x5_1 < (l0.length : Int)) = true := decide_eq_true c3
        clear c3
        by_cases c4 : 0 ≤ x5_1
        · rw [if_pos c4] at H
          have c4b0 : decide (0 ≤ x5_1) = true := decide_eq_true c4
          clear c4
          by_cases c5 : (rdOf ByteArray.empty l0 x5_1).toList = a1.toList
          · rw [if_pos c5] at H
            have c5b0 : ((rdOf ByteArray.empty l0 x5_1).toList == a1.toList) = true := beq_iff_eq.mpr c5
            have c5b1 : ((rdOf ByteArray.empty l0 x5_1).toList != a1.toList) = false := bne_eq_false_iff_eq.mpr c5
            clear c5
            obtain rfl := Option.some.inj H
            have p138 : 0 ≤ (x5_1 : Int) := of_decide_eq_true (by first | (with_reducible assumption) | assumption)
            have q138 : x5_1 < (l0.length : Int) := of_decide_eq_true (by first | (with_reducible assumption) | assumption)
            obtain ⟨ad138, e138, hx138_0⟩ := Kd.at_string HR0.out x5_1 p138 q138
            cases e138
            replace p138 := eq_true p138
            replace q138 := eq_true q138
            go_wp2
            go_ret
            exact ⟨by first | rfl | (simp; done) | (simp [*]; done), by repeat (first | exact Drawn0.refl _ | apply Drawn0.step)⟩
          · rw [if_neg c5] at H
            have c5b0 : ((rdOf ByteArray.empty l0 x5_1).toList == a1.toList) = false := beq_eq_false_iff_ne.mpr c5
            have c5b1 : ((rdOf ByteArray.empty l0 x5_1).toList != a1.toList) = true := bne_iff_ne.mpr c5
            have H' := Aside0.mk H
            clear H
            have p138 : 0 ≤ (x5_1 : Int) := of_decide_eq_true (by first | (with_reducible assumption) | assumption)
            have q138 : x5_1 < (l0.length : Int) := of_decide_eq_true (by first | (with_reducible assumption) | assumption)
            obtain ⟨ad138, e138, hx138_0⟩ := Kd.at_string HR0.out x5_1 p138 q138
            cases e138
            replace p138 := eq_true p138
            replace q138 := eq_true q138
            go_wp2
            go_roundg k1
            case measure => have := HK1.out; omega
            case rel => exact ⟨(wrap64 (x5_1 + 1)), (by first | rfl | (simp; done) | (simp [*]; done)), H', ⟨by have := HK1.out; omega⟩, by repeat (first | exact Drawn0.refl _ | apply Drawn0.step)⟩
        · rw [if_neg c4] at H
          exact absurd H (by simp)
      · rw [if_neg c3] at H
        have c3b0 : decide (x5_1 < (l0.length : Int)) = false := decide_eq_false c3
        clear c3
        obtain rfl := Option.some.inj H
        go_wp2
        go_ret
        exact ⟨by first | rfl | (simp; done) | (simp [*]; done), by repeat (first | exact Drawn0.refl _ | apply Drawn0.step)⟩

end Go.Proofs.YtamgmceogjgijaaDoor.G
