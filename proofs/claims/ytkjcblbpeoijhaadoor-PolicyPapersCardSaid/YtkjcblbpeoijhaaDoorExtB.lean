/- The chapter's example, walked. -/
import Derived.Test.YtkjcblbpeoijhaaDoorExt
namespace Go.Proofs.YtkjcblbpeoijhaaDoor.Ext
set_option linter.unusedVariables false
set_option linter.unusedSimpArgs false
open Go.RowKit Go.Proofs.YtkjcblbpeoijhaaDoorW.PrintWords Go.Proofs.YtkjcblbpeoijhaaDoorW.PrintLast Go.Proofs.YtkjcblbpeoijhaaDoorW.PrintMore Go.Proofs.YtkjcblbpeoijhaaDoor.G
theorem n1 : nameB ⟨#[110]⟩ = true := by decide
theorem n2 : nameB ⟨#[97]⟩ = true := by decide
theorem n3 : nameB ⟨#[98]⟩ = true := by decide
theorem mul_any (x y : Nat) (hx : x < 18446744073709551616) (hy : y < 18446744073709551616) (hi lo : Int) (h1 : ((x * y / 18446744073709551616 : Nat) : Int) = hi) (h2 : ((x * y % 18446744073709551616 : Nat) : Int) = lo) (w : World) :
    Calls Tryd.prog 36 #[.int .u64 x, .int .u64 y] w fun e w' => e = .returned (.tuple #[.int .u64 hi, .int .u64 lo]) ∧ w = w' := by
  refine (Tryd.bits_Mul64 x y hx hy w).mono ?_
  rintro e w' ⟨rfl, rfl⟩
  rw [h1, h2]
  exact ⟨rfl, rfl⟩
theorem mul_500_600 (w : World) : Calls Tryd.prog 36 #[.int .u64 500, .int .u64 600] w fun e w' => e = .returned (.tuple #[.int .u64 0, .int .u64 300000]) ∧ w = w' :=
  mul_any 500 600 (by decide) (by decide) 0 300000 rfl rfl w
set_option maxHeartbeats 4000000 in
set_option maxRecDepth 100000 in
theorem awake_walk (w : World) : Calls Tryd.prog 4 #[] w fun e w' => e = .returned (.bool true) ∧ Below w.heap.size w w' := by
  go_enter Tryd.func4, Tryd.ntmps4
  go_wp2_with (first | (go_at_call 15; refine (name_yes _ _ (by first | exact n1 | exact n2 | exact n3) (by decide)).mono ?_; rintro e w' ⟨rfl, ⟨nd, rfl⟩⟩) | (go_at_call 36; refine (mul_500_600 _).mono ?_; rintro e w' ⟨rfl, rfl⟩) | go_in)
  refine wp_loop_rounds 1 ?_
  rw [rounds_succ]
  go_wp2_with (first | (go_at_call 15; refine (name_yes _ _ (by first | exact n1 | exact n2 | exact n3) (by decide)).mono ?_; rintro e w' ⟨rfl, ⟨nd, rfl⟩⟩) | (go_at_call 36; refine (mul_500_600 _).mono ?_; rintro e w' ⟨rfl, rfl⟩) | go_in)
  go_quiet (fail)
  go_wp2_with (first | (go_at_call 15; refine (name_yes _ _ (by first | exact n1 | exact n2 | exact n3) (by decide)).mono ?_; rintro e w' ⟨rfl, ⟨nd, rfl⟩⟩) | (go_at_call 36; refine (mul_500_600 _).mono ?_; rintro e w' ⟨rfl, rfl⟩) | go_in)
  go_ret
  exact ⟨rfl, by repeat (first | (with_reducible first | exact Below.refl _ _ | apply below_alloc | apply pw_below_drewN | apply below_drew1) | exact Below.refl _ _)⟩
theorem supercargolaw42_awake.calls (r : Bool) (w : World) (h : supercargolaw42_awake.f = some r) : Calls Tryd.prog 4 #[] w fun e w' => e = .returned (.bool r) ∧ Below w.heap.size w w' := by
  obtain rfl := Option.some.inj h
  exact awake_walk w
end Go.Proofs.YtkjcblbpeoijhaaDoor.Ext
