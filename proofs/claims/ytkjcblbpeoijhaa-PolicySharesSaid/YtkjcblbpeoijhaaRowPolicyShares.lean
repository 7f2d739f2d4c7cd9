/- PolicyShares is true at every input and changes none of its arguments. No conditions. -/
import Derived.Test.YtkjcblbpeoijhaaRows
import Derived.Test.YtkjcblbpeoijhaaPurePolicyShares
import Derived.Test.YtkjcblbpeoijhaaRd
import Derived.WalkKit
import Derived.ProofKit
import Derived.OpenShut
import Derived.ShutString
import Derived.ChangeOld
import Derived.Below
import Derived.SizedLaws
namespace Go.Proofs.Ytkjcblbpeoijhaa.policyShares
open Go.ChangeShapes Go.WideShapes Go.ChangeAt Go.RowKit Go.Proofs.YtkjcblbpeoijhaaW.PrintWords Go.Proofs.Ytkjcblbpeoijhaa.G Go.Proofs.Ytkjcblbpeoijhaa.Rd
open Go.ChangeMaps (open_string shut_string)
set_option linter.unusedVariables false
theorem own : ownKnob Try.prog.godebug = none := by kernel_rfl
theorem laidOut : laidOutB Try.prog = true := by kernel_rfl
theorem rds24 : Rds Try.prog k24 24 := rds_struct Try.underlying24 (total := 9) (by kernel_rfl) 
  (from_iso _ (fun a => (⟨a.1, a.2.1, a.2.2.1, a.2.2.2.1, a.2.2.2.2.1, a.2.2.2.2.2.1, a.2.2.2.2.2.2.1, a.2.2.2.2.2.2.2.1, a.2.2.2.2.2.2.2.2⟩ : S24)) (fun _ => rfl)
    (from_cons 0 _ rfl rfl (c := 1) (by kernel_rfl) (rds_string Try.underlying9) (from_cons 1 _ rfl rfl (c := 1) (by kernel_rfl) (rds_string Try.underlying9) (from_cons 2 _ rfl rfl (c := 1) (by kernel_rfl) (rds_string Try.underlying9)
      (from_cons 3 _ rfl rfl (c := 1) (by kernel_rfl) (rds_int Try.underlying2) (from_cons 4 _ rfl rfl (c := 1) (by kernel_rfl) (rds_int Try.underlying2) (from_cons 5 _ rfl rfl (c := 1) (by kernel_rfl) (rds_slice Try.underlying22 (by kernel_rfl) (rds_int Try.underlying3))
        (from_cons 6 _ rfl rfl (c := 1) (by kernel_rfl) (rds_int Try.underlying3) (from_cons 7 _ rfl rfl (c := 1) (by kernel_rfl) (rds_int Try.underlying3) (from_last 8 _ rfl rfl (by kernel_rfl) (rds_int Try.underlying3)))))))))))
set_option maxRecDepth 100000 in
theorem lifted (os : Os) (started : os.Started) (H : Type) (enc : TypeId × Value → H) :
    ReturnsInHanded {} Try.checked os 5 .any (Rows.policySharesSpec.pre6 enc Try.prog Try.f5 Rows.policySharesRow.domain false) (Rows.policySharesSpec.post enc Try.prog Try.f5 false true false false) := by
  refine returnsInHanded_of_change_sized (C := Try.checked) own started (by kernel_rfl) Try.func5
    (ChangeSpec.witness6 (enc := enc) (C := Try.checked) false ⟨#[], #[.agg #[.string ByteArray.empty, .string ByteArray.empty, .string ByteArray.empty, .int .i64 0, .int .i64 0, .slice none 0 0, .int .i64 0, .int .i64 0, .int .i64 0], .int .i64 0, .int .i64 0, .int .i64 0], []⟩ 8 (by kernel_rfl) (by kernel_rfl) (by kernel_rfl) (by kernel_rfl)) ?_
  intro W base args ds gs before hval0 hW hcnd hsz0 _
  have hval : ∀ (j : Nat) t v, Try.f5.params[j]? = some t → args[j]? = some v → Value.okWide Try.prog W .any base t v := hval0
  have hW' := hW
  obtain ⟨p, q, hA0, hV, rfl, hfz, hnd⟩ := hW
  have hA : DataW.TrodAll enc Try.prog W 0 (fun _ => true) true Try.f5.params.toList args.toList ds p := hA0
  rw [Try.params5] at hA hval
  obtain ⟨v0, vs0, d0, ds0, p0, q0, hargs, rfl, rfl, h0, r0⟩ := trodAll_cons hA
  obtain ⟨v1, vs1, d1, ds1, p1, q1, rfl, rfl, rfl, h1, r1⟩ := trodAll_cons r0
  obtain ⟨v2, vs2, d2, ds2, p2, q2, rfl, rfl, rfl, h2, r2⟩ := trodAll_cons r1
  obtain ⟨v3, vs3, d3, ds3, p3, q3, rfl, rfl, rfl, h3, r3⟩ := trodAll_cons r2
  obtain ⟨rfl, rfl, rfl⟩ := trodAll_nil r3
  obtain rfl : args = #[v0, v1, v2, v3] := by cases args; simp_all
  obtain ⟨rfl, rfl⟩ := trodVars_none hV
  obtain ⟨cs0, rfl, hcs0⟩ := okWide_struct Try.underlying24 (hval 0 24 v0 rfl rfl)
  have k0 := h0
  have lt0 : ∀ x ∈ p0, x.block < W.heap.size := by obtain ⟨m, hm⟩ := k0; exact DataW.trod_lt m _ _ _ hm
  obtain ⟨fuel0, hf0⟩ := h0
  obtain ⟨x0, hK0⟩ := rds24 H enc W 0 (fun _ => true) true fuel0 _ _ hf0
  obtain ⟨A0_5, c0_5, hcells0, l0_5, g0_5⟩ := k24_open hK0
  obtain rfl : cs0 = #[.string x0.f0, .string x0.f1, .string x0.f2, .int .i64 x0.f3, .int .i64 x0.f4, .slice A0_5 x0.f5.length c0_5, .int .i64 x0.f6, .int .i64 x0.f7, .int .i64 x0.f8] := by
    cases cs0
    exact congrArg Array.mk hcells0
  obtain ⟨a1, rfl, rfl, rfl, w1⟩ := open_int Try.underlying3 (hval 1 3 v1 rfl rfl) h1
  obtain ⟨a2, rfl, rfl, rfl, w2⟩ := open_int Try.underlying2 (hval 2 2 v2 rfl rfl) h2
  obtain ⟨a3, rfl, rfl, rfl, w3⟩ := open_int Try.underlying2 (hval 3 2 v3 rfl rfl) h3
  clear hA0 hval0 hsz0
  refine (Pol.shares_calls x0.f0 x0.f1 x0.f2 x0.f3 x0.f4 A0_5 c0_5 x0.f5 x0.f6 x0.f7 x0.f8 a1 a2 a3 W g0_5 l0_5).mono fun e W' ⟨he, bel⟩ => ?_
  subst he
  exact ⟨_, rfl, _, _, _, [], _, [], hW', trodAll_mk1 (shut_bool Try.underlying4 _), (trodAll_cons_mk (Below.trod laidOut (by kernel_rfl) (of_decide_eq_true (by kernel_rfl)) k0 bel lt0) (trodAll_cons_mk (shut_int Try.underlying3 w1) (trodAll_cons_mk (shut_int Try.underlying2 w2) (trodAll_cons_mk (shut_int Try.underlying2 w3) trodAll_mk0)))), rfl, bel.frame _, fun h => by cases h⟩
theorem over : Rows.policySharesRow.holds Try.pinned (OpenSpec.ofChange Rows.policySharesSpec) :=
  OpenClaim.holds_of_wide 5 Try.f5 rfl rfl rfl rfl rfl rfl rfl ⟨rfl, rfl, rfl, rfl, rfl⟩ rfl rfl rfl rfl rfl (by kernel_rfl) Try.func5 (by kernel_rfl)
    (of_decide_eq_true (by kernel_rfl)) (by unfold Func.isWrapper; first | (rw [if_pos (by decide +kernel)]; kernel_rfl) | (rw [if_neg (by decide +kernel)]; exact ⟨rfl, rfl⟩))
    (fun os started H enc _ => lifted os started H enc)
theorem proved : Rows.PolicySharesSaid := over
#print axioms proved
end Go.Proofs.Ytkjcblbpeoijhaa.policyShares
namespace Go.Proofs.Ytkjcblbpeoijhaa
/-- The row, under a short name, for the claim. -/
theorem policyShares_holds : Rows.PolicySharesSaid := policyShares.proved
end Go.Proofs.Ytkjcblbpeoijhaa
