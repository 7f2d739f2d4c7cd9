/- PortDelays is true at every input and changes none of its arguments. No conditions. -/
import Derived.Test.YtbojieeildhlcaaDoorCards
import Derived.Test.YtbojieeildhlcaaDoorTie
import Derived.Test.YtbojieeildhlcaaDoorLaid
import Derived.Test.YtbojieeildhlcaaDoorRd
import Derived.Test.YtbojieeildhlcaaDoorPortDels
import Derived.Test.YtbojieeildhlcaaDoorRdP
import Derived.WalkKit
import Derived.ProofKit
import Derived.OpenShut
import Derived.ShutString
import Derived.ChangeOld
import Derived.Below
import Derived.SizedLaws
import Derived.Deep.DeepHandedRow
import Derived.Deep.DeepWitnessRowRef
namespace Go.Proofs.YtbojieeildhlcaaDoor.portDelays
open Go.ChangeShapes Go.WideShapes Go.ChangeAt Go.RowKit Go.Proofs.YtbojieeildhlcaaDoorW.PrintWords Go.Proofs.YtbojieeildhlcaaDoor.G Go.Proofs.YtbojieeildhlcaaDoor.Rd
open Go.ChangeMaps (open_string shut_string)
set_option linter.unusedVariables false
theorem own : ownKnob Tryd.prog.godebug = none := by kernel_rfl
theorem laidOut : laidOutB Tryd.prog = true := by kernel_rfl
theorem rds32 : Rds Tryd.prog k32 32 := rds_struct Tryd.underlying32 (total := 4) (by kernel_rfl)
  (from_iso _ (fun a => (⟨a.1, a.2.1, a.2.2.1, a.2.2.2⟩ : S32)) (fun _ => rfl)
    (from_cons 0 _ rfl rfl (c := 1) (by kernel_rfl) (rds_string Tryd.underlying9) (from_cons 1 _ rfl rfl (c := 1) (by kernel_rfl) (rds_int Tryd.underlying3) (from_cons 2 _ rfl rfl (c := 1) (by kernel_rfl) (rds_int Tryd.underlying3) (from_last 3 _ rfl rfl (by kernel_rfl) (rds_int Tryd.underlying3))))))
theorem rds35 : Rds Tryd.prog k35 35 := rds_struct Tryd.underlying35 (total := 2) (by kernel_rfl)
  (from_iso _ (fun a => (⟨a.1, a.2⟩ : S35)) (fun _ => rfl)
    (from_cons 0 _ rfl rfl (c := 1) (by kernel_rfl) (rds_string Tryd.underlying9) (from_last 1 _ rfl rfl (by kernel_rfl) (rds_slice Tryd.underlying33 (by kernel_rfl) rds32))))
theorem u8b {a : Int} (h : (Lit.int .u8 a).wf = true) : 0 ≤ a ∧ a ≤ 255 := by simpa [Lit.wf, IntKind.min, IntKind.max, IntKind.bits, IntKind.signed] using h
theorem rdsp_imp {P : Program} {α : Type} {k : Kd α} {p q : α → Prop} {t : TypeId} (h : RdsP P k p t) (hpq : ∀ a, p a → q a) : RdsP P k q t := fun H enc w base spare held fuel cs x hx => by
  obtain ⟨a, ha, pa⟩ := h H enc w base spare held fuel cs x hx
  exact ⟨a, ha, hpq a pa⟩
theorem rdsp32 : RdsP Tryd.prog k32 (fun b => b.f0.size ≤ maxLen ∧ True ∧ True ∧ True) 32 := rdsp_imp (rdsp_struct Tryd.underlying32 (total := 4) (by kernel_rfl)
  (fromp_iso _ (fun a => (⟨a.1, a.2.1, a.2.2.1, a.2.2.2⟩ : S32)) (fun _ => rfl)
    (fromp_cons 0 _ rfl rfl (c := 1) (by kernel_rfl) (rdsp_string Tryd.underlying9) (fromp_cons 1 _ rfl rfl (c := 1) (by kernel_rfl) (rdsp_of (rds_int Tryd.underlying3)) (fromp_cons 2 _ rfl rfl (c := 1) (by kernel_rfl) (rdsp_of (rds_int Tryd.underlying3)) (fromp_last 3 _ rfl rfl (by kernel_rfl) (rdsp_of (rds_int Tryd.underlying3)))))))) (fun _ h => h)
theorem rdsp35 : RdsP Tryd.prog k35 (fun b => b.f0.size ≤ maxLen ∧ ∀ x, x ∈ b.f1 → x.f0.size ≤ maxLen ∧ True ∧ True ∧ True) 35 := rdsp_imp (rdsp_struct Tryd.underlying35 (total := 2) (by kernel_rfl)
  (fromp_iso _ (fun a => (⟨a.1, a.2⟩ : S35)) (fun _ => rfl)
    (fromp_cons 0 _ rfl rfl (c := 1) (by kernel_rfl) (rdsp_string Tryd.underlying9) (fromp_last 1 _ rfl rfl (by kernel_rfl) (rdsp_slice Tryd.underlying33 (by kernel_rfl) rdsp32))))) (fun _ h => h)
theorem rds30 : Rds Tryd.prog k30 30 := rds_struct Tryd.underlying30 (total := 3) (by kernel_rfl)
  (from_iso _ (fun a => (⟨a.1, a.2.1, a.2.2⟩ : S30)) (fun _ => rfl)
    (from_cons 0 _ rfl rfl (c := 1) (by kernel_rfl) (rds_int Tryd.underlying3) (from_cons 1 _ rfl rfl (c := 1) (by kernel_rfl) (rds_int Tryd.underlying3) (from_last 2 _ rfl rfl (by kernel_rfl) (rds_int Tryd.underlying3)))))
theorem szd {l : List S35} (h : ∀ x, x ∈ l → x.f0.size ≤ maxLen ∧ ∀ y, y ∈ x.f1 → y.f0.size ≤ maxLen ∧ True ∧ True ∧ True) (i : Nat) (hi : i < l.length) : Port.sized (Port.vy l i) := by
  have e : Port.vy l i = l[i] := by unfold Port.vy rd_T35; rw [List.getD_eq_getElem?_getD, Int.toNat_natCast, List.getElem?_eq_getElem hi]; rfl
  rw [e]
  have h1 := h _ (List.getElem_mem hi)
  refine ⟨h1.1, fun j hj => ?_⟩
  have e2 : rd_T32 l[i].f1 (j : Nat) = l[i].f1[j] := by unfold rd_T32; rw [List.getD_eq_getElem?_getD, Int.toNat_natCast, List.getElem?_eq_getElem hj]; rfl
  rw [e2]
  exact (h1.2 _ (List.getElem_mem hj)).1
theorem szd1 {x : S35} (h : x.f0.size ≤ maxLen ∧ ∀ y, y ∈ x.f1 → y.f0.size ≤ maxLen ∧ True ∧ True ∧ True) : Port.sized x := by
  have h1 := szd (l := [x]) (fun y hy => by rw [List.mem_singleton.1 hy]; exact h) 0 (by simp)
  exact h1

set_option maxRecDepth 100000 in
theorem reads (os : Os) {H : Type} (enc : TypeId × Value → H) :
    (OpenSpec.ofChange Rows.portDelaysSpec).preRow enc Tryd.prog Tryd.f5 Rows.portDelaysRow.domain false Rows.portDelaysRow.laid ((Tab.laidWorld os).forCall (fun _ _ => 0) ⟨#[], #[.agg #[.string ByteArray.empty, .slice none 0 0], .int .i64 0, .int .i64 0], []⟩).memory #[.agg #[.string ByteArray.empty, .slice none 0 0], .int .i64 0, .int .i64 0] := by
  have hw : (DataW.whole enc Tryd.prog ((Tab.laidWorld os).forCall (fun _ _ => 0) ⟨#[], #[.agg #[.string ByteArray.empty, .slice none 0 0], .int .i64 0, .int .i64 0], []⟩).memory Tryd.f5.params.toList Rows.portDelaysSpec.vars false #[(.agg #[.string ByteArray.empty, .slice none 0 0] : Value), .int .i64 0, .int .i64 0].toList 8).map (fun x => (x.1, x.2.1)) = some ([.agg [.lit (.string []), .nil], .lit (.int .i64 0), .lit (.int .i64 0)], []) := by kernel_rfl
  obtain ⟨⟨x1, x2, x3⟩, hx, hx1⟩ := Option.map_eq_some_iff.1 hw
  simp only [Prod.mk.injEq] at hx1
  obtain ⟨rfl, rfl⟩ := hx1
  exact OpenSpec.preRow_of_cond 8 hx (by kernel_rfl) (fun k hk => by cases hk) (by kernel_rfl) (Tab.met1 os _)
set_option maxRecDepth 100000 in
theorem lifted (os : Os) (started : os.Started) (H : Type) (enc : TypeId × Value → H) (F : Stop.Interp) :
    ReturnsInHanded {} Tryd.checked os 5 .any ((OpenSpec.ofChange Rows.portDelaysSpec).preRow enc Tryd.prog Tryd.f5 Rows.portDelaysRow.domain false Rows.portDelaysRow.laid) (((OpenSpec.ofChange Rows.portDelaysSpec).at F).post enc Tryd.prog Tryd.f5 false true false false) := by
  refine returnsInHanded_of_row (C := Tryd.checked) (s := OpenSpec.ofChange Rows.portDelaysSpec) own started (by kernel_rfl) Tryd.func5
    (witness_row_atRef (enc := enc) (C := Tryd.checked) false (Tab.laidWorld os) #[.agg #[.string ByteArray.empty, .slice none 0 0], .int .i64 0, .int .i64 0] rfl (by kernel_rfl) (by kernel_rfl) (by kernel_rfl) (reads os enc)) ?_
  intro W base args ds gs before hval0 hW hcnd _ hsz0 hL _ _
  have hval : ∀ (j : Nat) t v, Tryd.f5.params[j]? = some t → args[j]? = some v → Value.okWide Tryd.prog W .any base t v := hval0
  have hW' := hW
  obtain ⟨p, q, hA0, hV, rfl, hfz, hnd⟩ := hW
  have hA : DataW.TrodAll enc Tryd.prog W 0 (fun _ => true) true Tryd.f5.params.toList args.toList ds p := hA0
  rw [Tryd.params5] at hA hval
  obtain ⟨v0, vs0, d0, ds0, p0, q0, hargs, rfl, rfl, h0, r0⟩ := trodAll_cons hA
  obtain ⟨v1, vs1, d1, ds1, p1, q1, rfl, rfl, rfl, h1, r1⟩ := trodAll_cons r0
  obtain ⟨v2, vs2, d2, ds2, p2, q2, rfl, rfl, rfl, h2, r2⟩ := trodAll_cons r1
  obtain ⟨rfl, rfl, rfl⟩ := trodAll_nil r2
  obtain rfl : args = #[v0, v1, v2] := by cases args; simp_all
  obtain ⟨rfl, rfl⟩ := trodVars_none hV
  obtain ⟨cs0, rfl, hcs0⟩ := okWide_struct Tryd.underlying35 (hval 0 35 v0 rfl rfl)
  have k0 := h0
  have lt0 : ∀ x ∈ p0, x.block < W.heap.size := by obtain ⟨m, hm⟩ := k0; exact DataW.trod_lt m _ _ _ hm
  obtain ⟨fuel0, hf0⟩ := h0
  obtain ⟨x0, hK0, s0⟩ := rdsp35 H enc W 0 (fun _ => true) true fuel0 _ _ hf0
  obtain ⟨A0_1, c0_1, hcells0, l0_1, g0_1⟩ := k35_open hK0
  obtain rfl : cs0 = #[.string x0.f0, .slice A0_1 x0.f1.length c0_1] := by
    cases cs0
    exact congrArg Array.mk hcells0
  obtain ⟨a1, rfl, rfl, rfl, w1⟩ := open_int Tryd.underlying3 (hval 1 3 v1 rfl rfl) h1
  obtain ⟨a2, rfl, rfl, rfl, w2⟩ := open_int Tryd.underlying3 (hval 2 3 v2 rfl rfl) h2
  clear hA0 hval0 hsz0
  refine (Port.delays_calls x0.f0 A0_1 c0_1 x0.f1 a1 a2 W (szd1 s0) g0_1 l0_1).mono fun e W' ⟨he, bel⟩ => ?_
  subst he
  exact ⟨_, rfl, _, _, _, [], _, [], hW', trodAll_mk1 (shut_bool Tryd.underlying4 _), (trodAll_cons_mk (Below.trod laidOut (by kernel_rfl) (of_decide_eq_true (by kernel_rfl)) k0 bel lt0) (trodAll_cons_mk (shut_int Tryd.underlying3 w1) (trodAll_cons_mk (shut_int Tryd.underlying3 w2) trodAll_mk0))), rfl, bel.frame _, fun h => by cases h⟩
theorem said : Rows.PortDelaysSaid :=
  OpenClaim.holds_of_cond 5 Tryd.f5 rfl rfl rfl rfl rfl rfl rfl ⟨rfl, rfl, rfl, rfl, rfl⟩ rfl rfl rfl rfl rfl (by kernel_rfl) Tryd.func5 (by kernel_rfl)
    (of_decide_eq_true (by kernel_rfl)) (by unfold Func.isWrapper; first | (rw [if_pos (by decide +kernel)]; kernel_rfl) | (rw [if_neg (by decide +kernel)]; exact ⟨rfl, rfl⟩))
    (fun os started H enc _ F => by rw [OpenClaim.pre_eq_preRow]; exact lifted os started H enc F)
theorem plain (f : FuncId) (fn : Func) (hf : Tryd.pinned.checked.prog.funcNamed "supercargo/supercargolaw16.PortDelays" = some f) (hfn : Tryd.pinned.checked.prog.funcs[f]? = some fn) :
    false = Tryd.pinned.checked.prog.looks [] ∧ ∀ (j : Nat) t, fn.params[j]? = some t → Tryd.pinned.checked.prog.wantsStandIn t = false := by
  obtain rfl : f = 5 := Option.some.inj ((show Tryd.prog.funcNamed "supercargo/supercargolaw16.PortDelays" = some 5 by kernel_rfl).symm.trans hf) |>.symm
  obtain rfl : fn = Tryd.f5 := (Option.some.inj (Tryd.func5.symm.trans hfn)).symm
  refine ⟨by kernel_rfl, fun j t ht => ?_⟩
  rw [Tryd.params5] at ht
  have hm : t = 35 ∨ t = 3 ∨ t = 3 := by simpa using Array.mem_of_getElem? ht
  rcases hm with rfl | rfl | rfl
  · exact (show Tryd.prog.wantsStandIn 35 = false by kernel_rfl)
  · exact (show Tryd.prog.wantsStandIn 3 = false by kernel_rfl)
  · exact (show Tryd.prog.wantsStandIn 3 = false by kernel_rfl)
theorem proved : Rows.PortDelaysCardSaid :=
  Claim7.holds_tied_plain_at .later [] _ _ _ _ said (fun _ h => by cases h) (by kernel_rfl) (fun _ h => by cases h) portDelays_row_tie rfl ⟨rfl, rfl⟩ (by kernel_rfl) rfl plain (by kernel_rfl)
#print axioms proved
end Go.Proofs.YtbojieeildhlcaaDoor.portDelays
namespace Go.Proofs.YtbojieeildhlcaaDoor
/-- The card, under a short name, for the claim. -/
theorem portDelays_holds : Rows.PortDelaysCardSaid := portDelays.proved
end Go.Proofs.YtbojieeildhlcaaDoor
