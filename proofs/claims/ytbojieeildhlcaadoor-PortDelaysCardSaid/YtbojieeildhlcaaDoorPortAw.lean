/- The document's example. -/
import Derived.Test.YtbojieeildhlcaaDoorPortEx
namespace Go.Proofs.YtbojieeildhlcaaDoor.Ext
open Go.RowKit Go.Shelf Go.Proofs.YtbojieeildhlcaaDoorW.PrintWords Go.Proofs.YtbojieeildhlcaaDoorW.PrintLast Go.Proofs.YtbojieeildhlcaaDoorW.PrintMore Go.Proofs.YtbojieeildhlcaaDoor.G Go.Proofs.YtbojieeildhlcaaDoor.Port
set_option linter.unusedVariables false
set_option linter.unusedSimpArgs false

theorem text_lit (A : Option Addr) (c : Nat) (w : World) (hC : Kd.C k32 w A 2 [c0, c1]) (hc : 2 ≤ c) :
    Calls Tryd.prog 16 #[.agg #[.string ⟨#[115]⟩, .slice A 2 c]] w fun e w' => e = .returned (.string ⟨#[115, 32, 97, 64, 49, 45, 50, 47, 49, 32, 98, 64, 53, 45, 54, 47, 53]⟩) ∧ Below w.heap.size w w' := text_const A c w hC hc
theorem best_vc (A : Option Addr) (c : Nat) (r : Int) (r0 : List S30) (r1 : Int) (r2 : Bool) (w : World) (hC : Kd.C k35 w A 1 [vc]) (h : bestF [vc] [97] [98] r 0 = (r0, r1, r2)) :
    Calls Tryd.prog 9 #[.slice A 1 c, .string ⟨#[97]⟩, .string ⟨#[98]⟩, .int .i64 r, .int .i64 0] w fun e w' => ∃ A' c', e = .returned (.tuple #[.slice A' r0.length c', .int .i64 r1, .bool r2]) ∧ Below w.heap.size w w' := by
  have hb := best_calls [vc] A c ⟨#[97]⟩ ⟨#[98]⟩ r 0 w (by decide) hC (by decide) (by decide)
  rw [show bestF [vc] (⟨#[97]⟩ : ByteArray).data.toList (⟨#[98]⟩ : ByteArray).data.toList r 0 = (r0, r1, r2) from h] at hb
  refine hb.mono ?_
  rintro e w' ⟨v, rfl, hR, hB⟩
  obtain ⟨A', c', rfl, _⟩ := Kd.R_reads hR
  exact ⟨A', c', rfl, hB⟩
/-- The two calls, in memory. -/
theorem calls_new (W : World) : Kd.C k32 (W.alloc (Obj.cells #[.string ⟨#[97]⟩, .int .i64 1, .int .i64 1, .int .i64 2, .string ⟨#[98]⟩, .int .i64 5, .int .i64 5, .int .i64 6] 32)) (some ⟨W.heap.size, 0, none⟩) 2 [c0, c1] := by
  refine ⟨rfl, by decide, fun _ => ⟨_, rfl, fun j p hj => ?_⟩⟩
  rcases j with _ | _ | j
  · simp at hj; subst hj
    refine ⟨_, rfl, k32_mk _ c0, fun i u hu => ?_⟩
    rcases i with _ | _ | _ | _ | i <;> simp [c0] at hu <;> subst hu <;> simp [go_sem, Addr.add, c0]
  · simp at hj; subst hj
    refine ⟨_, rfl, k32_mk _ c1, fun i u hu => ?_⟩
    rcases i with _ | _ | _ | _ | i <;> simp [c1] at hu <;> subst hu <;> simp [go_sem, Addr.add, c1, show k32.sz = 4 from rfl]
  · simp at hj
theorem voyage_new (W : World) (A : Option Addr) (hC : Kd.C k32 W A 2 [c0, c1]) : Kd.C k35 (W.alloc (Obj.cells #[.string ⟨#[115]⟩, .slice A 2 2] 35)) (some ⟨W.heap.size, 0, none⟩) 1 [vc] := by
  refine ⟨rfl, by decide, fun _ => ⟨_, rfl, fun j p hj => ?_⟩⟩
  rcases j with _ | j
  · simp at hj; subst hj
    refine ⟨_, rfl, k35_mk _ vc (A1 := A) (c1 := 2) (by decide) (C32_ck hC (ck_alloc _ _)), fun i u hu => ?_⟩
    rcases i with _ | _ | i <;> simp [vc] at hu <;> subst hu <;> simp [go_sem, Addr.add, vc]
  · simp at hj
set_option maxRecDepth 100000 in
set_option maxHeartbeats 4000000 in
theorem awake_walk (w : World) : Calls Tryd.prog 7 #[] w fun e w' => e = .returned (.bool true) ∧ Below w.heap.size w w' := by
  go_enter Tryd.func7, Tryd.ntmps7
  obtain ⟨W1, hW1⟩ : ∃ W1, w.alloc (Obj.cells #[.string ⟨#[97]⟩, .int .i64 1, .int .i64 1, .int .i64 2, .string ⟨#[98]⟩, .int .i64 5, .int .i64 5, .int .i64 6] 32) = W1 := ⟨_, rfl⟩
  go_wp2_with fail
  have hC1 : Kd.C k32 W1 (some ⟨w.heap.size, 0, none⟩) 2 [c0, c1] := by rw [← hW1]; exact calls_new w
  have hB1 : Below w.heap.size w W1 := by rw [← hW1]; exact (Below.refl _ w).alloc (Nat.le_refl _) _
  clear hW1
  obtain ⟨A1, hA1⟩ : ∃ A1 : Option Addr, (some ⟨w.heap.size, 0, none⟩ : Option Addr) = A1 := ⟨_, rfl⟩
  rw [hA1] at hC1 ⊢
  clear hA1
  have hk2 := ck_alloc W1 (Obj.cells #[.string ⟨#[115]⟩, .slice A1 2 2] 35)
  have hv0 : (W1.alloc (Obj.cells #[.string ⟨#[115]⟩, .slice A1 2 2] 35)).cell? ⟨W1.heap.size, 0, none⟩ = some (.string ⟨#[115]⟩) := by simp [go_sem]
  have hv1 : (W1.alloc (Obj.cells #[.string ⟨#[115]⟩, .slice A1 2 2] 35)).cell? ⟨W1.heap.size, 1, none⟩ = some (.slice A1 2 2) := by simp [go_sem]
  have hB2 := hB1.alloc hB1.size (Obj.cells #[.string ⟨#[115]⟩, .slice A1 2 2] 35)
  have hn2 : (W1.alloc (Obj.cells #[.string ⟨#[115]⟩, .slice A1 2 2] 35)).heap.size = W1.heap.size + 1 := by simp
  obtain ⟨W2, hW2⟩ : ∃ W2, W1.alloc (Obj.cells #[.string ⟨#[115]⟩, .slice A1 2 2] 35) = W2 := ⟨_, rfl⟩
  rw [hW2] at hk2 hv0 hv1 hB2 hn2 ⊢
  rw [← hn2]
  clear hW2
  have hC2 := C32_ck hC1 hk2
  have hB3 := hB2.alloc hB2.size (Obj.cells #[.string ⟨#[115]⟩, .slice A1 2 2] 35)
  have hk3 := ck_alloc W2 (Obj.cells #[.string ⟨#[115]⟩, .slice A1 2 2] 35)
  refine (best_vc _ _ 1 _ _ _ _ (voyage_new W2 A1 hC2) best_1).mono ?_
  rintro e w2 ⟨A2, c2, rfl, hb2⟩
  have hk4 := hk3.trans (CK.below hb2)
  replace hv0 := hk4.2 _ _ hv0
  replace hv1 := hk4.2 _ _ hv1
  have hC4 := C32_ck hC2 hk4
  have hB4 := below_step hB3 hb2
  clear hb2 hB3 hk3 hk4 hC2 hC1 hk2 hn2 hB2 hB1
  go_wp2_with fail
  have hB5 := hB4.alloc hB4.size (Obj.cells #[.string ⟨#[115]⟩, .slice A1 2 2] 35)
  have hk5 := ck_alloc w2 (Obj.cells #[.string ⟨#[115]⟩, .slice A1 2 2] 35)
  refine (best_vc _ _ 2 _ _ _ _ (voyage_new w2 A1 hC4) best_2).mono ?_
  rintro e w3 ⟨A3, c3, rfl, hb3⟩
  have hk6 := hk5.trans (CK.below hb3)
  replace hv0 := hk6.2 _ _ hv0
  replace hv1 := hk6.2 _ _ hv1
  have hC6 := C32_ck hC4 hk6
  have hB6 := below_step hB5 hb3
  clear hb3 hB5 hk5 hk6 hC4 hB4
  go_wp2_with fail
  refine (text_lit _ _ _ hC6 (by decide)).mono ?_
  rintro e w4 ⟨rfl, hb4⟩
  have hB7 := below_step hB6 hb4
  clear hb4 hB6 hv0 hv1 hC6
  go_wp2_with fail
  go_ret
  exact ⟨rfl, hB7⟩
def awake.f : Option Bool := some true
theorem awake.calls (r : Bool) (w : World) (h : awake.f = some r) : Calls Tryd.prog 7 #[] w fun e w' => e = .returned (.bool r) ∧ Below w.heap.size w w' := by
  obtain rfl := Option.some.inj h
  exact awake_walk w
end Go.Proofs.YtbojieeildhlcaaDoor.Ext
