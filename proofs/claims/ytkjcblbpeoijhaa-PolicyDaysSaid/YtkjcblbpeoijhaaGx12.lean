-- Printed by a program of this session's (wip/lab) after the kit's print: Lean checks it.
import Derived.Test.YtkjcblbpeoijhaaGx0
import Derived.Test.YtkjcblbpeoijhaaGx4
import Derived.Test.YtkjcblbpeoijhaaGx9
import Derived.Test.YtkjcblbpeoijhaaExt
namespace Go.Proofs.Ytkjcblbpeoijhaa.G
open Go.Proofs.Ytkjcblbpeoijhaa.Ext
open Go.RowKit Go.Proofs.YtkjcblbpeoijhaaW.PrintWords Go.Proofs.YtkjcblbpeoijhaaW.PrintLast Go.Proofs.YtkjcblbpeoijhaaW.PrintMore
attribute [local go_sem] max2_int min2_int max_two min_two max_three min_three max_four min_four   -- for this text's walks alone
set_option linter.unusedVariables false
set_option linter.unusedSimpArgs false

/-! ### supercargolaw42_PolicyDays: function 7 -/
mutual
def supercargolaw42_PolicyDays.j0 : Nat → List (S47) → Int → Int → Int → Int → Bool → ByteArray → ByteArray → ByteArray → Int → Int → List Int → Int → Int → Int → Option (Bool)
  | 0, _, _, _, _, _, _, _, _, _, _, _, _, _, _, _ => none
  | k + 1, x1, x2, x3, x4, x5, x35, x213000, x213001, x213002, x213003, x213004, x213005, x213006, x213007, x213008 => if x35 = true then (some true) else ((policy_Covers.f k x213000 x213001 x213002 x213003 x213004 x213005 x213006 x213007 x213008 x1 x2 x3).bind fun t216 => (if t216 = true then ((policy_Covers.f k x213000 x213001 x213002 x213003 x213004 x213005 x213006 x213007 x213008 x1 x2 x5).bind fun t217 => (if t217 = true then ((policy_Covers.f k x213000 x213001 x213002 x213003 x213004 x213005 x213006 x213007 x213008 x1 x2 x4).bind fun t218 => (supercargolaw42_PolicyDays.j1 k x1 x2 (!t218) x213000 x213001 x213002 x213003 x213004 x213005 x213006 x213007 x213008)) else (supercargolaw42_PolicyDays.j1 k x1 x2 false x213000 x213001 x213002 x213003 x213004 x213005 x213006 x213007 x213008))) else (supercargolaw42_PolicyDays.j1 k x1 x2 false x213000 x213001 x213002 x213003 x213004 x213005 x213006 x213007 x213008)))
def supercargolaw42_PolicyDays.j1 : Nat → List (S47) → Int → Bool → ByteArray → ByteArray → ByteArray → Int → Int → List Int → Int → Int → Int → Option (Bool)
  | 0, _, _, _, _, _, _, _, _, _, _, _, _ => none
  | k + 1, x1, x2, x55, x213000, x213001, x213002, x213003, x213004, x213005, x213006, x213007, x213008 => if x55 = true then (some false) else ((policy_Covers.f k x213000 x213001 x213002 x213003 x213004 x213005 x213006 x213007 x213008 x1 x2 (wrap64 (x213006 - 1))).bind fun t219 => (if t219 = true then (some false) else ((policy_Covers.f k x213000 x213001 x213002 x213003 x213004 x213005 x213006 x213007 x213008 x1 x2 (wrap64 (x213007 + 1))).bind fun t220 => (some (!t220)))))
end
def supercargolaw42_PolicyDays.f (k : Nat) (a0_0 : ByteArray) (a0_1 : ByteArray) (a0_2 : ByteArray) (a0_3 : Int) (a0_4 : Int) (l0_5 : List Int) (a0_6 : Int) (a0_7 : Int) (a0_8 : Int) (l1 : List (S47)) (a2 : Int) (a3 : Int) (a4 : Int) (a5 : Int) : Option (Bool) := (supercargolaw42_awake.f k).bind fun t213 => (if t213 = true then ((supercargoref42_Long.f a0_0 a0_1 a0_2 a0_3 a0_4 l0_5 a0_6 a0_7 a0_8).bind fun t214 => (if t214 = true then (supercargolaw42_PolicyDays.j0 k l1 a2 a3 a4 a5 true a0_0 a0_1 a0_2 a0_3 a0_4 l0_5 a0_6 a0_7 a0_8) else (if (l1.length : Int) > 30 then (supercargolaw42_PolicyDays.j0 k l1 a2 a3 a4 a5 true a0_0 a0_1 a0_2 a0_3 a0_4 l0_5 a0_6 a0_7 a0_8) else ((supercargolaw42_heavy.f k l1).bind fun t215 => (if t215 = true then (supercargolaw42_PolicyDays.j0 k l1 a2 a3 a4 a5 true a0_0 a0_1 a0_2 a0_3 a0_4 l0_5 a0_6 a0_7 a0_8) else (if a3 > a4 then (supercargolaw42_PolicyDays.j0 k l1 a2 a3 a4 a5 true a0_0 a0_1 a0_2 a0_3 a0_4 l0_5 a0_6 a0_7 a0_8) else (supercargolaw42_PolicyDays.j0 k l1 a2 a3 a4 a5 (decide (a4 > a5)) a0_0 a0_1 a0_2 a0_3 a0_4 l0_5 a0_6 a0_7 a0_8))))))) else (some false))
theorem supercargolaw42_PolicyDays.mono_l : ∀ k, (∀ y0 y1 y2 y3 y4 y5 y6 y7 y8 y9 y10 y11 y12 y13 y14, LeO (supercargolaw42_PolicyDays.j0 k y0 y1 y2 y3 y4 y5 y6 y7 y8 y9 y10 y11 y12 y13 y14) (supercargolaw42_PolicyDays.j0 (k + 1) y0 y1 y2 y3 y4 y5 y6 y7 y8 y9 y10 y11 y12 y13 y14)) ∧ (∀ y0 y1 y2 y3 y4 y5 y6 y7 y8 y9 y10 y11, LeO (supercargolaw42_PolicyDays.j1 k y0 y1 y2 y3 y4 y5 y6 y7 y8 y9 y10 y11) (supercargolaw42_PolicyDays.j1 (k + 1) y0 y1 y2 y3 y4 y5 y6 y7 y8 y9 y10 y11))
  | 0 => ⟨fun _ _ _ _ _ _ _ _ _ _ _ _ _ _ _ r h => by simp [supercargolaw42_PolicyDays.j0] at h, fun _ _ _ _ _ _ _ _ _ _ _ _ r h => by simp [supercargolaw42_PolicyDays.j1] at h⟩
  | k + 1 => by
    obtain ⟨ih0, ih1⟩ := supercargolaw42_PolicyDays.mono_l k
    refine ⟨?_, ?_⟩
    · intro y0 y1 y2 y3 y4 y5 y6 y7 y8 y9 y10 y11 y12 y13 y14
      unfold supercargolaw42_PolicyDays.j0
      repeat' first
      | (with_reducible exact ih0 _ _ _ _ _ _ _ _ _ _ _ _ _ _ _)
      | (with_reducible exact ih1 _ _ _ _ _ _ _ _ _ _ _ _)
      | (with_reducible exact policy_Covers.mono _ _ _ _ _ _ _ _ _ _ _ _ _)
      | (with_reducible exact supercargolaw42_awake.mono _)
      | (with_reducible exact supercargolaw42_heavy.mono _ _)
      | (with_reducible exact LeO.refl _)
      | (with_reducible exact LeO.none _)
      | (with_reducible refine LeO.ite ?_ ?_)
      | (with_reducible refine LeO.bind ?_ (fun _ => ?_))
      | exact ih0 _ _ _ _ _ _ _ _ _ _ _ _ _ _ _
      | exact ih1 _ _ _ _ _ _ _ _ _ _ _ _
      | exact policy_Covers.mono _ _ _ _ _ _ _ _ _ _ _ _ _
      | exact supercargolaw42_awake.mono _
      | exact supercargolaw42_heavy.mono _ _
      | exact LeO.none _
      | refine LeO.ite ?_ ?_
      | refine LeO.bind ?_ (fun _ => ?_)
    · intro y0 y1 y2 y3 y4 y5 y6 y7 y8 y9 y10 y11
      unfold supercargolaw42_PolicyDays.j1
      repeat' first
      | (with_reducible exact ih0 _ _ _ _ _ _ _ _ _ _ _ _ _ _ _)
      | (with_reducible exact ih1 _ _ _ _ _ _ _ _ _ _ _ _)
      | (with_reducible exact policy_Covers.mono _ _ _ _ _ _ _ _ _ _ _ _ _)
      | (with_reducible exact supercargolaw42_awake.mono _)
      | (with_reducible exact supercargolaw42_heavy.mono _ _)
      | (with_reducible exact LeO.refl _)
      | (with_reducible exact LeO.none _)
      | (with_reducible refine LeO.ite ?_ ?_)
      | (with_reducible refine LeO.bind ?_ (fun _ => ?_))
      | exact ih0 _ _ _ _ _ _ _ _ _ _ _ _ _ _ _
      | exact ih1 _ _ _ _ _ _ _ _ _ _ _ _
      | exact policy_Covers.mono _ _ _ _ _ _ _ _ _ _ _ _ _
      | exact supercargolaw42_awake.mono _
      | exact supercargolaw42_heavy.mono _ _
      | exact LeO.none _
      | refine LeO.ite ?_ ?_
      | refine LeO.bind ?_ (fun _ => ?_)
theorem supercargolaw42_PolicyDays.mono : ∀ a0 a1 a2 a3 a4 a5 a6 a7 a8 a9 a10 a11 a12 a13 k, LeO (supercargolaw42_PolicyDays.f k a0 a1 a2 a3 a4 a5 a6 a7 a8 a9 a10 a11 a12 a13) (supercargolaw42_PolicyDays.f (k + 1) a0 a1 a2 a3 a4 a5 a6 a7 a8 a9 a10 a11 a12 a13) := by
  intro a0 a1 a2 a3 a4 a5 a6 a7 a8 a9 a10 a11 a12 a13 k
  obtain ⟨ih0, ih1⟩ := supercargolaw42_PolicyDays.mono_l k
  unfold supercargolaw42_PolicyDays.f
  repeat' first
      | (with_reducible exact ih0 _ _ _ _ _ _ _ _ _ _ _ _ _ _ _)
      | (with_reducible exact ih1 _ _ _ _ _ _ _ _ _ _ _ _)
      | (with_reducible exact policy_Covers.mono _ _ _ _ _ _ _ _ _ _ _ _ _)
      | (with_reducible exact supercargolaw42_awake.mono _)
      | (with_reducible exact supercargolaw42_heavy.mono _ _)
      | (with_reducible exact LeO.refl _)
      | (with_reducible exact LeO.none _)
      | (with_reducible refine LeO.ite ?_ ?_)
      | (with_reducible refine LeO.bind ?_ (fun _ => ?_))
      | exact ih0 _ _ _ _ _ _ _ _ _ _ _ _ _ _ _
      | exact ih1 _ _ _ _ _ _ _ _ _ _ _ _
      | exact policy_Covers.mono _ _ _ _ _ _ _ _ _ _ _ _ _
      | exact supercargolaw42_awake.mono _
      | exact supercargolaw42_heavy.mono _ _
      | exact LeO.none _
      | refine LeO.ite ?_ ?_
      | refine LeO.bind ?_ (fun _ => ?_)
set_option maxHeartbeats 8000000 in
set_option maxRecDepth 100000 in
theorem supercargolaw42_PolicyDays.calls (k : Nat) (a0_0 : ByteArray) (a0_1 : ByteArray) (a0_2 : ByteArray) (a0_3 : Int) (a0_4 : Int) (A0_5 : Option Addr) (c0_5 : Nat) (l0_5 : List Int) (a0_6 : Int) (a0_7 : Int) (a0_8 : Int) (A1 : Option Addr) (c1 : Nat) (l1 : List (S47)) (a2 : Int) (a3 : Int) (a4 : Int) (a5 : Int) (r : Bool) (w : World) (hr0_5 : Kd.C (Kd.int .i64) w A0_5 l0_5.length l0_5) (hc0_5 : l0_5.length ≤ c0_5) (hr1 : Kd.C k47 w A1 l1.length l1) (hc1 : l1.length ≤ c1) (h : supercargolaw42_PolicyDays.f k a0_0 a0_1 a0_2 a0_3 a0_4 l0_5 a0_6 a0_7 a0_8 l1 a2 a3 a4 a5 = some r) :
    Calls Try.prog 7 #[.agg #[.string a0_0, .string a0_1, .string a0_2, .int .i64 a0_3, .int .i64 a0_4, .slice A0_5 l0_5.length c0_5, .int .i64 a0_6, .int .i64 a0_7, .int .i64 a0_8], .slice A1 l1.length c1, .int .i64 a2, .int .i64 a3, .int .i64 a4, .int .i64 a5] w fun e w' => e = .returned (.bool r) ∧ Below w.heap.size w w' := by
  have hu24 := Try.underlying24
  have HR0_5 := Aside0.mk hr0_5
  have HC0_5 := Aside0.mk hc0_5
  clear hr0_5 hc0_5
  have HR1 := Aside0.mk hr1
  have HC1 := Aside0.mk hc1
  clear hr1 hc1
  have HB := Aside0.mk (Below.refl w.heap.size w)
  have H : ((supercargolaw42_awake.f k).bind fun t213 => (if t213 = true then ((supercargoref42_Long.f a0_0 a0_1 a0_2 a0_3 a0_4 l0_5 a0_6 a0_7 a0_8).bind fun t214 => (if t214 = true then (supercargolaw42_PolicyDays.j0 k l1 a2 a3 a4 a5 true a0_0 a0_1 a0_2 a0_3 a0_4 l0_5 a0_6 a0_7 a0_8) else (if (l1.length : Int) > 30 then (supercargolaw42_PolicyDays.j0 k l1 a2 a3 a4 a5 true a0_0 a0_1 a0_2 a0_3 a0_4 l0_5 a0_6 a0_7 a0_8) else ((supercargolaw42_heavy.f k l1).bind fun t215 => (if t215 = true then (supercargolaw42_PolicyDays.j0 k l1 a2 a3 a4 a5 true a0_0 a0_1 a0_2 a0_3 a0_4 l0_5 a0_6 a0_7 a0_8) else (if a3 > a4 then (supercargolaw42_PolicyDays.j0 k l1 a2 a3 a4 a5 true a0_0 a0_1 a0_2 a0_3 a0_4 l0_5 a0_6 a0_7 a0_8) else (supercargolaw42_PolicyDays.j0 k l1 a2 a3 a4 a5 (decide (a4 > a5)) a0_0 a0_1 a0_2 a0_3 a0_4 l0_5 a0_6 a0_7 a0_8))))))) else (some false))) = some r := h
  clear h
  replace H := Option.bind_eq_some_iff.mp H
  obtain ⟨t213, A70, H⟩ := H
  replace H : (if t213 = true then ((supercargoref42_Long.f a0_0 a0_1 a0_2 a0_3 a0_4 l0_5 a0_6 a0_7 a0_8).bind fun t214 => (if t214 = true then (supercargolaw42_PolicyDays.j0 k l1 a2 a3 a4 a5 true a0_0 a0_1 a0_2 a0_3 a0_4 l0_5 a0_6 a0_7 a0_8) else (if (l1.length : Int) > 30 then (supercargolaw42_PolicyDays.j0 k l1 a2 a3 a4 a5 true a0_0 a0_1 a0_2 a0_3 a0_4 l0_5 a0_6 a0_7 a0_8) else ((supercargolaw42_heavy.f k l1).bind fun t215 => (if t215 = true then (supercargolaw42_PolicyDays.j0 k l1 a2 a3 a4 a5 true a0_0 a0_1 a0_2 a0_3 a0_4 l0_5 a0_6 a0_7 a0_8) else (if a3 > a4 then (supercargolaw42_PolicyDays.j0 k l1 a2 a3 a4 a5 true a0_0 a0_1 a0_2 a0_3 a0_4 l0_5 a0_6 a0_7 a0_8) else (supercargolaw42_PolicyDays.j0 k l1 a2 a3 a4 a5 (decide (a4 > a5)) a0_0 a0_1 a0_2 a0_3 a0_4 l0_5 a0_6 a0_7 a0_8))))))) else (some false)) = some r := H
  have A7 := Aside0.mk A70
  clear A70
  by_cases c8 : t213 = true
  · subst c8
    have H1 : ((supercargoref42_Long.f a0_0 a0_1 a0_2 a0_3 a0_4 l0_5 a0_6 a0_7 a0_8).bind fun t214 => (if t214 = true then (supercargolaw42_PolicyDays.j0 k l1 a2 a3 a4 a5 true a0_0 a0_1 a0_2 a0_3 a0_4 l0_5 a0_6 a0_7 a0_8) else (if (l1.length : Int) > 30 then (supercargolaw42_PolicyDays.j0 k l1 a2 a3 a4 a5 true a0_0 a0_1 a0_2 a0_3 a0_4 l0_5 a0_6 a0_7 a0_8) else ((supercargolaw42_heavy.f k l1).bind fun t215 => (if t215 = true then (supercargolaw42_PolicyDays.j0 k l1 a2 a3 a4 a5 true a0_0 a0_1 a0_2 a0_3 a0_4 l0_5 a0_6 a0_7 a0_8) else (if a3 > a4 then (supercargolaw42_PolicyDays.j0 k l1 a2 a3 a4 a5 true a0_0 a0_1 a0_2 a0_3 a0_4 l0_5 a0_6 a0_7 a0_8) else (supercargolaw42_PolicyDays.j0 k l1 a2 a3 a4 a5 (decide (a4 > a5)) a0_0 a0_1 a0_2 a0_3 a0_4 l0_5 a0_6 a0_7 a0_8))))))) = some r := by rw [if_pos rfl] at H; exact H
    clear H
    have H := H1
    clear H1
    have HC9 := Aside0.mk H
    clear H
    go_enter Try.func7, Try.ntmps7
    go_upto_region 3 with (first | ((with_reducible refine gate_dst (N := 6) rfl ?_); (try (refine gate_guard (by rfl) ?_; dsimp only)); refine box_event ?hg (N := 6) ?hd (cs := #[.string a0_0, .string a0_1, .string a0_2, .int .i64 a0_3, .int .i64 a0_4, .slice A0_5 l0_5.length c0_5, .int .i64 a0_6, .int .i64 a0_7, .int .i64 a0_8]) (t := 24) ?hr ?_; (case hd => rfl); (case hg => rfl); (case hr => first | (go_simp; done) | (go_simp; rfl)); intro gb212 hg w10 hbox hb; have n0_ := Aside0.mk (below_step (by repeat (first | (with_reducible first | exact HB.out | apply below_alloc | apply pw_below_drewN | apply below_drew1) | exact HB.out)) hb); have n1_ := Aside0.mk (hbox); have n2_ := Aside0.mk ((by rw [hg]; exact (below_size (by repeat (first | (with_reducible first | exact HB.out | apply below_alloc | apply pw_below_drewN | apply below_drew1) | exact HB.out))) : w.heap.size ≤ gb212)); have n3_ := Aside0.mk ((by rw [hg]; exact (below_size (by repeat (first | (with_reducible first | exact HB.out | apply below_alloc | apply pw_below_drewN | apply below_drew1) | exact HB.out))) : w.heap.size ≤ gb212)); clear HB; have HB := n0_; have BK212 := n1_; have GW212 := n2_; have GE212 := n3_; clear n0_ n1_ n2_ n3_; clear hb hbox hg) | ((with_reducible refine gate_callee (f := 8) rfl ?_); refine goesL_ (some 13) rfl rfl Try.func8 (by kernel_rfl) rfl #[] rfl (by (try simp only [List.map_toArray, List.map_cons, List.map_nil]); first | done | rfl | (simp only [List.length_drop, List.length_take]; rfl)) ?_; (with_reducible refine (supercargolaw42_awake.calls k  true _ A7.out).mono ?_); rintro e w11 ⟨rfl, hb⟩; refine ⟨_, rfl, ?_⟩; have n0_ := Aside0.mk (blk_below (g := gb212) (o := .cells #[.string a0_0, .string a0_1, .string a0_2, .int .i64 a0_3, .int .i64 a0_4, .slice A0_5 l0_5.length c0_5, .int .i64 a0_6, .int .i64 a0_7, .int .i64 a0_8] 24 (0, 0)) (by (with_reducible repeat (first | refine blk_drewN ?_ _ | refine blk_drew ?_ | refine blk_alloc ?_ _)); exact BK212.out) hb); have n1_ := Aside0.mk (below_step (by repeat (first | (with_reducible first | exact HB.out | apply below_alloc | apply pw_below_drewN | apply below_drew1 | refine below_set ?_ GE212.out) | exact HB.out)) hb); clear BK212; clear HB; have BK212 := n0_; have HB := n1_; clear n0_ n1_; (try clear hb); (try clear hb2); (try clear hk); (try clear hi)))
    (try simp only [Act.put, List.setIfInBounds_toArray, List.set_cons_zero, List.set_cons_succ])
    go_cut [35] (fun v35 wc => ∃ (kq : Nat) (x35_8 : Bool), v35 = .bool x35_8 ∧ Aside0 (supercargolaw42_PolicyDays.j0 kq l1 a2 a3 a4 a5 x35_8 a0_0 a0_1 a0_2 a0_3 a0_4 l0_5 a0_6 a0_7 a0_8 = some r) ∧ Aside0 (kq ≤ k) ∧ Aside0 (wc.heap[gb212]? = some (.cells #[.string a0_0, .string a0_1, .string a0_2, .int .i64 a0_3, .int .i64 a0_4, (.slice A0_5 l0_5.length c0_5), .int .i64 a0_6, .int .i64 a0_7, .int .i64 a0_8] 24 (0, 0))) ∧ Aside0 (Below w.heap.size w wc))
    case first =>
      have H := HC9.out
      clear HC9
      replace H := Option.bind_eq_some_iff.mp H
      obtain ⟨t214, A120, H⟩ := H
      replace H : (if t214 = true then (supercargolaw42_PolicyDays.j0 k l1 a2 a3 a4 a5 true a0_0 a0_1 a0_2 a0_3 a0_4 l0_5 a0_6 a0_7 a0_8) else (if (l1.length : Int) > 30 then (supercargolaw42_PolicyDays.j0 k l1 a2 a3 a4 a5 true a0_0 a0_1 a0_2 a0_3 a0_4 l0_5 a0_6 a0_7 a0_8) else ((supercargolaw42_heavy.f k l1).bind fun t215 => (if t215 = true then (supercargolaw42_PolicyDays.j0 k l1 a2 a3 a4 a5 true a0_0 a0_1 a0_2 a0_3 a0_4 l0_5 a0_6 a0_7 a0_8) else (if a3 > a4 then (supercargolaw42_PolicyDays.j0 k l1 a2 a3 a4 a5 true a0_0 a0_1 a0_2 a0_3 a0_4 l0_5 a0_6 a0_7 a0_8) else (supercargolaw42_PolicyDays.j0 k l1 a2 a3 a4 a5 (decide (a4 > a5)) a0_0 a0_1 a0_2 a0_3 a0_4 l0_5 a0_6 a0_7 a0_8)))))) = some r := H
      have A12 := Aside0.mk A120
      clear A120
      by_cases c13 : t214 = true
      · subst c13
        have H1 : (supercargolaw42_PolicyDays.j0 k l1 a2 a3 a4 a5 true a0_0 a0_1 a0_2 a0_3 a0_4 l0_5 a0_6 a0_7 a0_8) = some r := by rw [if_pos rfl] at H; exact H
        clear H
        have H := H1
        clear H1
        have H' := Aside0.mk H
        clear H
        have hcz14_0 : w11.cell? ⟨gb212, 0, none⟩ = some (.string a0_0) := (blk_cell BK212.out 0).trans rfl
        have hcz14_1 : w11.cell? ⟨gb212, 1, none⟩ = some (.string a0_1) := (blk_cell BK212.out 1).trans rfl
        have hcz14_2 : w11.cell? ⟨gb212, 2, none⟩ = some (.string a0_2) := (blk_cell BK212.out 2).trans rfl
        have hcz14_3 : w11.cell? ⟨gb212, 3, none⟩ = some (.int .i64 a0_3) := (blk_cell BK212.out 3).trans rfl
        have hcz14_4 : w11.cell? ⟨gb212, 4, none⟩ = some (.int .i64 a0_4) := (blk_cell BK212.out 4).trans rfl
        have hcz14_5 : w11.cell? ⟨gb212, 5, none⟩ = some (.slice A0_5 l0_5.length c0_5) := (blk_cell BK212.out 5).trans rfl
        have hcz14_6 : w11.cell? ⟨gb212, 6, none⟩ = some (.int .i64 a0_6) := (blk_cell BK212.out 6).trans rfl
        have hcz14_7 : w11.cell? ⟨gb212, 7, none⟩ = some (.int .i64 a0_7) := (blk_cell BK212.out 7).trans rfl
        have hcz14_8 : w11.cell? ⟨gb212, 8, none⟩ = some (.int .i64 a0_8) := (blk_cell BK212.out 8).trans rfl
        have hfz14_0 := blk_frozen BK212.out 0
        have hfz14_1 := blk_frozen BK212.out 1
        have hfz14_2 := blk_frozen BK212.out 2
        have hfz14_3 := blk_frozen BK212.out 3
        have hfz14_4 := blk_frozen BK212.out 4
        have hfz14_5 := blk_frozen BK212.out 5
        have hfz14_6 := blk_frozen BK212.out 6
        have hfz14_7 := blk_frozen BK212.out 7
        have hfz14_8 := blk_frozen BK212.out 8
        go_wp2_with (first | ((with_reducible refine gate_callee (f := 9) rfl ?_); refine goesL_ (some 16) rfl rfl Try.func9 (by kernel_rfl) rfl #[.agg #[.string a0_0, .string a0_1, .string a0_2, .int .i64 a0_3, .int .i64 a0_4, .slice A0_5 l0_5.length c0_5, .int .i64 a0_6, .int .i64 a0_7, .int .i64 a0_8]] rfl (by (try simp only [List.map_toArray, List.map_cons, List.map_nil]); first | done | rfl | (simp only [List.length_drop, List.length_take]; rfl)) ?_; (with_reducible refine (supercargoref42_Long.calls a0_0 a0_1 a0_2 a0_3 a0_4 _ _ l0_5 a0_6 a0_7 a0_8 true _ ?side1 ?side2 A12.out).mono ?_); (case side1 => repeat (first | exact (Kd.C_below HR0_5.out HB.out) | (with_reducible refine Kd.C_alloc ?_ _) | (with_reducible refine Kd.C_drewN ?_ _) | (with_reducible refine Kd.C_drew ?_))); (case side2 => exact HC0_5.out); rintro e w15 ⟨rfl, hb⟩; refine ⟨_, rfl, ?_⟩; have n0_ := Aside0.mk (blk_below (g := gb212) (o := .cells #[.string a0_0, .string a0_1, .string a0_2, .int .i64 a0_3, .int .i64 a0_4, .slice A0_5 l0_5.length c0_5, .int .i64 a0_6, .int .i64 a0_7, .int .i64 a0_8] 24 (0, 0)) (by (with_reducible repeat (first | refine blk_drewN ?_ _ | refine blk_drew ?_ | refine blk_alloc ?_ _)); exact BK212.out) hb); have n1_ := Aside0.mk (below_step (by repeat (first | (with_reducible first | exact HB.out | apply below_alloc | apply pw_below_drewN | apply below_drew1 | refine below_set ?_ GE212.out) | exact HB.out)) hb); clear BK212; clear HB; have BK212 := n0_; have HB := n1_; clear n0_ n1_; (try clear hb); (try clear hb2); (try clear hk); (try clear hi)))
        go_meet
        case rel => exact ⟨_, (true), (by first | rfl | (simp; done) | (simp [*]; done)), H', ⟨by first | omega | exact Nat.le_refl _⟩, ⟨by (with_reducible repeat (first | refine blk_drewN ?_ _ | refine blk_drew ?_ | refine blk_alloc ?_ _)); exact BK212.out⟩, ⟨by repeat (first | (with_reducible first | exact HB.out | apply below_alloc | apply pw_below_drewN | apply below_drew1 | refine below_set ?_ GE212.out) | exact HB.out)⟩⟩
      · replace c13 := Bool.eq_false_iff.mpr c13
        subst c13
        have H1 : (if (l1.length : Int) > 30 then (supercargolaw42_PolicyDays.j0 k l1 a2 a3 a4 a5 true a0_0 a0_1 a0_2 a0_3 a0_4 l0_5 a0_6 a0_7 a0_8) else ((supercargolaw42_heavy.f k l1).bind fun t215 => (if t215 = true then (supercargolaw42_PolicyDays.j0 k l1 a2 a3 a4 a5 true a0_0 a0_1 a0_2 a0_3 a0_4 l0_5 a0_6 a0_7 a0_8) else (if a3 > a4 then (supercargolaw42_PolicyDays.j0 k l1 a2 a3 a4 a5 true a0_0 a0_1 a0_2 a0_3 a0_4 l0_5 a0_6 a0_7 a0_8) else (supercargolaw42_PolicyDays.j0 k l1 a2 a3 a4 a5 (decide (a4 > a5)) a0_0 a0_1 a0_2 a0_3 a0_4 l0_5 a0_6 a0_7 a0_8))))) = some r := by rw [if_neg (show ¬ (false = true) by decide)] at H; exact H
        clear H
        have H := H1
        clear H1
        by_cases c16 : (l1.length : Int) > 30
        · rw [if_pos c16] at H
          have c16b0 : decide (30 < (l1.length : Int)) = true := decide_eq_true c16
          have c16b1 : decide (30 < l1.length) = true := decide_eq_true (by omega)
          clear c16
          (first | rw [c16b0] | (simp only [i64_w, i32_w]; rw [c16b0]) | skip)
          have H' := Aside0.mk H
          clear H
          have hcz17_0 : w11.cell? ⟨gb212, 0, none⟩ = some (.string a0_0) := (blk_cell BK212.out 0).trans rfl
          have hcz17_1 : w11.cell? ⟨gb212, 1, none⟩ = some (.string a0_1) := (blk_cell BK212.out 1).trans rfl
          have hcz17_2 : w11.cell? ⟨gb212, 2, none⟩ = some (.string a0_2) := (blk_cell BK212.out 2).trans rfl
          have hcz17_3 : w11.cell? ⟨gb212, 3, none⟩ = some (.int .i64 a0_3) := (blk_cell BK212.out 3).trans rfl
          have hcz17_4 : w11.cell? ⟨gb212, 4, none⟩ = some (.int .i64 a0_4) := (blk_cell BK212.out 4).trans rfl
          have hcz17_5 : w11.cell? ⟨gb212, 5, none⟩ = some (.slice A0_5 l0_5.length c0_5) := (blk_cell BK212.out 5).trans rfl
          have hcz17_6 : w11.cell? ⟨gb212, 6, none⟩ = some (.int .i64 a0_6) := (blk_cell BK212.out 6).trans rfl
          have hcz17_7 : w11.cell? ⟨gb212, 7, none⟩ = some (.int .i64 a0_7) := (blk_cell BK212.out 7).trans rfl
          have hcz17_8 : w11.cell? ⟨gb212, 8, none⟩ = some (.int .i64 a0_8) := (blk_cell BK212.out 8).trans rfl
          have hfz17_0 := blk_frozen BK212.out 0
          have hfz17_1 := blk_frozen BK212.out 1
          have hfz17_2 := blk_frozen BK212.out 2
          have hfz17_3 := blk_frozen BK212.out 3
          have hfz17_4 := blk_frozen BK212.out 4
          have hfz17_5 := blk_frozen BK212.out 5
          have hfz17_6 := blk_frozen BK212.out 6
          have hfz17_7 := blk_frozen BK212.out 7
          have hfz17_8 := blk_frozen BK212.out 8
          go_wp2_with (first | ((with_reducible refine gate_callee (f := 9) rfl ?_); refine goesL_ (some 16) rfl rfl Try.func9 (by kernel_rfl) rfl #[.agg #[.string a0_0, .string a0_1, .string a0_2, .int .i64 a0_3, .int .i64 a0_4, .slice A0_5 l0_5.length c0_5, .int .i64 a0_6, .int .i64 a0_7, .int .i64 a0_8]] rfl (by (try simp only [List.map_toArray, List.map_cons, List.map_nil]); first | done | rfl | (simp only [List.length_drop, List.length_take]; rfl)) ?_; (with_reducible refine (supercargoref42_Long.calls a0_0 a0_1 a0_2 a0_3 a0_4 _ _ l0_5 a0_6 a0_7 a0_8 false _ ?side1 ?side2 A12.out).mono ?_); (case side1 => repeat (first | exact (Kd.C_below HR0_5.out HB.out) | (with_reducible refine Kd.C_alloc ?_ _) | (with_reducible refine Kd.C_drewN ?_ _) | (with_reducible refine Kd.C_drew ?_))); (case side2 => exact HC0_5.out); rintro e w18 ⟨rfl, hb⟩; refine ⟨_, rfl, ?_⟩; have n0_ := Aside0.mk (blk_below (g := gb212) (o := .cells #[.string a0_0, .string a0_1, .string a0_2, .int .i64 a0_3, .int .i64 a0_4, .slice A0_5 l0_5.length c0_5, .int .i64 a0_6, .int .i64 a0_7, .int .i64 a0_8] 24 (0, 0)) (by (with_reducible repeat (first | refine blk_drewN ?_ _ | refine blk_drew ?_ | refine blk_alloc ?_ _)); exact BK212.out) hb); have n1_ := Aside0.mk (below_step (by repeat (first | (with_reducible first | exact HB.out | apply below_alloc | apply pw_below_drewN | apply below_drew1 | refine below_set ?_ GE212.out) | exact HB.out)) hb); clear BK212; clear HB; have BK212 := n0_; have HB := n1_; clear n0_ n1_; (try clear hb); (try clear hb2); (try clear hk); (try clear hi)))
          go_meet
          case rel => exact ⟨_, (true), (by first | rfl | (simp; done) | (simp [*]; done)), H', ⟨by first | omega | exact Nat.le_refl _⟩, ⟨by (with_reducible repeat (first | refine blk_drewN ?_ _ | refine blk_drew ?_ | refine blk_alloc ?_ _)); exact BK212.out⟩, ⟨by repeat (first | (with_reducible first | exact HB.out | apply below_alloc | apply pw_below_drewN | apply below_drew1 | refine below_set ?_ GE212.out) | exact HB.out)⟩⟩
        · rw [if_neg c16] at H
          have c16b0 : decide (30 < (l1.length : Int)) = false := decide_eq_false c16
          have c16b1 : decide (30 < l1.length) = false := decide_eq_false (by omega)
          clear c16
          (first | rw [c16b0] | (simp only [i64_w, i32_w]; rw [c16b0]) | skip)
          replace H := Option.bind_eq_some_iff.mp H
          obtain ⟨t215, A190, H⟩ := H
          replace H : (if t215 = true then (supercargolaw42_PolicyDays.j0 k l1 a2 a3 a4 a5 true a0_0 a0_1 a0_2 a0_3 a0_4 l0_5 a0_6 a0_7 a0_8) else (if a3 > a4 then (supercargolaw42_PolicyDays.j0 k l1 a2 a3 a4 a5 true a0_0 a0_1 a0_2 a0_3 a0_4 l0_5 a0_6 a0_7 a0_8) else (supercargolaw42_PolicyDays.j0 k l1 a2 a3 a4 a5 (decide (a4 > a5)) a0_0 a0_1 a0_2 a0_3 a0_4 l0_5 a0_6 a0_7 a0_8))) = some r := H
          have A19 := Aside0.mk A190
          clear A190
          by_cases c20 : t215 = true
          · subst c20
            have H1 : (supercargolaw42_PolicyDays.j0 k l1 a2 a3 a4 a5 true a0_0 a0_1 a0_2 a0_3 a0_4 l0_5 a0_6 a0_7 a0_8) = some r := by rw [if_pos rfl] at H; exact H
            clear H
            have H := H1
            clear H1
            have H' := Aside0.mk H
            clear H
            have hcz21_0 : w11.cell? ⟨gb212, 0, none⟩ = some (.string a0_0) := (blk_cell BK212.out 0).trans rfl
            have hcz21_1 : w11.cell? ⟨gb212, 1, none⟩ = some (.string a0_1) := (blk_cell BK212.out 1).trans rfl
            have hcz21_2 : w11.cell? ⟨gb212, 2, none⟩ = some (.string a0_2) := (blk_cell BK212.out 2).trans rfl
            have hcz21_3 : w11.cell? ⟨gb212, 3, none⟩ = some (.int .i64 a0_3) := (blk_cell BK212.out 3).trans rfl
            have hcz21_4 : w11.cell? ⟨gb212, 4, none⟩ = some (.int .i64 a0_4) := (blk_cell BK212.out 4).trans rfl
            have hcz21_5 : w11.cell? ⟨gb212, 5, none⟩ = some (.slice A0_5 l0_5.length c0_5) := (blk_cell BK212.out 5).trans rfl
            have hcz21_6 : w11.cell? ⟨gb212, 6, none⟩ = some (.int .i64 a0_6) := (blk_cell BK212.out 6).trans rfl
            have hcz21_7 : w11.cell? ⟨gb212, 7, none⟩ = some (.int .i64 a0_7) := (blk_cell BK212.out 7).trans rfl
            have hcz21_8 : w11.cell? ⟨gb212, 8, none⟩ = some (.int .i64 a0_8) := (blk_cell BK212.out 8).trans rfl
            have hfz21_0 := blk_frozen BK212.out 0
            have hfz21_1 := blk_frozen BK212.out 1
            have hfz21_2 := blk_frozen BK212.out 2
            have hfz21_3 := blk_frozen BK212.out 3
            have hfz21_4 := blk_frozen BK212.out 4
            have hfz21_5 := blk_frozen BK212.out 5
            have hfz21_6 := blk_frozen BK212.out 6
            have hfz21_7 := blk_frozen BK212.out 7
            have hfz21_8 := blk_frozen BK212.out 8
            go_wp2_with (first | ((with_reducible refine gate_callee (f := 9) rfl ?_); refine goesL_ (some 16) rfl rfl Try.func9 (by kernel_rfl) rfl #[.agg #[.string a0_0, .string a0_1, .string a0_2, .int .i64 a0_3, .int .i64 a0_4, .slice A0_5 l0_5.length c0_5, .int .i64 a0_6, .int .i64 a0_7, .int .i64 a0_8]] rfl (by (try simp only [List.map_toArray, List.map_cons, List.map_nil]); first | done | rfl | (simp only [List.length_drop, List.length_take]; rfl)) ?_; (with_reducible refine (supercargoref42_Long.calls a0_0 a0_1 a0_2 a0_3 a0_4 _ _ l0_5 a0_6 a0_7 a0_8 false _ ?side1 ?side2 A12.out).mono ?_); (case side1 => repeat (first | exact (Kd.C_below HR0_5.out HB.out) | (with_reducible refine Kd.C_alloc ?_ _) | (with_reducible refine Kd.C_drewN ?_ _) | (with_reducible refine Kd.C_drew ?_))); (case side2 => exact HC0_5.out); rintro e w22 ⟨rfl, hb⟩; refine ⟨_, rfl, ?_⟩; have n0_ := Aside0.mk (blk_below (g := gb212) (o := .cells #[.string a0_0, .string a0_1, .string a0_2, .int .i64 a0_3, .int .i64 a0_4, .slice A0_5 l0_5.length c0_5, .int .i64 a0_6, .int .i64 a0_7, .int .i64 a0_8] 24 (0, 0)) (by (with_reducible repeat (first | refine blk_drewN ?_ _ | refine blk_drew ?_ | refine blk_alloc ?_ _)); exact BK212.out) hb); have n1_ := Aside0.mk (below_step (by repeat (first | (with_reducible first | exact HB.out | apply below_alloc | apply pw_below_drewN | apply below_drew1 | refine below_set ?_ GE212.out) | exact HB.out)) hb); clear BK212; clear HB; have BK212 := n0_; have HB := n1_; clear n0_ n1_; (try clear hb); (try clear hb2); (try clear hk); (try clear hi)) | (go_at_call 15; (with_reducible refine (supercargolaw42_heavy.calls k _ _ l1 true _ ?side1 ?side2 A19.out).mono ?_); (case side1 => repeat (first | exact (Kd.C_below HR1.out HB.out) | (with_reducible refine Kd.C_alloc ?_ _) | (with_reducible refine Kd.C_drewN ?_ _) | (with_reducible refine Kd.C_drew ?_))); (case side2 => exact HC1.out); rintro e w' ⟨rfl, ⟨nd, rfl⟩⟩))
            go_meet
            case rel => exact ⟨_, (true), (by first | rfl | (simp; done) | (simp [*]; done)), H', ⟨by first | omega | exact Nat.le_refl _⟩, ⟨by (with_reducible repeat (first | refine blk_drewN ?_ _ | refine blk_drew ?_ | refine blk_alloc ?_ _)); exact BK212.out⟩, ⟨by repeat (first | (with_reducible first | exact HB.out | apply below_alloc | apply pw_below_drewN | apply below_drew1 | refine below_set ?_ GE212.out) | exact HB.out)⟩⟩
          · replace c20 := Bool.eq_false_iff.mpr c20
            subst c20
            have H1 : (if a3 > a4 then (supercargolaw42_PolicyDays.j0 k l1 a2 a3 a4 a5 true a0_0 a0_1 a0_2 a0_3 a0_4 l0_5 a0_6 a0_7 a0_8) else (supercargolaw42_PolicyDays.j0 k l1 a2 a3 a4 a5 (decide (a4 > a5)) a0_0 a0_1 a0_2 a0_3 a0_4 l0_5 a0_6 a0_7 a0_8)) = some r := by rw [if_neg (show ¬ (false = true) by decide)] at H; exact H
            clear H
            have H := H1
            clear H1
            by_cases c23 : a3 > a4
            · rw [if_pos c23] at H
              have c23b0 : decide (a4 < a3) = true := decide_eq_true c23
              clear c23
              have H' := Aside0.mk H
              clear H
              have hcz24_0 : w11.cell? ⟨gb212, 0, none⟩ = some (.string a0_0) := (blk_cell BK212.out 0).trans rfl
              have hcz24_1 : w11.cell? ⟨gb212, 1, none⟩ = some (.string a0_1) := (blk_cell BK212.out 1).trans rfl
              have hcz24_2 : w11.cell? ⟨gb212, 2, none⟩ = some (.string a0_2) := (blk_cell BK212.out 2).trans rfl
              have hcz24_3 : w11.cell? ⟨gb212, 3, none⟩ = some (.int .i64 a0_3) := (blk_cell BK212.out 3).trans rfl
              have hcz24_4 : w11.cell? ⟨gb212, 4, none⟩ = some (.int .i64 a0_4) := (blk_cell BK212.out 4).trans rfl
              have hcz24_5 : w11.cell? ⟨gb212, 5, none⟩ = some (.slice A0_5 l0_5.length c0_5) := (blk_cell BK212.out 5).trans rfl
              have hcz24_6 : w11.cell? ⟨gb212, 6, none⟩ = some (.int .i64 a0_6) := (blk_cell BK212.out 6).trans rfl
              have hcz24_7 : w11.cell? ⟨gb212, 7, none⟩ = some (.int .i64 a0_7) := (blk_cell BK212.out 7).trans rfl
              have hcz24_8 : w11.cell? ⟨gb212, 8, none⟩ = some (.int .i64 a0_8) := (blk_cell BK212.out 8).trans rfl
              have hfz24_0 := blk_frozen BK212.out 0
              have hfz24_1 := blk_frozen BK212.out 1
              have hfz24_2 := blk_frozen BK212.out 2
              have hfz24_3 := blk_frozen BK212.out 3
              have hfz24_4 := blk_frozen BK212.out 4
              have hfz24_5 := blk_frozen BK212.out 5
              have hfz24_6 := blk_frozen BK212.out 6
              have hfz24_7 := blk_frozen BK212.out 7
              have hfz24_8 := blk_frozen BK212.out 8
              go_wp2_with (first | ((with_reducible refine gate_callee (f := 9) rfl ?_); refine goesL_ (some 16) rfl rfl Try.func9 (by kernel_rfl) rfl #[.agg #[.string a0_0, .string a0_1, .string a0_2, .int .i64 a0_3, .int .i64 a0_4, .slice A0_5 l0_5.length c0_5, .int .i64 a0_6, .int .i64 a0_7, .int .i64 a0_8]] rfl (by (try simp only [List.map_toArray, List.map_cons, List.map_nil]); first | done | rfl | (simp only [List.length_drop, List.length_take]; rfl)) ?_; (with_reducible refine (supercargoref42_Long.calls a0_0 a0_1 a0_2 a0_3 a0_4 _ _ l0_5 a0_6 a0_7 a0_8 false _ ?side1 ?side2 A12.out).mono ?_); (case side1 => repeat (first | exact (Kd.C_below HR0_5.out HB.out) | (with_reducible refine Kd.C_alloc ?_ _) | (with_reducible refine Kd.C_drewN ?_ _) | (with_reducible refine Kd.C_drew ?_))); (case side2 => exact HC0_5.out); rintro e w25 ⟨rfl, hb⟩; refine ⟨_, rfl, ?_⟩; have n0_ := Aside0.mk (blk_below (g := gb212) (o := .cells #[.string a0_0, .string a0_1, .string a0_2, .int .i64 a0_3, .int .i64 a0_4, .slice A0_5 l0_5.length c0_5, .int .i64 a0_6, .int .i64 a0_7, .int .i64 a0_8] 24 (0, 0)) (by (with_reducible repeat (first | refine blk_drewN ?_ _ | refine blk_drew ?_ | refine blk_alloc ?_ _)); exact BK212.out) hb); have n1_ := Aside0.mk (below_step (by repeat (first | (with_reducible first | exact HB.out | apply below_alloc | apply pw_below_drewN | apply below_drew1 | refine below_set ?_ GE212.out) | exact HB.out)) hb); clear BK212; clear HB; have BK212 := n0_; have HB := n1_; clear n0_ n1_; (try clear hb); (try clear hb2); (try clear hk); (try clear hi)) | (go_at_call 15; (with_reducible refine (supercargolaw42_heavy.calls k _ _ l1 false _ ?side1 ?side2 A19.out).mono ?_); (case side1 => repeat (first | exact (Kd.C_below HR1.out HB.out) | (with_reducible refine Kd.C_alloc ?_ _) | (with_reducible refine Kd.C_drewN ?_ _) | (with_reducible refine Kd.C_drew ?_))); (case side2 => exact HC1.out); rintro e w' ⟨rfl, ⟨nd, rfl⟩⟩))
              go_meet
              case rel => exact ⟨_, (true), (by first | rfl | (simp; done) | (simp [*]; done)), H', ⟨by first | omega | exact Nat.le_refl _⟩, ⟨by (with_reducible repeat (first | refine blk_drewN ?_ _ | refine blk_drew ?_ | refine blk_alloc ?_ _)); exact BK212.out⟩, ⟨by repeat (first | (with_reducible first | exact HB.out | apply below_alloc | apply pw_below_drewN | apply below_drew1 | refine below_set ?_ GE212.out) | exact HB.out)⟩⟩
            · rw [if_neg c23] at H
              have c23b0 : decide (a4 < a3) = false := decide_eq_false c23
              clear c23
              have H' := Aside0.mk H
              clear H
              have hcz26_0 : w11.cell? ⟨gb212, 0, none⟩ = some (.string a0_0) := (blk_cell BK212.out 0).trans rfl
              have hcz26_1 : w11.cell? ⟨gb212, 1, none⟩ = some (.string a0_1) := (blk_cell BK212.out 1).trans rfl
              have hcz26_2 : w11.cell? ⟨gb212, 2, none⟩ = some (.string a0_2) := (blk_cell BK212.out 2).trans rfl
              have hcz26_3 : w11.cell? ⟨gb212, 3, none⟩ = some (.int .i64 a0_3) := (blk_cell BK212.out 3).trans rfl
              have hcz26_4 : w11.cell? ⟨gb212, 4, none⟩ = some (.int .i64 a0_4) := (blk_cell BK212.out 4).trans rfl
              have hcz26_5 : w11.cell? ⟨gb212, 5, none⟩ = some (.slice A0_5 l0_5.length c0_5) := (blk_cell BK212.out 5).trans rfl
              have hcz26_6 : w11.cell? ⟨gb212, 6, none⟩ = some (.int .i64 a0_6) := (blk_cell BK212.out 6).trans rfl
              have hcz26_7 : w11.cell? ⟨gb212, 7, none⟩ = some (.int .i64 a0_7) := (blk_cell BK212.out 7).trans rfl
              have hcz26_8 : w11.cell? ⟨gb212, 8, none⟩ = some (.int .i64 a0_8) := (blk_cell BK212.out 8).trans rfl
              have hfz26_0 := blk_frozen BK212.out 0
              have hfz26_1 := blk_frozen BK212.out 1
              have hfz26_2 := blk_frozen BK212.out 2
              have hfz26_3 := blk_frozen BK212.out 3
              have hfz26_4 := blk_frozen BK212.out 4
              have hfz26_5 := blk_frozen BK212.out 5
              have hfz26_6 := blk_frozen BK212.out 6
              have hfz26_7 := blk_frozen BK212.out 7
              have hfz26_8 := blk_frozen BK212.out 8
              go_wp2_with (first | ((with_reducible refine gate_callee (f := 9) rfl ?_); refine goesL_ (some 16) rfl rfl Try.func9 (by kernel_rfl) rfl #[.agg #[.string a0_0, .string a0_1, .string a0_2, .int .i64 a0_3, .int .i64 a0_4, .slice A0_5 l0_5.length c0_5, .int .i64 a0_6, .int .i64 a0_7, .int .i64 a0_8]] rfl (by (try simp only [List.map_toArray, List.map_cons, List.map_nil]); first | done | rfl | (simp only [List.length_drop, List.length_take]; rfl)) ?_; (with_reducible refine (supercargoref42_Long.calls a0_0 a0_1 a0_2 a0_3 a0_4 _ _ l0_5 a0_6 a0_7 a0_8 false _ ?side1 ?side2 A12.out).mono ?_); (case side1 => repeat (first | exact (Kd.C_below HR0_5.out HB.out) | (with_reducible refine Kd.C_alloc ?_ _) | (with_reducible refine Kd.C_drewN ?_ _) | (with_reducible refine Kd.C_drew ?_))); (case side2 => exact HC0_5.out); rintro e w27 ⟨rfl, hb⟩; refine ⟨_, rfl, ?_⟩; have n0_ := Aside0.mk (blk_below (g := gb212) (o := .cells #[.string a0_0, .string a0_1, .string a0_2, .int .i64 a0_3, .int .i64 a0_4, .slice A0_5 l0_5.length c0_5, .int .i64 a0_6, .int .i64 a0_7, .int .i64 a0_8] 24 (0, 0)) (by (with_reducible repeat (first | refine blk_drewN ?_ _ | refine blk_drew ?_ | refine blk_alloc ?_ _)); exact BK212.out) hb); have n1_ := Aside0.mk (below_step (by repeat (first | (with_reducible first | exact HB.out | apply below_alloc | apply pw_below_drewN | apply below_drew1 | refine below_set ?_ GE212.out) | exact HB.out)) hb); clear BK212; clear HB; have BK212 := n0_; have HB := n1_; clear n0_ n1_; (try clear hb); (try clear hb2); (try clear hk); (try clear hi)) | (go_at_call 15; (with_reducible refine (supercargolaw42_heavy.calls k _ _ l1 false _ ?side1 ?side2 A19.out).mono ?_); (case side1 => repeat (first | exact (Kd.C_below HR1.out HB.out) | (with_reducible refine Kd.C_alloc ?_ _) | (with_reducible refine Kd.C_drewN ?_ _) | (with_reducible refine Kd.C_drew ?_))); (case side2 => exact HC1.out); rintro e w' ⟨rfl, ⟨nd, rfl⟩⟩))
              go_meet
              case rel => exact ⟨_, (decide (a4 > a5)), (by first | rfl | (simp; done) | (simp [*]; done)), H', ⟨by first | omega | exact Nat.le_refl _⟩, ⟨by (with_reducible repeat (first | refine blk_drewN ?_ _ | refine blk_drew ?_ | refine blk_alloc ?_ _)); exact BK212.out⟩, ⟨by repeat (first | (with_reducible first | exact HB.out | apply below_alloc | apply pw_below_drewN | apply below_drew1 | refine below_set ?_ GE212.out) | exact HB.out)⟩⟩
    case rest =>
      clear HC9
      try clear c1
      try clear c2
      try clear p2
      try clear c7
      try clear c8
      try clear c9
      try clear c13
      try clear c16
      try clear c16b0
      try clear c16b1
      try clear c20
      try clear c23
      try clear c23b0
      try clear hcz14_0
      try clear hcz14_1
      try clear hcz14_2
      try clear hcz14_3
      try clear hcz14_4
      try clear hcz14_5
      try clear hcz14_6
      try clear hcz14_7
      try clear hcz14_8
      try clear hcz17_0
      try clear hcz17_1
      try clear hcz17_2
      try clear hcz17_3
      try clear hcz17_4
      try clear hcz17_5
      try clear hcz17_6
      try clear hcz17_7
      try clear hcz17_8
      try clear hcz21_0
      try clear hcz21_1
      try clear hcz21_2
      try clear hcz21_3
      try clear hcz21_4
      try clear hcz21_5
      try clear hcz21_6
      try clear hcz21_7
      try clear hcz21_8
      try clear hcz24_0
      try clear hcz24_1
      try clear hcz24_2
      try clear hcz24_3
      try clear hcz24_4
      try clear hcz24_5
      try clear hcz24_6
      try clear hcz24_7
      try clear hcz24_8
      try clear hcz26_0
      try clear hcz26_1
      try clear hcz26_2
      try clear hcz26_3
      try clear hcz26_4
      try clear hcz26_5
      try clear hcz26_6
      try clear hcz26_7
      try clear hcz26_8
      try clear hfz14_0
      try clear hfz14_1
      try clear hfz14_2
      try clear hfz14_3
      try clear hfz14_4
      try clear hfz14_5
      try clear hfz14_6
      try clear hfz14_7
      try clear hfz14_8
      try clear hfz17_0
      try clear hfz17_1
      try clear hfz17_2
      try clear hfz17_3
      try clear hfz17_4
      try clear hfz17_5
      try clear hfz17_6
      try clear hfz17_7
      try clear hfz17_8
      try clear hfz21_0
      try clear hfz21_1
      try clear hfz21_2
      try clear hfz21_3
      try clear hfz21_4
      try clear hfz21_5
      try clear hfz21_6
      try clear hfz21_7
      try clear hfz21_8
      try clear hfz24_0
      try clear hfz24_1
      try clear hfz24_2
      try clear hfz24_3
      try clear hfz24_4
      try clear hfz24_5
      try clear hfz24_6
      try clear hfz24_7
      try clear hfz24_8
      try clear hfz26_0
      try clear hfz26_1
      try clear hfz26_2
      try clear hfz26_3
      try clear hfz26_4
      try clear hfz26_5
      try clear hfz26_6
      try clear hfz26_7
      try clear hfz26_8
      obtain ⟨kq, x35_8, rfl, HA, HJ8, BK212, HB⟩ := hcut
      cases kq with
      | zero => exact absurd HA.out (by simp [supercargolaw42_PolicyDays.j0])
      | succ kj8 =>
        have H := HA.out
        clear HA
        simp only [supercargolaw42_PolicyDays.j0] at H
        by_cases c28 : x35_8 = true
        · subst c28
          have H1 : (some true) = some r := by rw [if_pos rfl] at H; exact H
          clear H
          have H := H1
          clear H1
          obtain rfl := Option.some.inj H
          go_wp2
          go_ret
          exact ⟨by first | rfl | (simp [errW_none, errW_some] <;> rfl) | (simp [*, errW_none, errW_some] <;> rfl), by repeat (first | (with_reducible first | exact HB.out | apply below_alloc | apply pw_below_drewN | apply below_drew1 | refine below_set ?_ GE212.out) | exact HB.out)⟩
        · replace c28 := Bool.eq_false_iff.mpr c28
          subst c28
          have H1 : ((policy_Covers.f kj8 a0_0 a0_1 a0_2 a0_3 a0_4 l0_5 a0_6 a0_7 a0_8 l1 a2 a3).bind fun t216 => (if t216 = true then ((policy_Covers.f kj8 a0_0 a0_1 a0_2 a0_3 a0_4 l0_5 a0_6 a0_7 a0_8 l1 a2 a5).bind fun t217 => (if t217 = true then ((policy_Covers.f kj8 a0_0 a0_1 a0_2 a0_3 a0_4 l0_5 a0_6 a0_7 a0_8 l1 a2 a4).bind fun t218 => (supercargolaw42_PolicyDays.j1 kj8 l1 a2 (!t218) a0_0 a0_1 a0_2 a0_3 a0_4 l0_5 a0_6 a0_7 a0_8)) else (supercargolaw42_PolicyDays.j1 kj8 l1 a2 false a0_0 a0_1 a0_2 a0_3 a0_4 l0_5 a0_6 a0_7 a0_8))) else (supercargolaw42_PolicyDays.j1 kj8 l1 a2 false a0_0 a0_1 a0_2 a0_3 a0_4 l0_5 a0_6 a0_7 a0_8))) = some r := by rw [if_neg (show ¬ (false = true) by decide)] at H; exact H
          clear H
          have H := H1
          clear H1
          have HC29 := Aside0.mk H
          clear H
          go_upto_region 5 with (fail)
          go_cut [55] (fun v55 wc => ∃ (kq : Nat) (x55_28 : Bool), v55 = .bool x55_28 ∧ Aside0 (supercargolaw42_PolicyDays.j1 kq l1 a2 x55_28 a0_0 a0_1 a0_2 a0_3 a0_4 l0_5 a0_6 a0_7 a0_8 = some r) ∧ Aside0 (kq ≤ kj8) ∧ Aside0 (wc.heap[gb212]? = some (.cells #[.string a0_0, .string a0_1, .string a0_2, .int .i64 a0_3, .int .i64 a0_4, (.slice A0_5 l0_5.length c0_5), .int .i64 a0_6, .int .i64 a0_7, .int .i64 a0_8] 24 (0, 0))) ∧ Aside0 (Below w.heap.size w wc))
          case first =>
            have H := HC29.out
            clear HC29
            replace H := Option.bind_eq_some_iff.mp H
            obtain ⟨t216, A300, H⟩ := H
            replace H : (if t216 = true then ((policy_Covers.f kj8 a0_0 a0_1 a0_2 a0_3 a0_4 l0_5 a0_6 a0_7 a0_8 l1 a2 a5).bind fun t217 => (if t217 = true then ((policy_Covers.f kj8 a0_0 a0_1 a0_2 a0_3 a0_4 l0_5 a0_6 a0_7 a0_8 l1 a2 a4).bind fun t218 => (supercargolaw42_PolicyDays.j1 kj8 l1 a2 (!t218) a0_0 a0_1 a0_2 a0_3 a0_4 l0_5 a0_6 a0_7 a0_8)) else (supercargolaw42_PolicyDays.j1 kj8 l1 a2 false a0_0 a0_1 a0_2 a0_3 a0_4 l0_5 a0_6 a0_7 a0_8))) else (supercargolaw42_PolicyDays.j1 kj8 l1 a2 false a0_0 a0_1 a0_2 a0_3 a0_4 l0_5 a0_6 a0_7 a0_8)) = some r := H
            have A30 := Aside0.mk A300
            clear A300
            by_cases c31 : t216 = true
            · subst c31
              have H1 : ((policy_Covers.f kj8 a0_0 a0_1 a0_2 a0_3 a0_4 l0_5 a0_6 a0_7 a0_8 l1 a2 a5).bind fun t217 => (if t217 = true then ((policy_Covers.f kj8 a0_0 a0_1 a0_2 a0_3 a0_4 l0_5 a0_6 a0_7 a0_8 l1 a2 a4).bind fun t218 => (supercargolaw42_PolicyDays.j1 kj8 l1 a2 (!t218) a0_0 a0_1 a0_2 a0_3 a0_4 l0_5 a0_6 a0_7 a0_8)) else (supercargolaw42_PolicyDays.j1 kj8 l1 a2 false a0_0 a0_1 a0_2 a0_3 a0_4 l0_5 a0_6 a0_7 a0_8))) = some r := by rw [if_pos rfl] at H; exact H
              clear H
              have H := H1
              clear H1
              replace H := Option.bind_eq_some_iff.mp H
              obtain ⟨t217, A320, H⟩ := H
              replace H : (if t217 = true then ((policy_Covers.f kj8 a0_0 a0_1 a0_2 a0_3 a0_4 l0_5 a0_6 a0_7 a0_8 l1 a2 a4).bind fun t218 => (supercargolaw42_PolicyDays.j1 kj8 l1 a2 (!t218) a0_0 a0_1 a0_2 a0_3 a0_4 l0_5 a0_6 a0_7 a0_8)) else (supercargolaw42_PolicyDays.j1 kj8 l1 a2 false a0_0 a0_1 a0_2 a0_3 a0_4 l0_5 a0_6 a0_7 a0_8)) = some r := H
              have A32 := Aside0.mk A320
              clear A320
              by_cases c33 : t217 = true
              · subst c33
                have H1 : ((policy_Covers.f kj8 a0_0 a0_1 a0_2 a0_3 a0_4 l0_5 a0_6 a0_7 a0_8 l1 a2 a4).bind fun t218 => (supercargolaw42_PolicyDays.j1 kj8 l1 a2 (!t218) a0_0 a0_1 a0_2 a0_3 a0_4 l0_5 a0_6 a0_7 a0_8)) = some r := by rw [if_pos rfl] at H; exact H
                clear H
                have H := H1
                clear H1
                replace H := Option.bind_eq_some_iff.mp H
                obtain ⟨t218, A340, H⟩ := H
                replace H : (supercargolaw42_PolicyDays.j1 kj8 l1 a2 (!t218) a0_0 a0_1 a0_2 a0_3 a0_4 l0_5 a0_6 a0_7 a0_8) = some r := H
                have A34 := Aside0.mk A340
                clear A340
                have H' := Aside0.mk H
                clear H
                have hcz35_0 : wc.cell? ⟨gb212, 0, none⟩ = some (.string a0_0) := (blk_cell BK212.out 0).trans rfl
                have hcz35_1 : wc.cell? ⟨gb212, 1, none⟩ = some (.string a0_1) := (blk_cell BK212.out 1).trans rfl
                have hcz35_2 : wc.cell? ⟨gb212, 2, none⟩ = some (.string a0_2) := (blk_cell BK212.out 2).trans rfl
                have hcz35_3 : wc.cell? ⟨gb212, 3, none⟩ = some (.int .i64 a0_3) := (blk_cell BK212.out 3).trans rfl
                have hcz35_4 : wc.cell? ⟨gb212, 4, none⟩ = some (.int .i64 a0_4) := (blk_cell BK212.out 4).trans rfl
                have hcz35_5 : wc.cell? ⟨gb212, 5, none⟩ = some (.slice A0_5 l0_5.length c0_5) := (blk_cell BK212.out 5).trans rfl
                have hcz35_6 : wc.cell? ⟨gb212, 6, none⟩ = some (.int .i64 a0_6) := (blk_cell BK212.out 6).trans rfl
                have hcz35_7 : wc.cell? ⟨gb212, 7, none⟩ = some (.int .i64 a0_7) := (blk_cell BK212.out 7).trans rfl
                have hcz35_8 : wc.cell? ⟨gb212, 8, none⟩ = some (.int .i64 a0_8) := (blk_cell BK212.out 8).trans rfl
                have hfz35_0 := blk_frozen BK212.out 0
                have hfz35_1 := blk_frozen BK212.out 1
                have hfz35_2 := blk_frozen BK212.out 2
                have hfz35_3 := blk_frozen BK212.out 3
                have hfz35_4 := blk_frozen BK212.out 4
                have hfz35_5 := blk_frozen BK212.out 5
                have hfz35_6 := blk_frozen BK212.out 6
                have hfz35_7 := blk_frozen BK212.out 7
                have hfz35_8 := blk_frozen BK212.out 8
                go_wp2_with (first | ((with_reducible refine gate_callee (f := 17) rfl ?_); refine goesL_ (some 40) rfl rfl Try.func17 (by kernel_rfl) rfl #[.agg #[.string a0_0, .string a0_1, .string a0_2, .int .i64 a0_3, .int .i64 a0_4, .slice A0_5 l0_5.length c0_5, .int .i64 a0_6, .int .i64 a0_7, .int .i64 a0_8], .slice A1 l1.length c1, .int .i64 a2, .int .i64 a3] rfl (by (try simp only [List.map_toArray, List.map_cons, List.map_nil]); first | done | rfl | (simp only [List.length_drop, List.length_take]; rfl)) ?_; (with_reducible refine (policy_Covers.calls kj8 a0_0 a0_1 a0_2 a0_3 a0_4 _ _ l0_5 a0_6 a0_7 a0_8 _ _ l1 a2 a3 true _ ?side1 ?side2 ?side3 ?side4 A30.out).mono ?_); (case side1 => repeat (first | exact (Kd.C_below HR0_5.out HB.out) | (with_reducible refine Kd.C_alloc ?_ _) | (with_reducible refine Kd.C_drewN ?_ _) | (with_reducible refine Kd.C_drew ?_))); (case side2 => exact HC0_5.out); (case side3 => repeat (first | exact (Kd.C_below HR1.out HB.out) | (with_reducible refine Kd.C_alloc ?_ _) | (with_reducible refine Kd.C_drewN ?_ _) | (with_reducible refine Kd.C_drew ?_))); (case side4 => exact HC1.out); rintro e w36 ⟨rfl, hb⟩; refine ⟨_, rfl, ?_⟩; have n0_ := Aside0.mk (blk_below (g := gb212) (o := .cells #[.string a0_0, .string a0_1, .string a0_2, .int .i64 a0_3, .int .i64 a0_4, .slice A0_5 l0_5.length c0_5, .int .i64 a0_6, .int .i64 a0_7, .int .i64 a0_8] 24 (0, 0)) (by (with_reducible repeat (first | refine blk_drewN ?_ _ | refine blk_drew ?_ | refine blk_alloc ?_ _)); exact BK212.out) hb); have n1_ := Aside0.mk (below_step (by repeat (first | (with_reducible first | exact HB.out | apply below_alloc | apply pw_below_drewN | apply below_drew1 | refine below_set ?_ GE212.out) | exact HB.out)) hb); clear BK212; clear HB; have BK212 := n0_; have HB := n1_; clear n0_ n1_; (try clear hb); (try clear hb2); (try clear hk); (try clear hi); have hcz37_0 : w36.cell? ⟨gb212, 0, none⟩ = some (.string a0_0) := (blk_cell BK212.out 0).trans rfl; have hcz37_1 : w36.cell? ⟨gb212, 1, none⟩ = some (.string a0_1) := (blk_cell BK212.out 1).trans rfl; have hcz37_2 : w36.cell? ⟨gb212, 2, none⟩ = some (.string a0_2) := (blk_cell BK212.out 2).trans rfl; have hcz37_3 : w36.cell? ⟨gb212, 3, none⟩ = some (.int .i64 a0_3) := (blk_cell BK212.out 3).trans rfl; have hcz37_4 : w36.cell? ⟨gb212, 4, none⟩ = some (.int .i64 a0_4) := (blk_cell BK212.out 4).trans rfl; have hcz37_5 : w36.cell? ⟨gb212, 5, none⟩ = some (.slice A0_5 l0_5.length c0_5) := (blk_cell BK212.out 5).trans rfl; have hcz37_6 : w36.cell? ⟨gb212, 6, none⟩ = some (.int .i64 a0_6) := (blk_cell BK212.out 6).trans rfl; have hcz37_7 : w36.cell? ⟨gb212, 7, none⟩ = some (.int .i64 a0_7) := (blk_cell BK212.out 7).trans rfl; have hcz37_8 : w36.cell? ⟨gb212, 8, none⟩ = some (.int .i64 a0_8) := (blk_cell BK212.out 8).trans rfl; have hfz37_0 := blk_frozen BK212.out 0; have hfz37_1 := blk_frozen BK212.out 1; have hfz37_2 := blk_frozen BK212.out 2; have hfz37_3 := blk_frozen BK212.out 3; have hfz37_4 := blk_frozen BK212.out 4; have hfz37_5 := blk_frozen BK212.out 5; have hfz37_6 := blk_frozen BK212.out 6; have hfz37_7 := blk_frozen BK212.out 7; have hfz37_8 := blk_frozen BK212.out 8) | (go_at_call 17; (with_reducible refine (policy_Covers.calls kj8 a0_0 a0_1 a0_2 a0_3 a0_4 _ _ l0_5 a0_6 a0_7 a0_8 _ _ l1 a2 a5 true _ ?side1 ?side2 ?side3 ?side4 A32.out).mono ?_); (case side1 => repeat (first | exact (Kd.C_below HR0_5.out HB.out) | (with_reducible refine Kd.C_alloc ?_ _) | (with_reducible refine Kd.C_drewN ?_ _) | (with_reducible refine Kd.C_drew ?_))); (case side2 => exact HC0_5.out); (case side3 => repeat (first | exact (Kd.C_below HR1.out HB.out) | (with_reducible refine Kd.C_alloc ?_ _) | (with_reducible refine Kd.C_drewN ?_ _) | (with_reducible refine Kd.C_drew ?_))); (case side4 => exact HC1.out); rintro e w38 ⟨rfl, hb⟩; have n0_ := Aside0.mk (blk_below (g := gb212) (o := .cells #[.string a0_0, .string a0_1, .string a0_2, .int .i64 a0_3, .int .i64 a0_4, .slice A0_5 l0_5.length c0_5, .int .i64 a0_6, .int .i64 a0_7, .int .i64 a0_8] 24 (0, 0)) (by (with_reducible repeat (first | refine blk_drewN ?_ _ | refine blk_drew ?_ | refine blk_alloc ?_ _)); exact BK212.out) hb); have n1_ := Aside0.mk (below_step (by repeat (first | (with_reducible first | exact HB.out | apply below_alloc | apply pw_below_drewN | apply below_drew1 | refine below_set ?_ GE212.out) | exact HB.out)) hb); clear BK212; clear HB; have BK212 := n0_; have HB := n1_; clear n0_ n1_; (try clear hb); (try clear hb2); (try clear hk); (try clear hi); have hcz39_0 : w38.cell? ⟨gb212, 0, none⟩ = some (.string a0_0) := (blk_cell BK212.out 0).trans rfl; have hcz39_1 : w38.cell? ⟨gb212, 1, none⟩ = some (.string a0_1) := (blk_cell BK212.out 1).trans rfl; have hcz39_2 : w38.cell? ⟨gb212, 2, none⟩ = some (.string a0_2) := (blk_cell BK212.out 2).trans rfl; have hcz39_3 : w38.cell? ⟨gb212, 3, none⟩ = some (.int .i64 a0_3) := (blk_cell BK212.out 3).trans rfl; have hcz39_4 : w38.cell? ⟨gb212, 4, none⟩ = some (.int .i64 a0_4) := (blk_cell BK212.out 4).trans rfl; have hcz39_5 : w38.cell? ⟨gb212, 5, none⟩ = some (.slice A0_5 l0_5.length c0_5) := (blk_cell BK212.out 5).trans rfl; have hcz39_6 : w38.cell? ⟨gb212, 6, none⟩ = some (.int .i64 a0_6) := (blk_cell BK212.out 6).trans rfl; have hcz39_7 : w38.cell? ⟨gb212, 7, none⟩ = some (.int .i64 a0_7) := (blk_cell BK212.out 7).trans rfl; have hcz39_8 : w38.cell? ⟨gb212, 8, none⟩ = some (.int .i64 a0_8) := (blk_cell BK212.out 8).trans rfl; have hfz39_0 := blk_frozen BK212.out 0; have hfz39_1 := blk_frozen BK212.out 1; have hfz39_2 := blk_frozen BK212.out 2; have hfz39_3 := blk_frozen BK212.out 3; have hfz39_4 := blk_frozen BK212.out 4; have hfz39_5 := blk_frozen BK212.out 5; have hfz39_6 := blk_frozen BK212.out 6; have hfz39_7 := blk_frozen BK212.out 7; have hfz39_8 := blk_frozen BK212.out 8) | (go_at_call 17; (with_reducible refine (policy_Covers.calls kj8 a0_0 a0_1 a0_2 a0_3 a0_4 _ _ l0_5 a0_6 a0_7 a0_8 _ _ l1 a2 a4 t218 _ ?side1 ?side2 ?side3 ?side4 A34.out).mono ?_); (case side1 => repeat (first | exact (Kd.C_below HR0_5.out HB.out) | (with_reducible refine Kd.C_alloc ?_ _) | (with_reducible refine Kd.C_drewN ?_ _) | (with_reducible refine Kd.C_drew ?_))); (case side2 => exact HC0_5.out); (case side3 => repeat (first | exact (Kd.C_below HR1.out HB.out) | (with_reducible refine Kd.C_alloc ?_ _) | (with_reducible refine Kd.C_drewN ?_ _) | (with_reducible refine Kd.C_drew ?_))); (case side4 => exact HC1.out); rintro e w40 ⟨rfl, hb⟩; have n0_ := Aside0.mk (blk_below (g := gb212) (o := .cells #[.string a0_0, .string a0_1, .string a0_2, .int .i64 a0_3, .int .i64 a0_4, .slice A0_5 l0_5.length c0_5, .int .i64 a0_6, .int .i64 a0_7, .int .i64 a0_8] 24 (0, 0)) (by (with_reducible repeat (first | refine blk_drewN ?_ _ | refine blk_drew ?_ | refine blk_alloc ?_ _)); exact BK212.out) hb); have n1_ := Aside0.mk (below_step (by repeat (first | (with_reducible first | exact HB.out | apply below_alloc | apply pw_below_drewN | apply below_drew1 | refine below_set ?_ GE212.out) | exact HB.out)) hb); clear BK212; clear HB; have BK212 := n0_; have HB := n1_; clear n0_ n1_; (try clear hb); (try clear hb2); (try clear hk); (try clear hi)))
                go_meet
                case rel => exact ⟨_, (!t218), (by first | rfl | (simp; done) | (simp [*]; done)), H', ⟨by have := HJ8.out; first | omega | exact Nat.le_refl _⟩, ⟨by (with_reducible repeat (first | refine blk_drewN ?_ _ | refine blk_drew ?_ | refine blk_alloc ?_ _)); exact BK212.out⟩, ⟨by repeat (first | (with_reducible first | exact HB.out | apply below_alloc | apply pw_below_drewN | apply below_drew1 | refine below_set ?_ GE212.out) | exact HB.out)⟩⟩
              · replace c33 := Bool.eq_false_iff.mpr c33
                subst c33
                have H1 : (supercargolaw42_PolicyDays.j1 kj8 l1 a2 false a0_0 a0_1 a0_2 a0_3 a0_4 l0_5 a0_6 a0_7 a0_8) = some r := by rw [if_neg (show ¬ (false = true) by decide)] at H; exact H
                clear H
                have H := H1
                clear H1
                have H' := Aside0.mk H
                clear H
                have hcz41_0 : wc.cell? ⟨gb212, 0, none⟩ = some (.string a0_0) := (blk_cell BK212.out 0).trans rfl
                have hcz41_1 : wc.cell? ⟨gb212, 1, none⟩ = some (.string a0_1) := (blk_cell BK212.out 1).trans rfl
                have hcz41_2 : wc.cell? ⟨gb212, 2, none⟩ = some (.string a0_2) := (blk_cell BK212.out 2).trans rfl
                have hcz41_3 : wc.cell? ⟨gb212, 3, none⟩ = some (.int .i64 a0_3) := (blk_cell BK212.out 3).trans rfl
                have hcz41_4 : wc.cell? ⟨gb212, 4, none⟩ = some (.int .i64 a0_4) := (blk_cell BK212.out 4).trans rfl
                have hcz41_5 : wc.cell? ⟨gb212, 5, none⟩ = some (.slice A0_5 l0_5.length c0_5) := (blk_cell BK212.out 5).trans rfl
                have hcz41_6 : wc.cell? ⟨gb212, 6, none⟩ = some (.int .i64 a0_6) := (blk_cell BK212.out 6).trans rfl
                have hcz41_7 : wc.cell? ⟨gb212, 7, none⟩ = some (.int .i64 a0_7) := (blk_cell BK212.out 7).trans rfl
                have hcz41_8 : wc.cell? ⟨gb212, 8, none⟩ = some (.int .i64 a0_8) := (blk_cell BK212.out 8).trans rfl
                have hfz41_0 := blk_frozen BK212.out 0
                have hfz41_1 := blk_frozen BK212.out 1
                have hfz41_2 := blk_frozen BK212.out 2
                have hfz41_3 := blk_frozen BK212.out 3
                have hfz41_4 := blk_frozen BK212.out 4
                have hfz41_5 := blk_frozen BK212.out 5
                have hfz41_6 := blk_frozen BK212.out 6
                have hfz41_7 := blk_frozen BK212.out 7
                have hfz41_8 := blk_frozen BK212.out 8
                go_wp2_with (first | ((with_reducible refine gate_callee (f := 17) rfl ?_); refine goesL_ (some 40) rfl rfl Try.func17 (by kernel_rfl) rfl #[.agg #[.string a0_0, .string a0_1, .string a0_2, .int .i64 a0_3, .int .i64 a0_4, .slice A0_5 l0_5.length c0_5, .int .i64 a0_6, .int .i64 a0_7, .int .i64 a0_8], .slice A1 l1.length c1, .int .i64 a2, .int .i64 a3] rfl (by (try simp only [List.map_toArray, List.map_cons, List.map_nil]); first | done | rfl | (simp only [List.length_drop, List.length_take]; rfl)) ?_; (with_reducible refine (policy_Covers.calls kj8 a0_0 a0_1 a0_2 a0_3 a0_4 _ _ l0_5 a0_6 a0_7 a0_8 _ _ l1 a2 a3 true _ ?side1 ?side2 ?side3 ?side4 A30.out).mono ?_); (case side1 => repeat (first | exact (Kd.C_below HR0_5.out HB.out) | (with_reducible refine Kd.C_alloc ?_ _) | (with_reducible refine Kd.C_drewN ?_ _) | (with_reducible refine Kd.C_drew ?_))); (case side2 => exact HC0_5.out); (case side3 => repeat (first | exact (Kd.C_below HR1.out HB.out) | (with_reducible refine Kd.C_alloc ?_ _) | (with_reducible refine Kd.C_drewN ?_ _) | (with_reducible refine Kd.C_drew ?_))); (case side4 => exact HC1.out); rintro e w42 ⟨rfl, hb⟩; refine ⟨_, rfl, ?_⟩; have n0_ := Aside0.mk (blk_below (g := gb212) (o := .cells #[.string a0_0, .string a0_1, .string a0_2, .int .i64 a0_3, .int .i64 a0_4, .slice A0_5 l0_5.length c0_5, .int .i64 a0_6, .int .i64 a0_7, .int .i64 a0_8] 24 (0, 0)) (by (with_reducible repeat (first | refine blk_drewN ?_ _ | refine blk_drew ?_ | refine blk_alloc ?_ _)); exact BK212.out) hb); have n1_ := Aside0.mk (below_step (by repeat (first | (with_reducible first | exact HB.out | apply below_alloc | apply pw_below_drewN | apply below_drew1 | refine below_set ?_ GE212.out) | exact HB.out)) hb); clear BK212; clear HB; have BK212 := n0_; have HB := n1_; clear n0_ n1_; (try clear hb); (try clear hb2); (try clear hk); (try clear hi); have hcz43_0 : w42.cell? ⟨gb212, 0, none⟩ = some (.string a0_0) := (blk_cell BK212.out 0).trans rfl; have hcz43_1 : w42.cell? ⟨gb212, 1, none⟩ = some (.string a0_1) := (blk_cell BK212.out 1).trans rfl; have hcz43_2 : w42.cell? ⟨gb212, 2, none⟩ = some (.string a0_2) := (blk_cell BK212.out 2).trans rfl; have hcz43_3 : w42.cell? ⟨gb212, 3, none⟩ = some (.int .i64 a0_3) := (blk_cell BK212.out 3).trans rfl; have hcz43_4 : w42.cell? ⟨gb212, 4, none⟩ = some (.int .i64 a0_4) := (blk_cell BK212.out 4).trans rfl; have hcz43_5 : w42.cell? ⟨gb212, 5, none⟩ = some (.slice A0_5 l0_5.length c0_5) := (blk_cell BK212.out 5).trans rfl; have hcz43_6 : w42.cell? ⟨gb212, 6, none⟩ = some (.int .i64 a0_6) := (blk_cell BK212.out 6).trans rfl; have hcz43_7 : w42.cell? ⟨gb212, 7, none⟩ = some (.int .i64 a0_7) := (blk_cell BK212.out 7).trans rfl; have hcz43_8 : w42.cell? ⟨gb212, 8, none⟩ = some (.int .i64 a0_8) := (blk_cell BK212.out 8).trans rfl; have hfz43_0 := blk_frozen BK212.out 0; have hfz43_1 := blk_frozen BK212.out 1; have hfz43_2 := blk_frozen BK212.out 2; have hfz43_3 := blk_frozen BK212.out 3; have hfz43_4 := blk_frozen BK212.out 4; have hfz43_5 := blk_frozen BK212.out 5; have hfz43_6 := blk_frozen BK212.out 6; have hfz43_7 := blk_frozen BK212.out 7; have hfz43_8 := blk_frozen BK212.out 8) | (go_at_call 17; (with_reducible refine (policy_Covers.calls kj8 a0_0 a0_1 a0_2 a0_3 a0_4 _ _ l0_5 a0_6 a0_7 a0_8 _ _ l1 a2 a5 false _ ?side1 ?side2 ?side3 ?side4 A32.out).mono ?_); (case side1 => repeat (first | exact (Kd.C_below HR0_5.out HB.out) | (with_reducible refine Kd.C_alloc ?_ _) | (with_reducible refine Kd.C_drewN ?_ _) | (with_reducible refine Kd.C_drew ?_))); (case side2 => exact HC0_5.out); (case side3 => repeat (first | exact (Kd.C_below HR1.out HB.out) | (with_reducible refine Kd.C_alloc ?_ _) | (with_reducible refine Kd.C_drewN ?_ _) | (with_reducible refine Kd.C_drew ?_))); (case side4 => exact HC1.out); rintro e w44 ⟨rfl, hb⟩; have n0_ := Aside0.mk (blk_below (g := gb212) (o := .cells #[.string a0_0, .string a0_1, .string a0_2, .int .i64 a0_3, .int .i64 a0_4, .slice A0_5 l0_5.length c0_5, .int .i64 a0_6, .int .i64 a0_7, .int .i64 a0_8] 24 (0, 0)) (by (with_reducible repeat (first | refine blk_drewN ?_ _ | refine blk_drew ?_ | refine blk_alloc ?_ _)); exact BK212.out) hb); have n1_ := Aside0.mk (below_step (by repeat (first | (with_reducible first | exact HB.out | apply below_alloc | apply pw_below_drewN | apply below_drew1 | refine below_set ?_ GE212.out) | exact HB.out)) hb); clear BK212; clear HB; have BK212 := n0_; have HB := n1_; clear n0_ n1_; (try clear hb); (try clear hb2); (try clear hk); (try clear hi)))
                go_meet
                case rel => exact ⟨_, (false), (by first | rfl | (simp; done) | (simp [*]; done)), H', ⟨by have := HJ8.out; first | omega | exact Nat.le_refl _⟩, ⟨by (with_reducible repeat (first | refine blk_drewN ?_ _ | refine blk_drew ?_ | refine blk_alloc ?_ _)); exact BK212.out⟩, ⟨by repeat (first | (with_reducible first | exact HB.out | apply below_alloc | apply pw_below_drewN | apply below_drew1 | refine below_set ?_ GE212.out) | exact HB.out)⟩⟩
            · replace c31 := Bool.eq_false_iff.mpr c31
              subst c31
              have H1 : (supercargolaw42_PolicyDays.j1 kj8 l1 a2 false a0_0 a0_1 a0_2 a0_3 a0_4 l0_5 a0_6 a0_7 a0_8) = some r := by rw [if_neg (show ¬ (false = true) by decide)] at H; exact H
              clear H
              have H := H1
              clear H1
              have H' := Aside0.mk H
              clear H
              have hcz45_0 : wc.cell? ⟨gb212, 0, none⟩ = some (.string a0_0) := (blk_cell BK212.out 0).trans rfl
              have hcz45_1 : wc.cell? ⟨gb212, 1, none⟩ = some (.string a0_1) := (blk_cell BK212.out 1).trans rfl
              have hcz45_2 : wc.cell? ⟨gb212, 2, none⟩ = some (.string a0_2) := (blk_cell BK212.out 2).trans rfl
              have hcz45_3 : wc.cell? ⟨gb212, 3, none⟩ = some (.int .i64 a0_3) := (blk_cell BK212.out 3).trans rfl
              have hcz45_4 : wc.cell? ⟨gb212, 4, none⟩ = some (.int .i64 a0_4) := (blk_cell BK212.out 4).trans rfl
              have hcz45_5 : wc.cell? ⟨gb212, 5, none⟩ = some (.slice A0_5 l0_5.length c0_5) := (blk_cell BK212.out 5).trans rfl
              have hcz45_6 : wc.cell? ⟨gb212, 6, none⟩ = some (.int .i64 a0_6) := (blk_cell BK212.out 6).trans rfl
              have hcz45_7 : wc.cell? ⟨gb212, 7, none⟩ = some (.int .i64 a0_7) := (blk_cell BK212.out 7).trans rfl
              have hcz45_8 : wc.cell? ⟨gb212, 8, none⟩ = some (.int .i64 a0_8) := (blk_cell BK212.out 8).trans rfl
              have hfz45_0 := blk_frozen BK212.out 0
              have hfz45_1 := blk_frozen BK212.out 1
              have hfz45_2 := blk_frozen BK212.out 2
              have hfz45_3 := blk_frozen BK212.out 3
              have hfz45_4 := blk_frozen BK212.out 4
              have hfz45_5 := blk_frozen BK212.out 5
              have hfz45_6 := blk_frozen BK212.out 6
              have hfz45_7 := blk_frozen BK212.out 7
              have hfz45_8 := blk_frozen BK212.out 8
              go_wp2_with (first | ((with_reducible refine gate_callee (f := 17) rfl ?_); refine goesL_ (some 40) rfl rfl Try.func17 (by kernel_rfl) rfl #[.agg #[.string a0_0, .string a0_1, .string a0_2, .int .i64 a0_3, .int .i64 a0_4, .slice A0_5 l0_5.length c0_5, .int .i64 a0_6, .int .i64 a0_7, .int .i64 a0_8], .slice A1 l1.length c1, .int .i64 a2, .int .i64 a3] rfl (by (try simp only [List.map_toArray, List.map_cons, List.map_nil]); first | done | rfl | (simp only [List.length_drop, List.length_take]; rfl)) ?_; (with_reducible refine (policy_Covers.calls kj8 a0_0 a0_1 a0_2 a0_3 a0_4 _ _ l0_5 a0_6 a0_7 a0_8 _ _ l1 a2 a3 false _ ?side1 ?side2 ?side3 ?side4 A30.out).mono ?_); (case side1 => repeat (first | exact (Kd.C_below HR0_5.out HB.out) | (with_reducible refine Kd.C_alloc ?_ _) | (with_reducible refine Kd.C_drewN ?_ _) | (with_reducible refine Kd.C_drew ?_))); (case side2 => exact HC0_5.out); (case side3 => repeat (first | exact (Kd.C_below HR1.out HB.out) | (with_reducible refine Kd.C_alloc ?_ _) | (with_reducible refine Kd.C_drewN ?_ _) | (with_reducible refine Kd.C_drew ?_))); (case side4 => exact HC1.out); rintro e w46 ⟨rfl, hb⟩; refine ⟨_, rfl, ?_⟩; have n0_ := Aside0.mk (blk_below (g := gb212) (o := .cells #[.string a0_0, .string a0_1, .string a0_2, .int .i64 a0_3, .int .i64 a0_4, .slice A0_5 l0_5.length c0_5, .int .i64 a0_6, .int .i64 a0_7, .int .i64 a0_8] 24 (0, 0)) (by (with_reducible repeat (first | refine blk_drewN ?_ _ | refine blk_drew ?_ | refine blk_alloc ?_ _)); exact BK212.out) hb); have n1_ := Aside0.mk (below_step (by repeat (first | (with_reducible first | exact HB.out | apply below_alloc | apply pw_below_drewN | apply below_drew1 | refine below_set ?_ GE212.out) | exact HB.out)) hb); clear BK212; clear HB; have BK212 := n0_; have HB := n1_; clear n0_ n1_; (try clear hb); (try clear hb2); (try clear hk); (try clear hi)))
              go_meet
              case rel => exact ⟨_, (false), (by first | rfl | (simp; done) | (simp [*]; done)), H', ⟨by have := HJ8.out; first | omega | exact Nat.le_refl _⟩, ⟨by (with_reducible repeat (first | refine blk_drewN ?_ _ | refine blk_drew ?_ | refine blk_alloc ?_ _)); exact BK212.out⟩, ⟨by repeat (first | (with_reducible first | exact HB.out | apply below_alloc | apply pw_below_drewN | apply below_drew1 | refine below_set ?_ GE212.out) | exact HB.out)⟩⟩
          case rest =>
            clear HC29
            try clear c1
            try clear c2
            try clear p2
            try clear c3
            try clear c7
            try clear c8
            try clear c9
            try clear c13
            try clear c16
            try clear c16b0
            try clear c16b1
            try clear c17
            try clear c20
            try clear c23
            try clear c23b0
            try clear c28
            try clear c31
            try clear c33
            try clear hcz14_0
            try clear hcz14_1
            try clear hcz14_2
            try clear hcz14_3
            try clear hcz14_4
            try clear hcz14_5
            try clear hcz14_6
            try clear hcz14_7
            try clear hcz14_8
            try clear hcz17_0
            try clear hcz17_1
            try clear hcz17_2
            try clear hcz17_3
            try clear hcz17_4
            try clear hcz17_5
            try clear hcz17_6
            try clear hcz17_7
            try clear hcz17_8
            try clear hcz21_0
            try clear hcz21_1
            try clear hcz21_2
            try clear hcz21_3
            try clear hcz21_4
            try clear hcz21_5
            try clear hcz21_6
            try clear hcz21_7
            try clear hcz21_8
            try clear hcz24_0
            try clear hcz24_1
            try clear hcz24_2
            try clear hcz24_3
            try clear hcz24_4
            try clear hcz24_5
            try clear hcz24_6
            try clear hcz24_7
            try clear hcz24_8
            try clear hcz26_0
            try clear hcz26_1
            try clear hcz26_2
            try clear hcz26_3
            try clear hcz26_4
            try clear hcz26_5
            try clear hcz26_6
            try clear hcz26_7
            try clear hcz26_8
            try clear hcz35_0
            try clear hcz35_1
            try clear hcz35_2
            try clear hcz35_3
            try clear hcz35_4
            try clear hcz35_5
            try clear hcz35_6
            try clear hcz35_7
            try clear hcz35_8
            try clear hcz37_0
            try clear hcz37_1
            try clear hcz37_2
            try clear hcz37_3
            try clear hcz37_4
            try clear hcz37_5
            try clear hcz37_6
            try clear hcz37_7
            try clear hcz37_8
            try clear hcz39_0
            try clear hcz39_1
            try clear hcz39_2
            try clear hcz39_3
            try clear hcz39_4
            try clear hcz39_5
            try clear hcz39_6
            try clear hcz39_7
            try clear hcz39_8
            try clear hcz41_0
            try clear hcz41_1
            try clear hcz41_2
            try clear hcz41_3
            try clear hcz41_4
            try clear hcz41_5
            try clear hcz41_6
            try clear hcz41_7
            try clear hcz41_8
            try clear hcz43_0
            try clear hcz43_1
            try clear hcz43_2
            try clear hcz43_3
            try clear hcz43_4
            try clear hcz43_5
            try clear hcz43_6
            try clear hcz43_7
            try clear hcz43_8
            try clear hcz45_0
            try clear hcz45_1
            try clear hcz45_2
            try clear hcz45_3
            try clear hcz45_4
            try clear hcz45_5
            try clear hcz45_6
            try clear hcz45_7
            try clear hcz45_8
            try clear hfz14_0
            try clear hfz14_1
            try clear hfz14_2
            try clear hfz14_3
            try clear hfz14_4
            try clear hfz14_5
            try clear hfz14_6
            try clear hfz14_7
            try clear hfz14_8
            try clear hfz17_0
            try clear hfz17_1
            try clear hfz17_2
            try clear hfz17_3
            try clear hfz17_4
            try clear hfz17_5
            try clear hfz17_6
            try clear hfz17_7
            try clear hfz17_8
            try clear hfz21_0
            try clear hfz21_1
            try clear hfz21_2
            try clear hfz21_3
            try clear hfz21_4
            try clear hfz21_5
            try clear hfz21_6
            try clear hfz21_7
            try clear hfz21_8
            try clear hfz24_0
            try clear hfz24_1
            try clear hfz24_2
            try clear hfz24_3
            try clear hfz24_4
            try clear hfz24_5
            try clear hfz24_6
            try clear hfz24_7
            try clear hfz24_8
            try clear hfz26_0
            try clear hfz26_1
            try clear hfz26_2
            try clear hfz26_3
            try clear hfz26_4
            try clear hfz26_5
            try clear hfz26_6
            try clear hfz26_7
            try clear hfz26_8
            try clear hfz35_0
            try clear hfz35_1
            try clear hfz35_2
            try clear hfz35_3
            try clear hfz35_4
            try clear hfz35_5
            try clear hfz35_6
            try clear hfz35_7
            try clear hfz35_8
            try clear hfz37_0
            try clear hfz37_1
            try clear hfz37_2
            try clear hfz37_3
            try clear hfz37_4
            try clear hfz37_5
            try clear hfz37_6
            try clear hfz37_7
            try clear hfz37_8
            try clear hfz39_0
            try clear hfz39_1
            try clear hfz39_2
            try clear hfz39_3
            try clear hfz39_4
            try clear hfz39_5
            try clear hfz39_6
            try clear hfz39_7
            try clear hfz39_8
            try clear hfz41_0
            try clear hfz41_1
            try clear hfz41_2
            try clear hfz41_3
            try clear hfz41_4
            try clear hfz41_5
            try clear hfz41_6
            try clear hfz41_7
            try clear hfz41_8
            try clear hfz43_0
            try clear hfz43_1
            try clear hfz43_2
            try clear hfz43_3
            try clear hfz43_4
            try clear hfz43_5
            try clear hfz43_6
            try clear hfz43_7
            try clear hfz43_8
            try clear hfz45_0
            try clear hfz45_1
            try clear hfz45_2
            try clear hfz45_3
            try clear hfz45_4
            try clear hfz45_5
            try clear hfz45_6
            try clear hfz45_7
            try clear hfz45_8
            try clear p2
            obtain ⟨kq, x55_28, rfl, HA, HJ28, BK212, HB⟩ := hcut
            cases kq with
            | zero => exact absurd HA.out (by simp [supercargolaw42_PolicyDays.j1])
            | succ kj28 =>
              have H := HA.out
              clear HA
              simp only [supercargolaw42_PolicyDays.j1] at H
              by_cases c47 : x55_28 = true
              · subst c47
                have H1 : (some false) = some r := by rw [if_pos rfl] at H; exact H
                clear H
                have H := H1
                clear H1
                obtain rfl := Option.some.inj H
                go_wp2
                go_ret
                exact ⟨by first | rfl | (simp [errW_none, errW_some] <;> rfl) | (simp [*, errW_none, errW_some] <;> rfl), by repeat (first | (with_reducible first | exact HB.out | apply below_alloc | apply pw_below_drewN | apply below_drew1 | refine below_set ?_ GE212.out) | exact HB.out)⟩
              · replace c47 := Bool.eq_false_iff.mpr c47
                subst c47
                have H1 : ((policy_Covers.f kj28 a0_0 a0_1 a0_2 a0_3 a0_4 l0_5 a0_6 a0_7 a0_8 l1 a2 (wrap64 (a0_6 - 1))).bind fun t219 => (if t219 = true then (some false) else ((policy_Covers.f kj28 a0_0 a0_1 a0_2 a0_3 a0_4 l0_5 a0_6 a0_7 a0_8 l1 a2 (wrap64 (a0_7 + 1))).bind fun t220 => (some (!t220))))) = some r := by rw [if_neg (show ¬ (false = true) by decide)] at H; exact H
                clear H
                have H := H1
                clear H1
                replace H := Option.bind_eq_some_iff.mp H
                obtain ⟨t219, A480, H⟩ := H
                replace H : (if t219 = true then (some false) else ((policy_Covers.f kj28 a0_0 a0_1 a0_2 a0_3 a0_4 l0_5 a0_6 a0_7 a0_8 l1 a2 (wrap64 (a0_7 + 1))).bind fun t220 => (some (!t220)))) = some r := H
                have A48 := Aside0.mk A480
                clear A480
                by_cases c49 : t219 = true
                · subst c49
                  have H1 : (some false) = some r := by rw [if_pos rfl] at H; exact H
                  clear H
                  have H := H1
                  clear H1
                  obtain rfl := Option.some.inj H
                  have hcz50_0 : wc.cell? ⟨gb212, 0, none⟩ = some (.string a0_0) := (blk_cell BK212.out 0).trans rfl
                  have hcz50_1 : wc.cell? ⟨gb212, 1, none⟩ = some (.string a0_1) := (blk_cell BK212.out 1).trans rfl
                  have hcz50_2 : wc.cell? ⟨gb212, 2, none⟩ = some (.string a0_2) := (blk_cell BK212.out 2).trans rfl
                  have hcz50_3 : wc.cell? ⟨gb212, 3, none⟩ = some (.int .i64 a0_3) := (blk_cell BK212.out 3).trans rfl
                  have hcz50_4 : wc.cell? ⟨gb212, 4, none⟩ = some (.int .i64 a0_4) := (blk_cell BK212.out 4).trans rfl
                  have hcz50_5 : wc.cell? ⟨gb212, 5, none⟩ = some (.slice A0_5 l0_5.length c0_5) := (blk_cell BK212.out 5).trans rfl
                  have hcz50_6 : wc.cell? ⟨gb212, 6, none⟩ = some (.int .i64 a0_6) := (blk_cell BK212.out 6).trans rfl
                  have hcz50_7 : wc.cell? ⟨gb212, 7, none⟩ = some (.int .i64 a0_7) := (blk_cell BK212.out 7).trans rfl
                  have hcz50_8 : wc.cell? ⟨gb212, 8, none⟩ = some (.int .i64 a0_8) := (blk_cell BK212.out 8).trans rfl
                  have hfz50_0 := blk_frozen BK212.out 0
                  have hfz50_1 := blk_frozen BK212.out 1
                  have hfz50_2 := blk_frozen BK212.out 2
                  have hfz50_3 := blk_frozen BK212.out 3
                  have hfz50_4 := blk_frozen BK212.out 4
                  have hfz50_5 := blk_frozen BK212.out 5
                  have hfz50_6 := blk_frozen BK212.out 6
                  have hfz50_7 := blk_frozen BK212.out 7
                  have hfz50_8 := blk_frozen BK212.out 8
                  go_wp2_with (first | ((with_reducible refine gate_callee (f := 17) rfl ?_); refine goesL_ (some 62) rfl rfl Try.func17 (by kernel_rfl) rfl #[.agg #[.string a0_0, .string a0_1, .string a0_2, .int .i64 a0_3, .int .i64 a0_4, .slice A0_5 l0_5.length c0_5, .int .i64 a0_6, .int .i64 a0_7, .int .i64 a0_8], .slice A1 l1.length c1, .int .i64 a2, .int .i64 (wrap64 (a0_6 - 1))] rfl (by (try simp only [List.map_toArray, List.map_cons, List.map_nil]); first | done | rfl | (simp only [List.length_drop, List.length_take]; rfl)) ?_; (with_reducible refine (policy_Covers.calls kj28 a0_0 a0_1 a0_2 a0_3 a0_4 _ _ l0_5 a0_6 a0_7 a0_8 _ _ l1 a2 (wrap64 (a0_6 - 1)) true _ ?side1 ?side2 ?side3 ?side4 A48.out).mono ?_); (case side1 => repeat (first | exact (Kd.C_below HR0_5.out HB.out) | (with_reducible refine Kd.C_alloc ?_ _) | (with_reducible refine Kd.C_drewN ?_ _) | (with_reducible refine Kd.C_drew ?_))); (case side2 => exact HC0_5.out); (case side3 => repeat (first | exact (Kd.C_below HR1.out HB.out) | (with_reducible refine Kd.C_alloc ?_ _) | (with_reducible refine Kd.C_drewN ?_ _) | (with_reducible refine Kd.C_drew ?_))); (case side4 => exact HC1.out); rintro e w51 ⟨rfl, hb⟩; refine ⟨_, rfl, ?_⟩; have n0_ := Aside0.mk (blk_below (g := gb212) (o := .cells #[.string a0_0, .string a0_1, .string a0_2, .int .i64 a0_3, .int .i64 a0_4, .slice A0_5 l0_5.length c0_5, .int .i64 a0_6, .int .i64 a0_7, .int .i64 a0_8] 24 (0, 0)) (by (with_reducible repeat (first | refine blk_drewN ?_ _ | refine blk_drew ?_ | refine blk_alloc ?_ _)); exact BK212.out) hb); have n1_ := Aside0.mk (below_step (by repeat (first | (with_reducible first | exact HB.out | apply below_alloc | apply pw_below_drewN | apply below_drew1 | refine below_set ?_ GE212.out) | exact HB.out)) hb); clear BK212; clear HB; have BK212 := n0_; have HB := n1_; clear n0_ n1_; (try clear hb); (try clear hb2); (try clear hk); (try clear hi)))
                  go_ret
                  exact ⟨by first | rfl | (simp [errW_none, errW_some] <;> rfl) | (simp [*, errW_none, errW_some] <;> rfl), by repeat (first | (with_reducible first | exact HB.out | apply below_alloc | apply pw_below_drewN | apply below_drew1 | refine below_set ?_ GE212.out) | exact HB.out)⟩
                · replace c49 := Bool.eq_false_iff.mpr c49
                  subst c49
                  have H1 : ((policy_Covers.f kj28 a0_0 a0_1 a0_2 a0_3 a0_4 l0_5 a0_6 a0_7 a0_8 l1 a2 (wrap64 (a0_7 + 1))).bind fun t220 => (some (!t220))) = some r := by rw [if_neg (show ¬ (false = true) by decide)] at H; exact H
                  clear H
                  have H := H1
                  clear H1
                  replace H := Option.bind_eq_some_iff.mp H
                  obtain ⟨t220, A520, H⟩ := H
                  replace H : (some (!t220)) = some r := H
                  have A52 := Aside0.mk A520
                  clear A520
                  obtain rfl := Option.some.inj H
                  have hcz53_0 : wc.cell? ⟨gb212, 0, none⟩ = some (.string a0_0) := (blk_cell BK212.out 0).trans rfl
                  have hcz53_1 : wc.cell? ⟨gb212, 1, none⟩ = some (.string a0_1) := (blk_cell BK212.out 1).trans rfl
                  have hcz53_2 : wc.cell? ⟨gb212, 2, none⟩ = some (.string a0_2) := (blk_cell BK212.out 2).trans rfl
                  have hcz53_3 : wc.cell? ⟨gb212, 3, none⟩ = some (.int .i64 a0_3) := (blk_cell BK212.out 3).trans rfl
                  have hcz53_4 : wc.cell? ⟨gb212, 4, none⟩ = some (.int .i64 a0_4) := (blk_cell BK212.out 4).trans rfl
                  have hcz53_5 : wc.cell? ⟨gb212, 5, none⟩ = some (.slice A0_5 l0_5.length c0_5) := (blk_cell BK212.out 5).trans rfl
                  have hcz53_6 : wc.cell? ⟨gb212, 6, none⟩ = some (.int .i64 a0_6) := (blk_cell BK212.out 6).trans rfl
                  have hcz53_7 : wc.cell? ⟨gb212, 7, none⟩ = some (.int .i64 a0_7) := (blk_cell BK212.out 7).trans rfl
                  have hcz53_8 : wc.cell? ⟨gb212, 8, none⟩ = some (.int .i64 a0_8) := (blk_cell BK212.out 8).trans rfl
                  have hfz53_0 := blk_frozen BK212.out 0
                  have hfz53_1 := blk_frozen BK212.out 1
                  have hfz53_2 := blk_frozen BK212.out 2
                  have hfz53_3 := blk_frozen BK212.out 3
                  have hfz53_4 := blk_frozen BK212.out 4
                  have hfz53_5 := blk_frozen BK212.out 5
                  have hfz53_6 := blk_frozen BK212.out 6
                  have hfz53_7 := blk_frozen BK212.out 7
                  have hfz53_8 := blk_frozen BK212.out 8
                  go_wp2_with (first | ((with_reducible refine gate_callee (f := 17) rfl ?_); refine goesL_ (some 62) rfl rfl Try.func17 (by kernel_rfl) rfl #[.agg #[.string a0_0, .string a0_1, .string a0_2, .int .i64 a0_3, .int .i64 a0_4, .slice A0_5 l0_5.length c0_5, .int .i64 a0_6, .int .i64 a0_7, .int .i64 a0_8], .slice A1 l1.length c1, .int .i64 a2, .int .i64 (wrap64 (a0_6 - 1))] rfl (by (try simp only [List.map_toArray, List.map_cons, List.map_nil]); first | done | rfl | (simp only [List.length_drop, List.length_take]; rfl)) ?_; (with_reducible refine (policy_Covers.calls kj28 a0_0 a0_1 a0_2 a0_3 a0_4 _ _ l0_5 a0_6 a0_7 a0_8 _ _ l1 a2 (wrap64 (a0_6 - 1)) false _ ?side1 ?side2 ?side3 ?side4 A48.out).mono ?_); (case side1 => repeat (first | exact (Kd.C_below HR0_5.out HB.out) | (with_reducible refine Kd.C_alloc ?_ _) | (with_reducible refine Kd.C_drewN ?_ _) | (with_reducible refine Kd.C_drew ?_))); (case side2 => exact HC0_5.out); (case side3 => repeat (first | exact (Kd.C_below HR1.out HB.out) | (with_reducible refine Kd.C_alloc ?_ _) | (with_reducible refine Kd.C_drewN ?_ _) | (with_reducible refine Kd.C_drew ?_))); (case side4 => exact HC1.out); rintro e w54 ⟨rfl, hb⟩; refine ⟨_, rfl, ?_⟩; have n0_ := Aside0.mk (blk_below (g := gb212) (o := .cells #[.string a0_0, .string a0_1, .string a0_2, .int .i64 a0_3, .int .i64 a0_4, .slice A0_5 l0_5.length c0_5, .int .i64 a0_6, .int .i64 a0_7, .int .i64 a0_8] 24 (0, 0)) (by (with_reducible repeat (first | refine blk_drewN ?_ _ | refine blk_drew ?_ | refine blk_alloc ?_ _)); exact BK212.out) hb); have n1_ := Aside0.mk (below_step (by repeat (first | (with_reducible first | exact HB.out | apply below_alloc | apply pw_below_drewN | apply below_drew1 | refine below_set ?_ GE212.out) | exact HB.out)) hb); clear BK212; clear HB; have BK212 := n0_; have HB := n1_; clear n0_ n1_; (try clear hb); (try clear hb2); (try clear hk); (try clear hi); have hcz55_0 : w54.cell? ⟨gb212, 0, none⟩ = some (.string a0_0) := (blk_cell BK212.out 0).trans rfl; have hcz55_1 : w54.cell? ⟨gb212, 1, none⟩ = some (.string a0_1) := (blk_cell BK212.out 1).trans rfl; have hcz55_2 : w54.cell? ⟨gb212, 2, none⟩ = some (.string a0_2) := (blk_cell BK212.out 2).trans rfl; have hcz55_3 : w54.cell? ⟨gb212, 3, none⟩ = some (.int .i64 a0_3) := (blk_cell BK212.out 3).trans rfl; have hcz55_4 : w54.cell? ⟨gb212, 4, none⟩ = some (.int .i64 a0_4) := (blk_cell BK212.out 4).trans rfl; have hcz55_5 : w54.cell? ⟨gb212, 5, none⟩ = some (.slice A0_5 l0_5.length c0_5) := (blk_cell BK212.out 5).trans rfl; have hcz55_6 : w54.cell? ⟨gb212, 6, none⟩ = some (.int .i64 a0_6) := (blk_cell BK212.out 6).trans rfl; have hcz55_7 : w54.cell? ⟨gb212, 7, none⟩ = some (.int .i64 a0_7) := (blk_cell BK212.out 7).trans rfl; have hcz55_8 : w54.cell? ⟨gb212, 8, none⟩ = some (.int .i64 a0_8) := (blk_cell BK212.out 8).trans rfl; have hfz55_0 := blk_frozen BK212.out 0; have hfz55_1 := blk_frozen BK212.out 1; have hfz55_2 := blk_frozen BK212.out 2; have hfz55_3 := blk_frozen BK212.out 3; have hfz55_4 := blk_frozen BK212.out 4; have hfz55_5 := blk_frozen BK212.out 5; have hfz55_6 := blk_frozen BK212.out 6; have hfz55_7 := blk_frozen BK212.out 7; have hfz55_8 := blk_frozen BK212.out 8) | (go_at_call 17; (with_reducible refine (policy_Covers.calls kj28 a0_0 a0_1 a0_2 a0_3 a0_4 _ _ l0_5 a0_6 a0_7 a0_8 _ _ l1 a2 (wrap64 (a0_7 + 1)) t220 _ ?side1 ?side2 ?side3 ?side4 A52.out).mono ?_); (case side1 => repeat (first | exact (Kd.C_below HR0_5.out HB.out) | (with_reducible refine Kd.C_alloc ?_ _) | (with_reducible refine Kd.C_drewN ?_ _) | (with_reducible refine Kd.C_drew ?_))); (case side2 => exact HC0_5.out); (case side3 => repeat (first | exact (Kd.C_below HR1.out HB.out) | (with_reducible refine Kd.C_alloc ?_ _) | (with_reducible refine Kd.C_drewN ?_ _) | (with_reducible refine Kd.C_drew ?_))); (case side4 => exact HC1.out); rintro e w56 ⟨rfl, hb⟩; have n0_ := Aside0.mk (blk_below (g := gb212) (o := .cells #[.string a0_0, .string a0_1, .string a0_2, .int .i64 a0_3, .int .i64 a0_4, .slice A0_5 l0_5.length c0_5, .int .i64 a0_6, .int .i64 a0_7, .int .i64 a0_8] 24 (0, 0)) (by (with_reducible repeat (first | refine blk_drewN ?_ _ | refine blk_drew ?_ | refine blk_alloc ?_ _)); exact BK212.out) hb); have n1_ := Aside0.mk (below_step (by repeat (first | (with_reducible first | exact HB.out | apply below_alloc | apply pw_below_drewN | apply below_drew1 | refine below_set ?_ GE212.out) | exact HB.out)) hb); clear BK212; clear HB; have BK212 := n0_; have HB := n1_; clear n0_ n1_; (try clear hb); (try clear hb2); (try clear hk); (try clear hi)))
                  go_ret
                  exact ⟨by first | rfl | (simp [errW_none, errW_some] <;> rfl) | (simp [*, errW_none, errW_some] <;> rfl), by repeat (first | (with_reducible first | exact HB.out | apply below_alloc | apply pw_below_drewN | apply below_drew1 | refine below_set ?_ GE212.out) | exact HB.out)⟩
  · replace c8 := Bool.eq_false_iff.mpr c8
    subst c8
    have H1 : (some false) = some r := by rw [if_neg (show ¬ (false = true) by decide)] at H; exact H
    clear H
    have H := H1
    clear H1
    obtain rfl := Option.some.inj H
    go_enter Try.func7, Try.ntmps7
    go_wp2_with (first | ((with_reducible refine gate_dst (N := 6) rfl ?_); (try (refine gate_guard (by rfl) ?_; dsimp only)); refine box_event ?hg (N := 6) ?hd (cs := #[.string a0_0, .string a0_1, .string a0_2, .int .i64 a0_3, .int .i64 a0_4, .slice A0_5 l0_5.length c0_5, .int .i64 a0_6, .int .i64 a0_7, .int .i64 a0_8]) (t := 24) ?hr ?_; (case hd => rfl); (case hg => rfl); (case hr => first | (go_simp; done) | (go_simp; rfl)); intro gb212 hg w57 hbox hb; have n0_ := Aside0.mk (below_step (by repeat (first | (with_reducible first | exact HB.out | apply below_alloc | apply pw_below_drewN | apply below_drew1) | exact HB.out)) hb); have n1_ := Aside0.mk (hbox); have n2_ := Aside0.mk ((by rw [hg]; exact (below_size (by repeat (first | (with_reducible first | exact HB.out | apply below_alloc | apply pw_below_drewN | apply below_drew1) | exact HB.out))) : w.heap.size ≤ gb212)); have n3_ := Aside0.mk ((by rw [hg]; exact (below_size (by repeat (first | (with_reducible first | exact HB.out | apply below_alloc | apply pw_below_drewN | apply below_drew1) | exact HB.out))) : w.heap.size ≤ gb212)); clear HB; have HB := n0_; have BK212 := n1_; have GW212 := n2_; have GE212 := n3_; clear n0_ n1_ n2_ n3_; clear hb hbox hg) | ((with_reducible refine gate_callee (f := 8) rfl ?_); refine goesL_ (some 13) rfl rfl Try.func8 (by kernel_rfl) rfl #[] rfl (by (try simp only [List.map_toArray, List.map_cons, List.map_nil]); first | done | rfl | (simp only [List.length_drop, List.length_take]; rfl)) ?_; (with_reducible refine (supercargolaw42_awake.calls k  false _ A7.out).mono ?_); rintro e w58 ⟨rfl, hb⟩; refine ⟨_, rfl, ?_⟩; have n0_ := Aside0.mk (blk_below (g := gb212) (o := .cells #[.string a0_0, .string a0_1, .string a0_2, .int .i64 a0_3, .int .i64 a0_4, .slice A0_5 l0_5.length c0_5, .int .i64 a0_6, .int .i64 a0_7, .int .i64 a0_8] 24 (0, 0)) (by (with_reducible repeat (first | refine blk_drewN ?_ _ | refine blk_drew ?_ | refine blk_alloc ?_ _)); exact BK212.out) hb); have n1_ := Aside0.mk (below_step (by repeat (first | (with_reducible first | exact HB.out | apply below_alloc | apply pw_below_drewN | apply below_drew1 | refine below_set ?_ GE212.out) | exact HB.out)) hb); clear BK212; clear HB; have BK212 := n0_; have HB := n1_; clear n0_ n1_; (try clear hb); (try clear hb2); (try clear hk); (try clear hi)))
    go_ret
    exact ⟨by first | rfl | (simp [errW_none, errW_some] <;> rfl) | (simp [*, errW_none, errW_some] <;> rfl), by repeat (first | (with_reducible first | exact HB.out | apply below_alloc | apply pw_below_drewN | apply below_drew1 | refine below_set ?_ GE212.out) | exact HB.out)⟩

end Go.Proofs.Ytkjcblbpeoijhaa.G
