-- Printed by a program of this session's (wip/lab) after the kit's print: Lean checks it.
import Derived.Test.YtkjcblbpeoijhaaGx0
import Derived.Test.YtkjcblbpeoijhaaGx5
import Derived.Test.YtkjcblbpeoijhaaExt
namespace Go.Proofs.Ytkjcblbpeoijhaa.G
open Go.Proofs.Ytkjcblbpeoijhaa.Ext
open Go.RowKit Go.Proofs.YtkjcblbpeoijhaaW.PrintWords Go.Proofs.YtkjcblbpeoijhaaW.PrintLast Go.Proofs.YtkjcblbpeoijhaaW.PrintMore
attribute [local go_sem] max2_int min2_int max_two min_two max_three min_three max_four min_four   -- for this text's walks alone
set_option linter.unusedVariables false
set_option linter.unusedSimpArgs false

/-! ### supercargoref42_Way: function 28 -/
mutual
def supercargoref42_Way.l0 : Nat → List (S47) → Int → Int → Int → ByteArray → ByteArray → ByteArray → Int → Int → List Int → Int → Int → Int → Option (Bool)
  | 0, _, _, _, _, _, _, _, _, _, _, _, _, _ => none
  | k + 1, x1, x2, x7, x8, x196000, x196001, x196002, x196003, x196004, x196005, x196006, x196007, x196008 => if x8 < (x1.length : Int) then (if x7 < 0 then (if 0 ≤ x8 then (supercargoref42_Way.j1 k x1 x2 x7 x8 (((rd_T47 x1 x8).f3).toList == x196001.toList) x196000 x196001 x196002 x196003 x196004 x196005 x196006 x196007 x196008) else (none)) else (supercargoref42_Way.j1 k x1 x2 x7 x8 false x196000 x196001 x196002 x196003 x196004 x196005 x196006 x196007 x196008)) else (some (decide (x7 ≥ 0)))
def supercargoref42_Way.j1 : Nat → List (S47) → Int → Int → Int → Bool → ByteArray → ByteArray → ByteArray → Int → Int → List Int → Int → Int → Int → Option (Bool)
  | 0, _, _, _, _, _, _, _, _, _, _, _, _, _, _ => none
  | k + 1, x1, x2, x7, x8, x26, x196000, x196001, x196002, x196003, x196004, x196005, x196006, x196007, x196008 => if x26 = true then (if 0 ≤ x8 then (if x8 < (x1.length : Int) then (if x2 < ((rd_T47 x1 x8).f4) then (some false) else (supercargoref42_Way.l0 k x1 x2 x8 (wrap64 (x8 + 1)) x196000 x196001 x196002 x196003 x196004 x196005 x196006 x196007 x196008)) else (none)) else (none)) else (if x7 ≥ 0 then (if 0 ≤ x8 then (if x8 < (x1.length : Int) then (if ((rd_T47 x1 x8).f3).toList = x196002.toList then (some (decide (x2 ≤ ((rd_T47 x1 x8).f4)))) else (supercargoref42_Way.l0 k x1 x2 x7 (wrap64 (x8 + 1)) x196000 x196001 x196002 x196003 x196004 x196005 x196006 x196007 x196008)) else (none)) else (none)) else (supercargoref42_Way.l0 k x1 x2 x7 (wrap64 (x8 + 1)) x196000 x196001 x196002 x196003 x196004 x196005 x196006 x196007 x196008))
end
def supercargoref42_Way.f (k : Nat) (a0_0 : ByteArray) (a0_1 : ByteArray) (a0_2 : ByteArray) (a0_3 : Int) (a0_4 : Int) (l0_5 : List Int) (a0_6 : Int) (a0_7 : Int) (a0_8 : Int) (l1 : List (S47)) (a2 : Int) : Option (Bool) := supercargoref42_Way.l0 k l1 a2 (-1) 0 a0_0 a0_1 a0_2 a0_3 a0_4 l0_5 a0_6 a0_7 a0_8
theorem supercargoref42_Way.mono_l : ∀ k, (∀ y0 y1 y2 y3 y4 y5 y6 y7 y8 y9 y10 y11 y12, LeO (supercargoref42_Way.l0 k y0 y1 y2 y3 y4 y5 y6 y7 y8 y9 y10 y11 y12) (supercargoref42_Way.l0 (k + 1) y0 y1 y2 y3 y4 y5 y6 y7 y8 y9 y10 y11 y12)) ∧ (∀ y0 y1 y2 y3 y4 y5 y6 y7 y8 y9 y10 y11 y12 y13, LeO (supercargoref42_Way.j1 k y0 y1 y2 y3 y4 y5 y6 y7 y8 y9 y10 y11 y12 y13) (supercargoref42_Way.j1 (k + 1) y0 y1 y2 y3 y4 y5 y6 y7 y8 y9 y10 y11 y12 y13))
  | 0 => ⟨fun _ _ _ _ _ _ _ _ _ _ _ _ _ r h => by simp [supercargoref42_Way.l0] at h, fun _ _ _ _ _ _ _ _ _ _ _ _ _ _ r h => by simp [supercargoref42_Way.j1] at h⟩
  | k + 1 => by
    obtain ⟨ih0, ih1⟩ := supercargoref42_Way.mono_l k
    refine ⟨?_, ?_⟩
    · intro y0 y1 y2 y3 y4 y5 y6 y7 y8 y9 y10 y11 y12
      unfold supercargoref42_Way.l0
      repeat' first
      | (with_reducible exact ih0 _ _ _ _ _ _ _ _ _ _ _ _ _)
      | (with_reducible exact ih1 _ _ _ _ _ _ _ _ _ _ _ _ _ _)
      | (with_reducible exact LeO.refl _)
      | (with_reducible exact LeO.none _)
      | (with_reducible refine LeO.ite ?_ ?_)
      | (with_reducible refine LeO.bind ?_ (fun _ => ?_))
      | exact ih0 _ _ _ _ _ _ _ _ _ _ _ _ _
      | exact ih1 _ _ _ _ _ _ _ _ _ _ _ _ _ _
      | exact LeO.none _
      | refine LeO.ite ?_ ?_
      | refine LeO.bind ?_ (fun _ => ?_)
    · intro y0 y1 y2 y3 y4 y5 y6 y7 y8 y9 y10 y11 y12 y13
      unfold supercargoref42_Way.j1
      repeat' first
      | (with_reducible exact ih0 _ _ _ _ _ _ _ _ _ _ _ _ _)
      | (with_reducible exact ih1 _ _ _ _ _ _ _ _ _ _ _ _ _ _)
      | (with_reducible exact LeO.refl _)
      | (with_reducible exact LeO.none _)
      | (with_reducible refine LeO.ite ?_ ?_)
      | (with_reducible refine LeO.bind ?_ (fun _ => ?_))
      | exact ih0 _ _ _ _ _ _ _ _ _ _ _ _ _
      | exact ih1 _ _ _ _ _ _ _ _ _ _ _ _ _ _
      | exact LeO.none _
      | refine LeO.ite ?_ ?_
      | refine LeO.bind ?_ (fun _ => ?_)
theorem supercargoref42_Way.mono : ∀ a0 a1 a2 a3 a4 a5 a6 a7 a8 a9 a10 k, LeO (supercargoref42_Way.f k a0 a1 a2 a3 a4 a5 a6 a7 a8 a9 a10) (supercargoref42_Way.f (k + 1) a0 a1 a2 a3 a4 a5 a6 a7 a8 a9 a10) := by
  intro a0 a1 a2 a3 a4 a5 a6 a7 a8 a9 a10 k
  obtain ⟨ih0, ih1⟩ := supercargoref42_Way.mono_l k
  unfold supercargoref42_Way.f
  repeat' first
      | (with_reducible exact ih0 _ _ _ _ _ _ _ _ _ _ _ _ _)
      | (with_reducible exact ih1 _ _ _ _ _ _ _ _ _ _ _ _ _ _)
      | (with_reducible exact LeO.refl _)
      | (with_reducible exact LeO.none _)
      | (with_reducible refine LeO.ite ?_ ?_)
      | (with_reducible refine LeO.bind ?_ (fun _ => ?_))
      | exact ih0 _ _ _ _ _ _ _ _ _ _ _ _ _
      | exact ih1 _ _ _ _ _ _ _ _ _ _ _ _ _ _
      | exact LeO.none _
      | refine LeO.ite ?_ ?_
      | refine LeO.bind ?_ (fun _ => ?_)
set_option maxHeartbeats 8000000 in
set_option maxRecDepth 100000 in
theorem supercargoref42_Way.calls (k : Nat) (a0_0 : ByteArray) (a0_1 : ByteArray) (a0_2 : ByteArray) (a0_3 : Int) (a0_4 : Int) (A0_5 : Option Addr) (c0_5 : Nat) (l0_5 : List Int) (a0_6 : Int) (a0_7 : Int) (a0_8 : Int) (A1 : Option Addr) (c1 : Nat) (l1 : List (S47)) (a2 : Int) (r : Bool) (w : World) (hr0_5 : Kd.C (Kd.int .i64) w A0_5 l0_5.length l0_5) (hc0_5 : l0_5.length ≤ c0_5) (hr1 : Kd.C k47 w A1 l1.length l1) (hc1 : l1.length ≤ c1) (h : supercargoref42_Way.f k a0_0 a0_1 a0_2 a0_3 a0_4 l0_5 a0_6 a0_7 a0_8 l1 a2 = some r) :
    Calls Try.prog 28 #[.agg #[.string a0_0, .string a0_1, .string a0_2, .int .i64 a0_3, .int .i64 a0_4, .slice A0_5 l0_5.length c0_5, .int .i64 a0_6, .int .i64 a0_7, .int .i64 a0_8], .slice A1 l1.length c1, .int .i64 a2] w fun e w' => e = .returned (.bool r) ∧ Below w.heap.size w w' := by
  have hu24 := Try.underlying24
  have HR0_5 := Aside0.mk hr0_5
  have HC0_5 := Aside0.mk hc0_5
  clear hr0_5 hc0_5
  have HR1 := Aside0.mk hr1
  have HC1 := Aside0.mk hc1
  clear hr1 hc1
  have HB := Aside0.mk (Below.refl w.heap.size w)
  have H : (supercargoref42_Way.l0 k l1 a2 (-1) 0 a0_0 a0_1 a0_2 a0_3 a0_4 l0_5 a0_6 a0_7 a0_8) = some r := h
  clear h
  have H' := Aside0.mk H
  clear H
  go_enter Try.func28, Try.ntmps28
  go_wp2_with (first | ((with_reducible refine gate_dst (N := 3) rfl ?_); refine box_event ?hg (N := 3) ?hd (cs := #[.string a0_0, .string a0_1, .string a0_2, .int .i64 a0_3, .int .i64 a0_4, .slice A0_5 l0_5.length c0_5, .int .i64 a0_6, .int .i64 a0_7, .int .i64 a0_8]) (t := 24) ?hr ?_; (case hd => rfl); (case hg => rfl); (case hr => first | (go_simp; done) | (go_simp; rfl)); intro gb195 hg w4 hbox hb; have n0_ := Aside0.mk (below_step (by repeat (first | (with_reducible first | exact HB.out | apply below_alloc | apply pw_below_drewN | apply below_drew1) | exact HB.out)) hb); have n1_ := Aside0.mk (hbox); have n2_ := Aside0.mk ((by rw [hg]; exact (below_size (by repeat (first | (with_reducible first | exact HB.out | apply below_alloc | apply pw_below_drewN | apply below_drew1) | exact HB.out))) : w.heap.size ≤ gb195)); have n3_ := Aside0.mk ((by rw [hg]; exact (below_size (by repeat (first | (with_reducible first | exact HB.out | apply below_alloc | apply pw_below_drewN | apply below_drew1) | exact HB.out))) : w.heap.size ≤ gb195)); clear HB; have HB := n0_; have BK195 := n1_; have GW195 := n2_; have GE195 := n3_; clear n0_ n1_ n2_ n3_; clear hb hbox hg))
  repeat (go_quiet (first | ((with_reducible refine gate_dst (N := 3) rfl ?_); refine box_event ?hg (N := 3) ?hd (cs := #[.string a0_0, .string a0_1, .string a0_2, .int .i64 a0_3, .int .i64 a0_4, .slice A0_5 l0_5.length c0_5, .int .i64 a0_6, .int .i64 a0_7, .int .i64 a0_8]) (t := 24) ?hr ?_; (case hd => rfl); (case hg => rfl); (case hr => first | (go_simp; done) | (go_simp; rfl)); intro gb195 hg w4 hbox hb; have n0_ := Aside0.mk (below_step (by repeat (first | (with_reducible first | exact HB.out | apply below_alloc | apply pw_below_drewN | apply below_drew1) | exact HB.out)) hb); have n1_ := Aside0.mk (hbox); have n2_ := Aside0.mk ((by rw [hg]; exact (below_size (by repeat (first | (with_reducible first | exact HB.out | apply below_alloc | apply pw_below_drewN | apply below_drew1) | exact HB.out))) : w.heap.size ≤ gb195)); have n3_ := Aside0.mk ((by rw [hg]; exact (below_size (by repeat (first | (with_reducible first | exact HB.out | apply below_alloc | apply pw_below_drewN | apply below_drew1) | exact HB.out))) : w.heap.size ≤ gb195)); clear HB; have HB := n0_; have BK195 := n1_; have GW195 := n2_; have GE195 := n3_; clear n0_ n1_ n2_ n3_; clear hb hbox hg)); try go_wp2_with (first | ((with_reducible refine gate_dst (N := 3) rfl ?_); refine box_event ?hg (N := 3) ?hd (cs := #[.string a0_0, .string a0_1, .string a0_2, .int .i64 a0_3, .int .i64 a0_4, .slice A0_5 l0_5.length c0_5, .int .i64 a0_6, .int .i64 a0_7, .int .i64 a0_8]) (t := 24) ?hr ?_; (case hd => rfl); (case hg => rfl); (case hr => first | (go_simp; done) | (go_simp; rfl)); intro gb195 hg w4 hbox hb; have n0_ := Aside0.mk (below_step (by repeat (first | (with_reducible first | exact HB.out | apply below_alloc | apply pw_below_drewN | apply below_drew1) | exact HB.out)) hb); have n1_ := Aside0.mk (hbox); have n2_ := Aside0.mk ((by rw [hg]; exact (below_size (by repeat (first | (with_reducible first | exact HB.out | apply below_alloc | apply pw_below_drewN | apply below_drew1) | exact HB.out))) : w.heap.size ≤ gb195)); have n3_ := Aside0.mk ((by rw [hg]; exact (below_size (by repeat (first | (with_reducible first | exact HB.out | apply below_alloc | apply pw_below_drewN | apply below_drew1) | exact HB.out))) : w.heap.size ≤ gb195)); clear HB; have HB := n0_; have BK195 := n1_; have GW195 := n2_; have GE195 := n3_; clear n0_ n1_ n2_ n3_; clear hb hbox hg)))
  go_loopg [7, 8] k (fun kq v7 v8 w' => ∃ (x7_1 : Int) (x8_1 : Int), v7 = .int .i64 x7_1 ∧ v8 = .int .i64 x8_1 ∧ Aside0 (supercargoref42_Way.l0 kq l1 a2 x7_1 x8_1 a0_0 a0_1 a0_2 a0_3 a0_4 l0_5 a0_6 a0_7 a0_8 = some r) ∧ Aside0 (kq ≤ k) ∧ Aside0 (w'.heap[gb195]? = some (.cells #[.string a0_0, .string a0_1, .string a0_2, .int .i64 a0_3, .int .i64 a0_4, (.slice A0_5 l0_5.length c0_5), .int .i64 a0_6, .int .i64 a0_7, .int .i64 a0_8] 24 (0, 0))) ∧ Aside0 (Below w.heap.size w w'))
  case atStart => exact ⟨((-1)), (0), (by first | rfl | (simp; done) | (simp [*]; done)), (by first | rfl | (simp; done) | (simp [*]; done)), H', ⟨Nat.le_refl _⟩, ⟨by (with_reducible repeat (first | refine blk_drewN ?_ _ | refine blk_drew ?_ | refine blk_alloc ?_ _)); exact BK195.out⟩, ⟨by repeat (first | (with_reducible first | exact HB.out | apply below_alloc | apply pw_below_drewN | apply below_drew1 | refine below_set ?_ GE195.out) | exact HB.out)⟩⟩
  case round =>
    clear H'
    try clear c1
    try clear c2
    try clear p2
    obtain ⟨x7_1, x8_1, rfl, rfl, HA, HK1, BK195, HB⟩ := hrel
    cases gk with
    | zero => exact absurd HA.out (by simp [supercargoref42_Way.l0])
    | succ k1 =>
      have H := HA.out
      clear HA
      simp only [supercargoref42_Way.l0] at H
      by_cases c5 : x8_1 < (l1.length : Int)
      · rw [if_pos c5] at H
        have c5b0 : decide (x8_1 < (l1.length : Int)) = true := decide_eq_true c5
        clear c5
        have HC6 := Aside0.mk H
        clear H
        go_upto_region 5 with (fail)
        repeat (go_quiet (fail); go_upto_region 5 with (fail))
        go_cut [26] (fun v26 wc => ∃ (kq : Nat) (x26_5 : Bool), v26 = .bool x26_5 ∧ Aside0 (supercargoref42_Way.j1 kq l1 a2 x7_1 x8_1 x26_5 a0_0 a0_1 a0_2 a0_3 a0_4 l0_5 a0_6 a0_7 a0_8 = some r) ∧ Aside0 (kq ≤ k1) ∧ Aside0 (wc.heap[gb195]? = some (.cells #[.string a0_0, .string a0_1, .string a0_2, .int .i64 a0_3, .int .i64 a0_4, (.slice A0_5 l0_5.length c0_5), .int .i64 a0_6, .int .i64 a0_7, .int .i64 a0_8] 24 (0, 0))) ∧ Aside0 (Below w.heap.size w wc))
        case first =>
          have H := HC6.out
          clear HC6
          by_cases c7 : x7_1 < 0
          · rw [if_pos c7] at H
            have c7b0 : decide (x7_1 < 0) = true := decide_eq_true c7
            clear c7
            (first | rw [c7b0] | (simp only [i64_w, i32_w]; rw [c7b0]) | skip)
            by_cases c8 : 0 ≤ x8_1
            · rw [if_pos c8] at H
              have c8b0 : decide (0 ≤ x8_1) = true := decide_eq_true c8
              clear c8
              have H' := Aside0.mk H
              clear H
              have p196 : 0 ≤ (x8_1 : Int) := of_decide_eq_true (by first | (with_reducible assumption) | assumption)
              have q196 : x8_1 < (l1.length : Int) := of_decide_eq_true (by first | (with_reducible assumption) | assumption)
              obtain ⟨ad196, e196, hx196_0, hx196_1, hx196_2, hx196_3, hx196_4⟩ := at_T47 HR1.out x8_1 p196 q196
              cases e196
              replace hx196_0 := (HB.out.cell (World.block_lt_of_cell? w _ hx196_0)).trans hx196_0
              replace hx196_1 := (HB.out.cell (World.block_lt_of_cell? w _ hx196_1)).trans hx196_1
              replace hx196_2 := (HB.out.cell (World.block_lt_of_cell? w _ hx196_2)).trans hx196_2
              replace hx196_3 := (HB.out.cell (World.block_lt_of_cell? w _ hx196_3)).trans hx196_3
              replace hx196_4 := (HB.out.cell (World.block_lt_of_cell? w _ hx196_4)).trans hx196_4
              replace p196 := eq_true p196
              replace q196 := eq_true q196
              have hcz9_0 : wr.cell? ⟨gb195, 0, none⟩ = some (.string a0_0) := (blk_cell BK195.out 0).trans rfl
              have hcz9_1 : wr.cell? ⟨gb195, 1, none⟩ = some (.string a0_1) := (blk_cell BK195.out 1).trans rfl
              have hcz9_2 : wr.cell? ⟨gb195, 2, none⟩ = some (.string a0_2) := (blk_cell BK195.out 2).trans rfl
              have hcz9_3 : wr.cell? ⟨gb195, 3, none⟩ = some (.int .i64 a0_3) := (blk_cell BK195.out 3).trans rfl
              have hcz9_4 : wr.cell? ⟨gb195, 4, none⟩ = some (.int .i64 a0_4) := (blk_cell BK195.out 4).trans rfl
              have hcz9_5 : wr.cell? ⟨gb195, 5, none⟩ = some (.slice A0_5 l0_5.length c0_5) := (blk_cell BK195.out 5).trans rfl
              have hcz9_6 : wr.cell? ⟨gb195, 6, none⟩ = some (.int .i64 a0_6) := (blk_cell BK195.out 6).trans rfl
              have hcz9_7 : wr.cell? ⟨gb195, 7, none⟩ = some (.int .i64 a0_7) := (blk_cell BK195.out 7).trans rfl
              have hcz9_8 : wr.cell? ⟨gb195, 8, none⟩ = some (.int .i64 a0_8) := (blk_cell BK195.out 8).trans rfl
              have hfz9_0 := blk_frozen BK195.out 0
              have hfz9_1 := blk_frozen BK195.out 1
              have hfz9_2 := blk_frozen BK195.out 2
              have hfz9_3 := blk_frozen BK195.out 3
              have hfz9_4 := blk_frozen BK195.out 4
              have hfz9_5 := blk_frozen BK195.out 5
              have hfz9_6 := blk_frozen BK195.out 6
              have hfz9_7 := blk_frozen BK195.out 7
              have hfz9_8 := blk_frozen BK195.out 8
              go_wp2
              repeat (go_quiet (fail); try go_wp2)
              go_meet
              case rel => exact ⟨_, ((((rd_T47 l1 x8_1).f3).toList == a0_1.toList)), (by first | rfl | (simp; done) | (simp [*]; done)), H', ⟨by have := HK1.out; first | omega | exact Nat.le_refl _⟩, ⟨by (with_reducible repeat (first | refine blk_drewN ?_ _ | refine blk_drew ?_ | refine blk_alloc ?_ _)); exact BK195.out⟩, ⟨by repeat (first | (with_reducible first | exact HB.out | apply below_alloc | apply pw_below_drewN | apply below_drew1 | refine below_set ?_ GE195.out) | exact HB.out)⟩⟩
            · rw [if_neg c8] at H
              exact absurd H (by simp)
          · rw [if_neg c7] at H
            have c7b0 : decide (x7_1 < 0) = false := decide_eq_false c7
            clear c7
            (first | rw [c7b0] | (simp only [i64_w, i32_w]; rw [c7b0]) | skip)
            have H' := Aside0.mk H
            clear H
            go_wp2
            repeat (go_quiet (fail); try go_wp2)
            go_meet
            case rel => exact ⟨_, (false), (by first | rfl | (simp; done) | (simp [*]; done)), H', ⟨by have := HK1.out; first | omega | exact Nat.le_refl _⟩, ⟨by (with_reducible repeat (first | refine blk_drewN ?_ _ | refine blk_drew ?_ | refine blk_alloc ?_ _)); exact BK195.out⟩, ⟨by repeat (first | (with_reducible first | exact HB.out | apply below_alloc | apply pw_below_drewN | apply below_drew1 | refine below_set ?_ GE195.out) | exact HB.out)⟩⟩
        case rest =>
          clear HC6
          try clear c1
          try clear p1
          try clear q1
          try clear hx1
          try clear c2
          try clear p2
          try clear c5
          try clear c5b0
          try clear c7
          try clear c7b0
          try clear c8
          try clear c8b0
          try clear hcz9_0
          try clear hcz9_1
          try clear hcz9_2
          try clear hcz9_3
          try clear hcz9_4
          try clear hcz9_5
          try clear hcz9_6
          try clear hcz9_7
          try clear hcz9_8
          try clear hfz9_0
          try clear hfz9_1
          try clear hfz9_2
          try clear hfz9_3
          try clear hfz9_4
          try clear hfz9_5
          try clear hfz9_6
          try clear hfz9_7
          try clear hfz9_8
          try clear hx196_0
          try clear hx196_1
          try clear hx196_2
          try clear hx196_3
          try clear hx196_4
          try clear p196
          try clear p2
          try clear q196
          obtain ⟨kq, x26_5, rfl, HA, HJ5, BK195, HB⟩ := hcut
          cases kq with
          | zero => exact absurd HA.out (by simp [supercargoref42_Way.j1])
          | succ kj5 =>
            have H := HA.out
            clear HA
            simp only [supercargoref42_Way.j1] at H
            by_cases c10 : x26_5 = true
            · subst c10
              have H1 : (if 0 ≤ x8_1 then (if x8_1 < (l1.length : Int) then (if a2 < ((rd_T47 l1 x8_1).f4) then (some false) else (supercargoref42_Way.l0 kj5 l1 a2 x8_1 (wrap64 (x8_1 + 1)) a0_0 a0_1 a0_2 a0_3 a0_4 l0_5 a0_6 a0_7 a0_8)) else (none)) else (none)) = some r := by rw [if_pos rfl] at H; exact H
              clear H
              have H := H1
              clear H1
              by_cases c11 : 0 ≤ x8_1
              · rw [if_pos c11] at H
                have c11b0 : decide (0 ≤ x8_1) = true := decide_eq_true c11
                clear c11
                by_cases c12 : x8_1 < (l1.length : Int)
                · rw [if_pos c12] at H
                  have c12b0 : decide (x8_1 < (l1.length : Int)) = true := decide_eq_true c12
                  clear c12
                  by_cases c13 : a2 < ((rd_T47 l1 x8_1).f4)
                  · rw [if_pos c13] at H
                    have c13b0 : decide (a2 < ((rd_T47 l1 x8_1).f4)) = true := decide_eq_true c13
                    clear c13
                    obtain rfl := Option.some.inj H
                    have p197 : 0 ≤ (x8_1 : Int) := of_decide_eq_true (by first | (with_reducible assumption) | assumption)
                    have q197 : x8_1 < (l1.length : Int) := of_decide_eq_true (by first | (with_reducible assumption) | assumption)
                    obtain ⟨ad197, e197, hx197_0, hx197_1, hx197_2, hx197_3, hx197_4⟩ := at_T47 HR1.out x8_1 p197 q197
                    cases e197
                    replace hx197_0 := (HB.out.cell (World.block_lt_of_cell? w _ hx197_0)).trans hx197_0
                    replace hx197_1 := (HB.out.cell (World.block_lt_of_cell? w _ hx197_1)).trans hx197_1
                    replace hx197_2 := (HB.out.cell (World.block_lt_of_cell? w _ hx197_2)).trans hx197_2
                    replace hx197_3 := (HB.out.cell (World.block_lt_of_cell? w _ hx197_3)).trans hx197_3
                    replace hx197_4 := (HB.out.cell (World.block_lt_of_cell? w _ hx197_4)).trans hx197_4
                    replace p197 := eq_true p197
                    replace q197 := eq_true q197
                    go_wp2
                    repeat (go_quiet (fail); try go_wp2)
                    go_ret
                    exact ⟨by first | rfl | (simp [errW_none, errW_some] <;> rfl) | (simp [*, errW_none, errW_some] <;> rfl), by repeat (first | (with_reducible first | exact HB.out | apply below_alloc | apply pw_below_drewN | apply below_drew1 | refine below_set ?_ GE195.out) | exact HB.out)⟩
                  · rw [if_neg c13] at H
                    have c13b0 : decide (a2 < ((rd_T47 l1 x8_1).f4)) = false := decide_eq_false c13
                    clear c13
                    have H' := Aside0.mk H
                    clear H
                    have p197 : 0 ≤ (x8_1 : Int) := of_decide_eq_true (by first | (with_reducible assumption) | assumption)
                    have q197 : x8_1 < (l1.length : Int) := of_decide_eq_true (by first | (with_reducible assumption) | assumption)
                    obtain ⟨ad197, e197, hx197_0, hx197_1, hx197_2, hx197_3, hx197_4⟩ := at_T47 HR1.out x8_1 p197 q197
                    cases e197
                    replace hx197_0 := (HB.out.cell (World.block_lt_of_cell? w _ hx197_0)).trans hx197_0
                    replace hx197_1 := (HB.out.cell (World.block_lt_of_cell? w _ hx197_1)).trans hx197_1
                    replace hx197_2 := (HB.out.cell (World.block_lt_of_cell? w _ hx197_2)).trans hx197_2
                    replace hx197_3 := (HB.out.cell (World.block_lt_of_cell? w _ hx197_3)).trans hx197_3
                    replace hx197_4 := (HB.out.cell (World.block_lt_of_cell? w _ hx197_4)).trans hx197_4
                    replace p197 := eq_true p197
                    replace q197 := eq_true q197
                    go_wp2
                    repeat (go_quiet (fail); try go_wp2)
                    go_roundg kj5
                    case measure => have := HK1.out; have := HJ5.out; omega
                    case rel => exact ⟨(x8_1), (wrap64 (x8_1 + 1)), (by first | rfl | (simp; done) | (simp [*]; done)), (by first | rfl | (simp; done) | (simp [*]; done)), H', ⟨by have := HK1.out; have := HJ5.out; omega⟩, ⟨by (with_reducible repeat (first | refine blk_drewN ?_ _ | refine blk_drew ?_ | refine blk_alloc ?_ _)); exact BK195.out⟩, ⟨by repeat (first | (with_reducible first | exact HB.out | apply below_alloc | apply pw_below_drewN | apply below_drew1 | refine below_set ?_ GE195.out) | exact HB.out)⟩⟩
                · rw [if_neg c12] at H
                  exact absurd H (by simp)
              · rw [if_neg c11] at H
                exact absurd H (by simp)
            · replace c10 := Bool.eq_false_iff.mpr c10
              subst c10
              have H1 : (if x7_1 ≥ 0 then (if 0 ≤ x8_1 then (if x8_1 < (l1.length : Int) then (if ((rd_T47 l1 x8_1).f3).toList = a0_2.toList then (some (decide (a2 ≤ ((rd_T47 l1 x8_1).f4)))) else (supercargoref42_Way.l0 kj5 l1 a2 x7_1 (wrap64 (x8_1 + 1)) a0_0 a0_1 a0_2 a0_3 a0_4 l0_5 a0_6 a0_7 a0_8)) else (none)) else (none)) else (supercargoref42_Way.l0 kj5 l1 a2 x7_1 (wrap64 (x8_1 + 1)) a0_0 a0_1 a0_2 a0_3 a0_4 l0_5 a0_6 a0_7 a0_8)) = some r := by rw [if_neg (show ¬ (false = true) by decide)] at H; exact H
              clear H
              have H := H1
              clear H1
              by_cases c14 : x7_1 ≥ 0
              · rw [if_pos c14] at H
                have c14b0 : decide (0 ≤ x7_1) = true := decide_eq_true c14
                clear c14
                by_cases c15 : 0 ≤ x8_1
                · rw [if_pos c15] at H
                  have c15b0 : decide (0 ≤ x8_1) = true := decide_eq_true c15
                  clear c15
                  by_cases c16 : x8_1 < (l1.length : Int)
                  · rw [if_pos c16] at H
                    have c16b0 : decide (x8_1 < (l1.length : Int)) = true := decide_eq_true c16
                    clear c16
                    by_cases c17 : ((rd_T47 l1 x8_1).f3).toList = a0_2.toList
                    · rw [if_pos c17] at H
                      have c17b0 : (((rd_T47 l1 x8_1).f3).toList == a0_2.toList) = true := beq_iff_eq.mpr c17
                      have c17b1 : (((rd_T47 l1 x8_1).f3).toList != a0_2.toList) = false := bne_eq_false_iff_eq.mpr c17
                      clear c17
                      obtain rfl := Option.some.inj H
                      have p198 : 0 ≤ (x8_1 : Int) := of_decide_eq_true (by first | (with_reducible assumption) | assumption)
                      have q198 : x8_1 < (l1.length : Int) := of_decide_eq_true (by first | (with_reducible assumption) | assumption)
                      obtain ⟨ad198, e198, hx198_0, hx198_1, hx198_2, hx198_3, hx198_4⟩ := at_T47 HR1.out x8_1 p198 q198
                      cases e198
                      replace hx198_0 := (HB.out.cell (World.block_lt_of_cell? w _ hx198_0)).trans hx198_0
                      replace hx198_1 := (HB.out.cell (World.block_lt_of_cell? w _ hx198_1)).trans hx198_1
                      replace hx198_2 := (HB.out.cell (World.block_lt_of_cell? w _ hx198_2)).trans hx198_2
                      replace hx198_3 := (HB.out.cell (World.block_lt_of_cell? w _ hx198_3)).trans hx198_3
                      replace hx198_4 := (HB.out.cell (World.block_lt_of_cell? w _ hx198_4)).trans hx198_4
                      replace p198 := eq_true p198
                      replace q198 := eq_true q198
                      have hcz18_0 : wc.cell? ⟨gb195, 0, none⟩ = some (.string a0_0) := (blk_cell BK195.out 0).trans rfl
                      have hcz18_1 : wc.cell? ⟨gb195, 1, none⟩ = some (.string a0_1) := (blk_cell BK195.out 1).trans rfl
                      have hcz18_2 : wc.cell? ⟨gb195, 2, none⟩ = some (.string a0_2) := (blk_cell BK195.out 2).trans rfl
                      have hcz18_3 : wc.cell? ⟨gb195, 3, none⟩ = some (.int .i64 a0_3) := (blk_cell BK195.out 3).trans rfl
                      have hcz18_4 : wc.cell? ⟨gb195, 4, none⟩ = some (.int .i64 a0_4) := (blk_cell BK195.out 4).trans rfl
                      have hcz18_5 : wc.cell? ⟨gb195, 5, none⟩ = some (.slice A0_5 l0_5.length c0_5) := (blk_cell BK195.out 5).trans rfl
                      have hcz18_6 : wc.cell? ⟨gb195, 6, none⟩ = some (.int .i64 a0_6) := (blk_cell BK195.out 6).trans rfl
                      have hcz18_7 : wc.cell? ⟨gb195, 7, none⟩ = some (.int .i64 a0_7) := (blk_cell BK195.out 7).trans rfl
                      have hcz18_8 : wc.cell? ⟨gb195, 8, none⟩ = some (.int .i64 a0_8) := (blk_cell BK195.out 8).trans rfl
                      have hfz18_0 := blk_frozen BK195.out 0
                      have hfz18_1 := blk_frozen BK195.out 1
                      have hfz18_2 := blk_frozen BK195.out 2
                      have hfz18_3 := blk_frozen BK195.out 3
                      have hfz18_4 := blk_frozen BK195.out 4
                      have hfz18_5 := blk_frozen BK195.out 5
                      have hfz18_6 := blk_frozen BK195.out 6
                      have hfz18_7 := blk_frozen BK195.out 7
                      have hfz18_8 := blk_frozen BK195.out 8
                      have p199 : 0 ≤ (x8_1 : Int) := of_decide_eq_true (by first | (with_reducible assumption) | assumption)
                      have q199 : x8_1 < (l1.length : Int) := of_decide_eq_true (by first | (with_reducible assumption) | assumption)
                      obtain ⟨ad199, e199, hx199_0, hx199_1, hx199_2, hx199_3, hx199_4⟩ := at_T47 HR1.out x8_1 p199 q199
                      obtain rfl : ad198 = ad199 := (by injection e199)
                      replace hx199_0 := (HB.out.cell (World.block_lt_of_cell? w _ hx199_0)).trans hx199_0
                      replace hx199_1 := (HB.out.cell (World.block_lt_of_cell? w _ hx199_1)).trans hx199_1
                      replace hx199_2 := (HB.out.cell (World.block_lt_of_cell? w _ hx199_2)).trans hx199_2
                      replace hx199_3 := (HB.out.cell (World.block_lt_of_cell? w _ hx199_3)).trans hx199_3
                      replace hx199_4 := (HB.out.cell (World.block_lt_of_cell? w _ hx199_4)).trans hx199_4
                      replace p199 := eq_true p199
                      replace q199 := eq_true q199
                      go_wp2
                      repeat (go_quiet (fail); try go_wp2)
                      go_ret
                      exact ⟨by first | rfl | (simp [errW_none, errW_some] <;> rfl) | (simp [*, errW_none, errW_some] <;> rfl), by repeat (first | (with_reducible first | exact HB.out | apply below_alloc | apply pw_below_drewN | apply below_drew1 | refine below_set ?_ GE195.out) | exact HB.out)⟩
                    · rw [if_neg c17] at H
                      have c17b0 : (((rd_T47 l1 x8_1).f3).toList == a0_2.toList) = false := beq_eq_false_iff_ne.mpr c17
                      have c17b1 : (((rd_T47 l1 x8_1).f3).toList != a0_2.toList) = true := bne_iff_ne.mpr c17
                      have H' := Aside0.mk H
                      clear H
                      have p198 : 0 ≤ (x8_1 : Int) := of_decide_eq_true (by first | (with_reducible assumption) | assumption)
                      have q198 : x8_1 < (l1.length : Int) := of_decide_eq_true (by first | (with_reducible assumption) | assumption)
                      obtain ⟨ad198, e198, hx198_0, hx198_1, hx198_2, hx198_3, hx198_4⟩ := at_T47 HR1.out x8_1 p198 q198
                      cases e198
                      replace hx198_0 := (HB.out.cell (World.block_lt_of_cell? w _ hx198_0)).trans hx198_0
                      replace hx198_1 := (HB.out.cell (World.block_lt_of_cell? w _ hx198_1)).trans hx198_1
                      replace hx198_2 := (HB.out.cell (World.block_lt_of_cell? w _ hx198_2)).trans hx198_2
                      replace hx198_3 := (HB.out.cell (World.block_lt_of_cell? w _ hx198_3)).trans hx198_3
                      replace hx198_4 := (HB.out.cell (World.block_lt_of_cell? w _ hx198_4)).trans hx198_4
                      replace p198 := eq_true p198
                      replace q198 := eq_true q198
                      have hcz19_0 : wc.cell? ⟨gb195, 0, none⟩ = some (.string a0_0) := (blk_cell BK195.out 0).trans rfl
                      have hcz19_1 : wc.cell? ⟨gb195, 1, none⟩ = some (.string a0_1) := (blk_cell BK195.out 1).trans rfl
                      have hcz19_2 : wc.cell? ⟨gb195, 2, none⟩ = some (.string a0_2) := (blk_cell BK195.out 2).trans rfl
                      have hcz19_3 : wc.cell? ⟨gb195, 3, none⟩ = some (.int .i64 a0_3) := (blk_cell BK195.out 3).trans rfl
                      have hcz19_4 : wc.cell? ⟨gb195, 4, none⟩ = some (.int .i64 a0_4) := (blk_cell BK195.out 4).trans rfl
                      have hcz19_5 : wc.cell? ⟨gb195, 5, none⟩ = some (.slice A0_5 l0_5.length c0_5) := (blk_cell BK195.out 5).trans rfl
                      have hcz19_6 : wc.cell? ⟨gb195, 6, none⟩ = some (.int .i64 a0_6) := (blk_cell BK195.out 6).trans rfl
                      have hcz19_7 : wc.cell? ⟨gb195, 7, none⟩ = some (.int .i64 a0_7) := (blk_cell BK195.out 7).trans rfl
                      have hcz19_8 : wc.cell? ⟨gb195, 8, none⟩ = some (.int .i64 a0_8) := (blk_cell BK195.out 8).trans rfl
                      have hfz19_0 := blk_frozen BK195.out 0
                      have hfz19_1 := blk_frozen BK195.out 1
                      have hfz19_2 := blk_frozen BK195.out 2
                      have hfz19_3 := blk_frozen BK195.out 3
                      have hfz19_4 := blk_frozen BK195.out 4
                      have hfz19_5 := blk_frozen BK195.out 5
                      have hfz19_6 := blk_frozen BK195.out 6
                      have hfz19_7 := blk_frozen BK195.out 7
                      have hfz19_8 := blk_frozen BK195.out 8
                      go_wp2
                      repeat (go_quiet (fail); try go_wp2)
                      go_roundg kj5
                      case measure => have := HK1.out; have := HJ5.out; omega
                      case rel => exact ⟨(x7_1), (wrap64 (x8_1 + 1)), (by first | rfl | (simp; done) | (simp [*]; done)), (by first | rfl | (simp; done) | (simp [*]; done)), H', ⟨by have := HK1.out; have := HJ5.out; omega⟩, ⟨by (with_reducible repeat (first | refine blk_drewN ?_ _ | refine blk_drew ?_ | refine blk_alloc ?_ _)); exact BK195.out⟩, ⟨by repeat (first | (with_reducible first | exact HB.out | apply below_alloc | apply pw_below_drewN | apply below_drew1 | refine below_set ?_ GE195.out) | exact HB.out)⟩⟩
                  · rw [if_neg c16] at H
                    exact absurd H (by simp)
                · rw [if_neg c15] at H
                  exact absurd H (by simp)
              · rw [if_neg c14] at H
                have c14b0 : decide (0 ≤ x7_1) = false := decide_eq_false c14
                clear c14
                have H' := Aside0.mk H
                clear H
                go_wp2
                repeat (go_quiet (fail); try go_wp2)
                go_roundg kj5
                case measure => have := HK1.out; have := HJ5.out; omega
                case rel => exact ⟨(x7_1), (wrap64 (x8_1 + 1)), (by first | rfl | (simp; done) | (simp [*]; done)), (by first | rfl | (simp; done) | (simp [*]; done)), H', ⟨by have := HK1.out; have := HJ5.out; omega⟩, ⟨by (with_reducible repeat (first | refine blk_drewN ?_ _ | refine blk_drew ?_ | refine blk_alloc ?_ _)); exact BK195.out⟩, ⟨by repeat (first | (with_reducible first | exact HB.out | apply below_alloc | apply pw_below_drewN | apply below_drew1 | refine below_set ?_ GE195.out) | exact HB.out)⟩⟩
      · rw [if_neg c5] at H
        have c5b0 : decide (x8_1 < (l1.length : Int)) = false := decide_eq_false c5
        clear c5
        obtain rfl := Option.some.inj H
        go_wp2
        repeat (go_quiet (fail); try go_wp2)
        go_ret
        exact ⟨by first | rfl | (simp [errW_none, errW_some] <;> rfl) | (simp [*, errW_none, errW_some] <;> rfl), by repeat (first | (with_reducible first | exact HB.out | apply below_alloc | apply pw_below_drewN | apply below_drew1 | refine below_set ?_ GE195.out) | exact HB.out)⟩

/-! ### supercargoref42_Covers: function 18 -/
def supercargoref42_Covers.l0 : Nat → List (S47) → Int → Int → Bool → Int → ByteArray → ByteArray → ByteArray → Int → Int → List Int → Int → Int → Int → Option (Bool)
  | 0, _, _, _, _, _, _, _, _, _, _, _, _, _, _ => none
  | k + 1, x1, x2, x3, x9, x10, x201000, x201001, x201002, x201003, x201004, x201005, x201006, x201007, x201008 => if x10 < (x201005.length : Int) then (if x9 = true then (supercargoref42_Covers.l0 k x1 x2 x3 true (wrap64 (x10 + 1)) x201000 x201001 x201002 x201003 x201004 x201005 x201006 x201007 x201008) else (if 0 ≤ x10 then (supercargoref42_Covers.l0 k x1 x2 x3 ((rd x201005 x10) == x2) (wrap64 (x10 + 1)) x201000 x201001 x201002 x201003 x201004 x201005 x201006 x201007 x201008) else (none))) else ((supercargoref42_May.f k x201000 x201001 x201002 x201003 x201004 x201005 x201006 x201007 x201008).bind fun t202 => (if t202 = true then (if x9 = true then (if x3 ≥ x201006 then (if x3 ≤ x201007 then ((supercargoref42_Way.f k x201000 x201001 x201002 x201003 x201004 x201005 x201006 x201007 x201008 x1 x3).bind fun t203 => (some t203)) else (some false)) else (some false)) else (some false)) else (some false)))
def supercargoref42_Covers.f (k : Nat) (a0_0 : ByteArray) (a0_1 : ByteArray) (a0_2 : ByteArray) (a0_3 : Int) (a0_4 : Int) (l0_5 : List Int) (a0_6 : Int) (a0_7 : Int) (a0_8 : Int) (l1 : List (S47)) (a2 : Int) (a3 : Int) : Option (Bool) := supercargoref42_Covers.l0 k l1 a2 a3 false 0 a0_0 a0_1 a0_2 a0_3 a0_4 l0_5 a0_6 a0_7 a0_8
theorem supercargoref42_Covers.mono_l : ∀ k, (∀ y0 y1 y2 y3 y4 y5 y6 y7 y8 y9 y10 y11 y12 y13, LeO (supercargoref42_Covers.l0 k y0 y1 y2 y3 y4 y5 y6 y7 y8 y9 y10 y11 y12 y13) (supercargoref42_Covers.l0 (k + 1) y0 y1 y2 y3 y4 y5 y6 y7 y8 y9 y10 y11 y12 y13))
  | 0 => fun _ _ _ _ _ _ _ _ _ _ _ _ _ _ r h => by simp [supercargoref42_Covers.l0] at h
  | k + 1 => by
    have ih0 := supercargoref42_Covers.mono_l k
    · intro y0 y1 y2 y3 y4 y5 y6 y7 y8 y9 y10 y11 y12 y13
      unfold supercargoref42_Covers.l0
      repeat' first
      | (with_reducible exact ih0 _ _ _ _ _ _ _ _ _ _ _ _ _ _)
      | (with_reducible exact supercargoref42_May.mono _ _ _ _ _ _ _ _ _ _)
      | (with_reducible exact supercargoref42_Way.mono _ _ _ _ _ _ _ _ _ _ _ _)
      | (with_reducible exact LeO.refl _)
      | (with_reducible exact LeO.none _)
      | (with_reducible refine LeO.ite ?_ ?_)
      | (with_reducible refine LeO.bind ?_ (fun _ => ?_))
      | exact ih0 _ _ _ _ _ _ _ _ _ _ _ _ _ _
      | exact supercargoref42_May.mono _ _ _ _ _ _ _ _ _ _
      | exact supercargoref42_Way.mono _ _ _ _ _ _ _ _ _ _ _ _
      | exact LeO.none _
      | refine LeO.ite ?_ ?_
      | refine LeO.bind ?_ (fun _ => ?_)
theorem supercargoref42_Covers.mono : ∀ a0 a1 a2 a3 a4 a5 a6 a7 a8 a9 a10 a11 k, LeO (supercargoref42_Covers.f k a0 a1 a2 a3 a4 a5 a6 a7 a8 a9 a10 a11) (supercargoref42_Covers.f (k + 1) a0 a1 a2 a3 a4 a5 a6 a7 a8 a9 a10 a11) := by
  intro a0 a1 a2 a3 a4 a5 a6 a7 a8 a9 a10 a11 k
  have ih0 := supercargoref42_Covers.mono_l k
  unfold supercargoref42_Covers.f
  repeat' first
      | (with_reducible exact ih0 _ _ _ _ _ _ _ _ _ _ _ _ _ _)
      | (with_reducible exact supercargoref42_May.mono _ _ _ _ _ _ _ _ _ _)
      | (with_reducible exact supercargoref42_Way.mono _ _ _ _ _ _ _ _ _ _ _ _)
      | (with_reducible exact LeO.refl _)
      | (with_reducible exact LeO.none _)
      | (with_reducible refine LeO.ite ?_ ?_)
      | (with_reducible refine LeO.bind ?_ (fun _ => ?_))
      | exact ih0 _ _ _ _ _ _ _ _ _ _ _ _ _ _
      | exact supercargoref42_May.mono _ _ _ _ _ _ _ _ _ _
      | exact supercargoref42_Way.mono _ _ _ _ _ _ _ _ _ _ _ _
      | exact LeO.none _
      | refine LeO.ite ?_ ?_
      | refine LeO.bind ?_ (fun _ => ?_)
set_option maxHeartbeats 8000000 in
set_option maxRecDepth 100000 in
theorem supercargoref42_Covers.calls (k : Nat) (a0_0 : ByteArray) (a0_1 : ByteArray) (a0_2 : ByteArray) (a0_3 : Int) (a0_4 : Int) (A0_5 : Option Addr) (c0_5 : Nat) (l0_5 : List Int) (a0_6 : Int) (a0_7 : Int) (a0_8 : Int) (A1 : Option Addr) (c1 : Nat) (l1 : List (S47)) (a2 : Int) (a3 : Int) (r : Bool) (w : World) (hr0_5 : Kd.C (Kd.int .i64) w A0_5 l0_5.length l0_5) (hc0_5 : l0_5.length ≤ c0_5) (hr1 : Kd.C k47 w A1 l1.length l1) (hc1 : l1.length ≤ c1) (h : supercargoref42_Covers.f k a0_0 a0_1 a0_2 a0_3 a0_4 l0_5 a0_6 a0_7 a0_8 l1 a2 a3 = some r) :
    Calls Try.prog 18 #[.agg #[.string a0_0, .string a0_1, .string a0_2, .int .i64 a0_3, .int .i64 a0_4, .slice A0_5 l0_5.length c0_5, .int .i64 a0_6, .int .i64 a0_7, .int .i64 a0_8], .slice A1 l1.length c1, .int .i64 a2, .int .i64 a3] w fun e w' => e = .returned (.bool r) ∧ Below w.heap.size w w' := by
  have hu24 := Try.underlying24
  have HR0_5 := Aside0.mk hr0_5
  have HC0_5 := Aside0.mk hc0_5
  clear hr0_5 hc0_5
  have HR1 := Aside0.mk hr1
  have HC1 := Aside0.mk hc1
  clear hr1 hc1
  have HB := Aside0.mk (Below.refl w.heap.size w)
  have H : (supercargoref42_Covers.l0 k l1 a2 a3 false 0 a0_0 a0_1 a0_2 a0_3 a0_4 l0_5 a0_6 a0_7 a0_8) = some r := h
  clear h
  have H' := Aside0.mk H
  clear H
  go_enter Try.func18, Try.ntmps18
  go_wp2_with (first | ((with_reducible refine gate_dst (N := 4) rfl ?_); refine box_event ?hg (N := 4) ?hd (cs := #[.string a0_0, .string a0_1, .string a0_2, .int .i64 a0_3, .int .i64 a0_4, .slice A0_5 l0_5.length c0_5, .int .i64 a0_6, .int .i64 a0_7, .int .i64 a0_8]) (t := 24) ?hr ?_; (case hd => rfl); (case hg => rfl); (case hr => first | (go_simp; done) | (go_simp; rfl)); intro gb200 hg w5 hbox hb; have n0_ := Aside0.mk (below_step (by repeat (first | (with_reducible first | exact HB.out | apply below_alloc | apply pw_below_drewN | apply below_drew1) | exact HB.out)) hb); have n1_ := Aside0.mk (hbox); have n2_ := Aside0.mk ((by rw [hg]; exact (below_size (by repeat (first | (with_reducible first | exact HB.out | apply below_alloc | apply pw_below_drewN | apply below_drew1) | exact HB.out))) : w.heap.size ≤ gb200)); have n3_ := Aside0.mk ((by rw [hg]; exact (below_size (by repeat (first | (with_reducible first | exact HB.out | apply below_alloc | apply pw_below_drewN | apply below_drew1) | exact HB.out))) : w.heap.size ≤ gb200)); clear HB; have HB := n0_; have BK200 := n1_; have GW200 := n2_; have GE200 := n3_; clear n0_ n1_ n2_ n3_; clear hb hbox hg))
  go_loopg [9, 10] k (fun kq v9 v10 w' => ∃ (x9_1 : Bool) (x10_1 : Int), v9 = .bool x9_1 ∧ v10 = .int .i64 x10_1 ∧ Aside0 (supercargoref42_Covers.l0 kq l1 a2 a3 x9_1 x10_1 a0_0 a0_1 a0_2 a0_3 a0_4 l0_5 a0_6 a0_7 a0_8 = some r) ∧ Aside0 (kq ≤ k) ∧ Aside0 (w'.heap[gb200]? = some (.cells #[.string a0_0, .string a0_1, .string a0_2, .int .i64 a0_3, .int .i64 a0_4, (.slice A0_5 l0_5.length c0_5), .int .i64 a0_6, .int .i64 a0_7, .int .i64 a0_8] 24 (0, 0))) ∧ Aside0 (Below w.heap.size w w'))
  case atStart => exact ⟨(false), (0), (by first | rfl | (simp; done) | (simp [*]; done)), (by first | rfl | (simp; done) | (simp [*]; done)), H', ⟨Nat.le_refl _⟩, ⟨by (with_reducible repeat (first | refine blk_drewN ?_ _ | refine blk_drew ?_ | refine blk_alloc ?_ _)); exact BK200.out⟩, ⟨by repeat (first | (with_reducible first | exact HB.out | apply below_alloc | apply pw_below_drewN | apply below_drew1 | refine below_set ?_ GE200.out) | exact HB.out)⟩⟩
  case round =>
    clear H'
    try clear c1
    try clear p2
    obtain ⟨x9_1, x10_1, rfl, rfl, HA, HK1, BK200, HB⟩ := hrel
    cases gk with
    | zero => exact absurd HA.out (by simp [supercargoref42_Covers.l0])
    | succ k1 =>
      have H := HA.out
      clear HA
      simp only [supercargoref42_Covers.l0] at H
      by_cases c6 : x10_1 < (l0_5.length : Int)
      · rw [if_pos c6] at H
        have c6b0 : decide (x10_1 < (l0_5.length : Int)) = true := decide_eq_true c6
        clear c6
        by_cases c7 : x9_1 = true
        · subst c7
          have H1 : (supercargoref42_Covers.l0 k1 l1 a2 a3 true (wrap64 (x10_1 + 1)) a0_0 a0_1 a0_2 a0_3 a0_4 l0_5 a0_6 a0_7 a0_8) = some r := by rw [if_pos rfl] at H; exact H
          clear H
          have H := H1
          clear H1
          have H' := Aside0.mk H
          clear H
          have hcz8_0 : wr.cell? ⟨gb200, 0, none⟩ = some (.string a0_0) := (blk_cell BK200.out 0).trans rfl
          have hcz8_1 : wr.cell? ⟨gb200, 1, none⟩ = some (.string a0_1) := (blk_cell BK200.out 1).trans rfl
          have hcz8_2 : wr.cell? ⟨gb200, 2, none⟩ = some (.string a0_2) := (blk_cell BK200.out 2).trans rfl
          have hcz8_3 : wr.cell? ⟨gb200, 3, none⟩ = some (.int .i64 a0_3) := (blk_cell BK200.out 3).trans rfl
          have hcz8_4 : wr.cell? ⟨gb200, 4, none⟩ = some (.int .i64 a0_4) := (blk_cell BK200.out 4).trans rfl
          have hcz8_5 : wr.cell? ⟨gb200, 5, none⟩ = some (.slice A0_5 l0_5.length c0_5) := (blk_cell BK200.out 5).trans rfl
          have hcz8_6 : wr.cell? ⟨gb200, 6, none⟩ = some (.int .i64 a0_6) := (blk_cell BK200.out 6).trans rfl
          have hcz8_7 : wr.cell? ⟨gb200, 7, none⟩ = some (.int .i64 a0_7) := (blk_cell BK200.out 7).trans rfl
          have hcz8_8 : wr.cell? ⟨gb200, 8, none⟩ = some (.int .i64 a0_8) := (blk_cell BK200.out 8).trans rfl
          have hfz8_0 := blk_frozen BK200.out 0
          have hfz8_1 := blk_frozen BK200.out 1
          have hfz8_2 := blk_frozen BK200.out 2
          have hfz8_3 := blk_frozen BK200.out 3
          have hfz8_4 := blk_frozen BK200.out 4
          have hfz8_5 := blk_frozen BK200.out 5
          have hfz8_6 := blk_frozen BK200.out 6
          have hfz8_7 := blk_frozen BK200.out 7
          have hfz8_8 := blk_frozen BK200.out 8
          go_wp2
          go_roundg k1
          case measure => have := HK1.out; omega
          case rel => exact ⟨(true), (wrap64 (x10_1 + 1)), (by first | rfl | (simp; done) | (simp [*]; done)), (by first | rfl | (simp; done) | (simp [*]; done)), H', ⟨by have := HK1.out; omega⟩, ⟨by (with_reducible repeat (first | refine blk_drewN ?_ _ | refine blk_drew ?_ | refine blk_alloc ?_ _)); exact BK200.out⟩, ⟨by repeat (first | (with_reducible first | exact HB.out | apply below_alloc | apply pw_below_drewN | apply below_drew1 | refine below_set ?_ GE200.out) | exact HB.out)⟩⟩
        · replace c7 := Bool.eq_false_iff.mpr c7
          subst c7
          have H1 : (if 0 ≤ x10_1 then (supercargoref42_Covers.l0 k1 l1 a2 a3 ((rd l0_5 x10_1) == a2) (wrap64 (x10_1 + 1)) a0_0 a0_1 a0_2 a0_3 a0_4 l0_5 a0_6 a0_7 a0_8) else (none)) = some r := by rw [if_neg (show ¬ (false = true) by decide)] at H; exact H
          clear H
          have H := H1
          clear H1
          by_cases c9 : 0 ≤ x10_1
          · rw [if_pos c9] at H
            have c9b0 : decide (0 ≤ x10_1) = true := decide_eq_true c9
            clear c9
            have H' := Aside0.mk H
            clear H
            have hcz10_0 : wr.cell? ⟨gb200, 0, none⟩ = some (.string a0_0) := (blk_cell BK200.out 0).trans rfl
            have hcz10_1 : wr.cell? ⟨gb200, 1, none⟩ = some (.string a0_1) := (blk_cell BK200.out 1).trans rfl
            have hcz10_2 : wr.cell? ⟨gb200, 2, none⟩ = some (.string a0_2) := (blk_cell BK200.out 2).trans rfl
            have hcz10_3 : wr.cell? ⟨gb200, 3, none⟩ = some (.int .i64 a0_3) := (blk_cell BK200.out 3).trans rfl
            have hcz10_4 : wr.cell? ⟨gb200, 4, none⟩ = some (.int .i64 a0_4) := (blk_cell BK200.out 4).trans rfl
            have hcz10_5 : wr.cell? ⟨gb200, 5, none⟩ = some (.slice A0_5 l0_5.length c0_5) := (blk_cell BK200.out 5).trans rfl
            have hcz10_6 : wr.cell? ⟨gb200, 6, none⟩ = some (.int .i64 a0_6) := (blk_cell BK200.out 6).trans rfl
            have hcz10_7 : wr.cell? ⟨gb200, 7, none⟩ = some (.int .i64 a0_7) := (blk_cell BK200.out 7).trans rfl
            have hcz10_8 : wr.cell? ⟨gb200, 8, none⟩ = some (.int .i64 a0_8) := (blk_cell BK200.out 8).trans rfl
            have hfz10_0 := blk_frozen BK200.out 0
            have hfz10_1 := blk_frozen BK200.out 1
            have hfz10_2 := blk_frozen BK200.out 2
            have hfz10_3 := blk_frozen BK200.out 3
            have hfz10_4 := blk_frozen BK200.out 4
            have hfz10_5 := blk_frozen BK200.out 5
            have hfz10_6 := blk_frozen BK200.out 6
            have hfz10_7 := blk_frozen BK200.out 7
            have hfz10_8 := blk_frozen BK200.out 8
            have p201 : 0 ≤ (x10_1 : Int) := of_decide_eq_true (by first | (with_reducible assumption) | assumption)
            have q201 : x10_1 < (l0_5.length : Int) := of_decide_eq_true (by first | (with_reducible assumption) | assumption)
            obtain ⟨ad201, e201, hx201_0⟩ := Kd.at_int HR0_5.out x10_1 p201 q201
            cases e201
            replace hx201_0 := (HB.out.cell (World.block_lt_of_cell? w _ hx201_0)).trans hx201_0
            replace p201 := eq_true p201
            replace q201 := eq_true q201
            go_wp2
            go_roundg k1
            case measure => have := HK1.out; omega
            case rel => exact ⟨(((rd l0_5 x10_1) == a2)), (wrap64 (x10_1 + 1)), (by first | rfl | (simp; done) | (simp [*]; done)), (by first | rfl | (simp; done) | (simp [*]; done)), H', ⟨by have := HK1.out; omega⟩, ⟨by (with_reducible repeat (first | refine blk_drewN ?_ _ | refine blk_drew ?_ | refine blk_alloc ?_ _)); exact BK200.out⟩, ⟨by repeat (first | (with_reducible first | exact HB.out | apply below_alloc | apply pw_below_drewN | apply below_drew1 | refine below_set ?_ GE200.out) | exact HB.out)⟩⟩
          · rw [if_neg c9] at H
            exact absurd H (by simp)
      · rw [if_neg c6] at H
        have c6b0 : decide (x10_1 < (l0_5.length : Int)) = false := decide_eq_false c6
        clear c6
        replace H := Option.bind_eq_some_iff.mp H
        obtain ⟨t202, A110, H⟩ := H
        replace H : (if t202 = true then (if x9_1 = true then (if a3 ≥ a0_6 then (if a3 ≤ a0_7 then ((supercargoref42_Way.f k1 a0_0 a0_1 a0_2 a0_3 a0_4 l0_5 a0_6 a0_7 a0_8 l1 a3).bind fun t203 => (some t203)) else (some false)) else (some false)) else (some false)) else (some false)) = some r := H
        have A11 := Aside0.mk A110
        clear A110
        by_cases c12 : t202 = true
        · subst c12
          have H1 : (if x9_1 = true then (if a3 ≥ a0_6 then (if a3 ≤ a0_7 then ((supercargoref42_Way.f k1 a0_0 a0_1 a0_2 a0_3 a0_4 l0_5 a0_6 a0_7 a0_8 l1 a3).bind fun t203 => (some t203)) else (some false)) else (some false)) else (some false)) = some r := by rw [if_pos rfl] at H; exact H
          clear H
          have H := H1
          clear H1
          by_cases c13 : x9_1 = true
          · subst c13
            have H1 : (if a3 ≥ a0_6 then (if a3 ≤ a0_7 then ((supercargoref42_Way.f k1 a0_0 a0_1 a0_2 a0_3 a0_4 l0_5 a0_6 a0_7 a0_8 l1 a3).bind fun t203 => (some t203)) else (some false)) else (some false)) = some r := by rw [if_pos rfl] at H; exact H
            clear H
            have H := H1
            clear H1
            by_cases c14 : a3 ≥ a0_6
            · rw [if_pos c14] at H
              have c14b0 : decide (a0_6 ≤ a3) = true := decide_eq_true c14
              clear c14
              by_cases c15 : a3 ≤ a0_7
              · rw [if_pos c15] at H
                have c15b0 : decide (a3 ≤ a0_7) = true := decide_eq_true c15
                clear c15
                replace H := Option.bind_eq_some_iff.mp H
                obtain ⟨t203, A160, H⟩ := H
                replace H : (some t203) = some r := H
                have A16 := Aside0.mk A160
                clear A160
                obtain rfl := Option.some.inj H
                have hcz17_0 : wr.cell? ⟨gb200, 0, none⟩ = some (.string a0_0) := (blk_cell BK200.out 0).trans rfl
                have hcz17_1 : wr.cell? ⟨gb200, 1, none⟩ = some (.string a0_1) := (blk_cell BK200.out 1).trans rfl
                have hcz17_2 : wr.cell? ⟨gb200, 2, none⟩ = some (.string a0_2) := (blk_cell BK200.out 2).trans rfl
                have hcz17_3 : wr.cell? ⟨gb200, 3, none⟩ = some (.int .i64 a0_3) := (blk_cell BK200.out 3).trans rfl
                have hcz17_4 : wr.cell? ⟨gb200, 4, none⟩ = some (.int .i64 a0_4) := (blk_cell BK200.out 4).trans rfl
                have hcz17_5 : wr.cell? ⟨gb200, 5, none⟩ = some (.slice A0_5 l0_5.length c0_5) := (blk_cell BK200.out 5).trans rfl
                have hcz17_6 : wr.cell? ⟨gb200, 6, none⟩ = some (.int .i64 a0_6) := (blk_cell BK200.out 6).trans rfl
                have hcz17_7 : wr.cell? ⟨gb200, 7, none⟩ = some (.int .i64 a0_7) := (blk_cell BK200.out 7).trans rfl
                have hcz17_8 : wr.cell? ⟨gb200, 8, none⟩ = some (.int .i64 a0_8) := (blk_cell BK200.out 8).trans rfl
                have hfz17_0 := blk_frozen BK200.out 0
                have hfz17_1 := blk_frozen BK200.out 1
                have hfz17_2 := blk_frozen BK200.out 2
                have hfz17_3 := blk_frozen BK200.out 3
                have hfz17_4 := blk_frozen BK200.out 4
                have hfz17_5 := blk_frozen BK200.out 5
                have hfz17_6 := blk_frozen BK200.out 6
                have hfz17_7 := blk_frozen BK200.out 7
                have hfz17_8 := blk_frozen BK200.out 8
                go_wp2_with (first | ((with_reducible refine gate_callee (f := 12) rfl ?_); refine goesL_ (some 29) rfl rfl Try.func12 (by kernel_rfl) rfl #[.agg #[.string a0_0, .string a0_1, .string a0_2, .int .i64 a0_3, .int .i64 a0_4, .slice A0_5 l0_5.length c0_5, .int .i64 a0_6, .int .i64 a0_7, .int .i64 a0_8]] rfl (by (try simp only [List.map_toArray, List.map_cons, List.map_nil]); first | done | rfl | (simp only [List.length_drop, List.length_take]; rfl)) ?_; (with_reducible refine (supercargoref42_May.calls k1 a0_0 a0_1 a0_2 a0_3 a0_4 _ _ l0_5 a0_6 a0_7 a0_8 true _ ?side1 ?side2 A11.out).mono ?_); (case side1 => repeat (first | exact (Kd.C_below HR0_5.out HB.out) | (with_reducible refine Kd.C_alloc ?_ _) | (with_reducible refine Kd.C_drewN ?_ _) | (with_reducible refine Kd.C_drew ?_))); (case side2 => exact HC0_5.out); rintro e w18 ⟨rfl, hb⟩; refine ⟨_, rfl, ?_⟩; have n0_ := Aside0.mk (blk_below (g := gb200) (o := .cells #[.string a0_0, .string a0_1, .string a0_2, .int .i64 a0_3, .int .i64 a0_4, .slice A0_5 l0_5.length c0_5, .int .i64 a0_6, .int .i64 a0_7, .int .i64 a0_8] 24 (0, 0)) (by (with_reducible repeat (first | refine blk_drewN ?_ _ | refine blk_drew ?_ | refine blk_alloc ?_ _)); exact BK200.out) hb); have n1_ := Aside0.mk (below_step (by repeat (first | (with_reducible first | exact HB.out | apply below_alloc | apply pw_below_drewN | apply below_drew1 | refine below_set ?_ GE200.out) | exact HB.out)) hb); clear BK200; clear HB; have BK200 := n0_; have HB := n1_; clear n0_ n1_; (try clear hb); (try clear hb2); (try clear hk); (try clear hi); have hcz19_0 : w18.cell? ⟨gb200, 0, none⟩ = some (.string a0_0) := (blk_cell BK200.out 0).trans rfl; have hcz19_1 : w18.cell? ⟨gb200, 1, none⟩ = some (.string a0_1) := (blk_cell BK200.out 1).trans rfl; have hcz19_2 : w18.cell? ⟨gb200, 2, none⟩ = some (.string a0_2) := (blk_cell BK200.out 2).trans rfl; have hcz19_3 : w18.cell? ⟨gb200, 3, none⟩ = some (.int .i64 a0_3) := (blk_cell BK200.out 3).trans rfl; have hcz19_4 : w18.cell? ⟨gb200, 4, none⟩ = some (.int .i64 a0_4) := (blk_cell BK200.out 4).trans rfl; have hcz19_5 : w18.cell? ⟨gb200, 5, none⟩ = some (.slice A0_5 l0_5.length c0_5) := (blk_cell BK200.out 5).trans rfl; have hcz19_6 : w18.cell? ⟨gb200, 6, none⟩ = some (.int .i64 a0_6) := (blk_cell BK200.out 6).trans rfl; have hcz19_7 : w18.cell? ⟨gb200, 7, none⟩ = some (.int .i64 a0_7) := (blk_cell BK200.out 7).trans rfl; have hcz19_8 : w18.cell? ⟨gb200, 8, none⟩ = some (.int .i64 a0_8) := (blk_cell BK200.out 8).trans rfl; have hfz19_0 := blk_frozen BK200.out 0; have hfz19_1 := blk_frozen BK200.out 1; have hfz19_2 := blk_frozen BK200.out 2; have hfz19_3 := blk_frozen BK200.out 3; have hfz19_4 := blk_frozen BK200.out 4; have hfz19_5 := blk_frozen BK200.out 5; have hfz19_6 := blk_frozen BK200.out 6; have hfz19_7 := blk_frozen BK200.out 7; have hfz19_8 := blk_frozen BK200.out 8) | (go_at_call 28; (with_reducible refine (supercargoref42_Way.calls k1 a0_0 a0_1 a0_2 a0_3 a0_4 _ _ l0_5 a0_6 a0_7 a0_8 _ _ l1 a3 t203 _ ?side1 ?side2 ?side3 ?side4 A16.out).mono ?_); (case side1 => repeat (first | exact (Kd.C_below HR0_5.out HB.out) | (with_reducible refine Kd.C_alloc ?_ _) | (with_reducible refine Kd.C_drewN ?_ _) | (with_reducible refine Kd.C_drew ?_))); (case side2 => exact HC0_5.out); (case side3 => repeat (first | exact (Kd.C_below HR1.out HB.out) | (with_reducible refine Kd.C_alloc ?_ _) | (with_reducible refine Kd.C_drewN ?_ _) | (with_reducible refine Kd.C_drew ?_))); (case side4 => exact HC1.out); rintro e w20 ⟨rfl, hb⟩; have n0_ := Aside0.mk (blk_below (g := gb200) (o := .cells #[.string a0_0, .string a0_1, .string a0_2, .int .i64 a0_3, .int .i64 a0_4, .slice A0_5 l0_5.length c0_5, .int .i64 a0_6, .int .i64 a0_7, .int .i64 a0_8] 24 (0, 0)) (by (with_reducible repeat (first | refine blk_drewN ?_ _ | refine blk_drew ?_ | refine blk_alloc ?_ _)); exact BK200.out) hb); have n1_ := Aside0.mk (below_step (by repeat (first | (with_reducible first | exact HB.out | apply below_alloc | apply pw_below_drewN | apply below_drew1 | refine below_set ?_ GE200.out) | exact HB.out)) hb); clear BK200; clear HB; have BK200 := n0_; have HB := n1_; clear n0_ n1_; (try clear hb); (try clear hb2); (try clear hk); (try clear hi)))
                go_ret
                exact ⟨by first | rfl | (simp [errW_none, errW_some] <;> rfl) | (simp [*, errW_none, errW_some] <;> rfl), by repeat (first | (with_reducible first | exact HB.out | apply below_alloc | apply pw_below_drewN | apply below_drew1 | refine below_set ?_ GE200.out) | exact HB.out)⟩
              · rw [if_neg c15] at H
                have c15b0 : decide (a3 ≤ a0_7) = false := decide_eq_false c15
                clear c15
                obtain rfl := Option.some.inj H
                have hcz21_0 : wr.cell? ⟨gb200, 0, none⟩ = some (.string a0_0) := (blk_cell BK200.out 0).trans rfl
                have hcz21_1 : wr.cell? ⟨gb200, 1, none⟩ = some (.string a0_1) := (blk_cell BK200.out 1).trans rfl
                have hcz21_2 : wr.cell? ⟨gb200, 2, none⟩ = some (.string a0_2) := (blk_cell BK200.out 2).trans rfl
                have hcz21_3 : wr.cell? ⟨gb200, 3, none⟩ = some (.int .i64 a0_3) := (blk_cell BK200.out 3).trans rfl
                have hcz21_4 : wr.cell? ⟨gb200, 4, none⟩ = some (.int .i64 a0_4) := (blk_cell BK200.out 4).trans rfl
                have hcz21_5 : wr.cell? ⟨gb200, 5, none⟩ = some (.slice A0_5 l0_5.length c0_5) := (blk_cell BK200.out 5).trans rfl
                have hcz21_6 : wr.cell? ⟨gb200, 6, none⟩ = some (.int .i64 a0_6) := (blk_cell BK200.out 6).trans rfl
                have hcz21_7 : wr.cell? ⟨gb200, 7, none⟩ = some (.int .i64 a0_7) := (blk_cell BK200.out 7).trans rfl
                have hcz21_8 : wr.cell? ⟨gb200, 8, none⟩ = some (.int .i64 a0_8) := (blk_cell BK200.out 8).trans rfl
                have hfz21_0 := blk_frozen BK200.out 0
                have hfz21_1 := blk_frozen BK200.out 1
                have hfz21_2 := blk_frozen BK200.out 2
                have hfz21_3 := blk_frozen BK200.out 3
                have hfz21_4 := blk_frozen BK200.out 4
                have hfz21_5 := blk_frozen BK200.out 5
                have hfz21_6 := blk_frozen BK200.out 6
                have hfz21_7 := blk_frozen BK200.out 7
                have hfz21_8 := blk_frozen BK200.out 8
                go_wp2_with (first | ((with_reducible refine gate_callee (f := 12) rfl ?_); refine goesL_ (some 29) rfl rfl Try.func12 (by kernel_rfl) rfl #[.agg #[.string a0_0, .string a0_1, .string a0_2, .int .i64 a0_3, .int .i64 a0_4, .slice A0_5 l0_5.length c0_5, .int .i64 a0_6, .int .i64 a0_7, .int .i64 a0_8]] rfl (by (try simp only [List.map_toArray, List.map_cons, List.map_nil]); first | done | rfl | (simp only [List.length_drop, List.length_take]; rfl)) ?_; (with_reducible refine (supercargoref42_May.calls k1 a0_0 a0_1 a0_2 a0_3 a0_4 _ _ l0_5 a0_6 a0_7 a0_8 true _ ?side1 ?side2 A11.out).mono ?_); (case side1 => repeat (first | exact (Kd.C_below HR0_5.out HB.out) | (with_reducible refine Kd.C_alloc ?_ _) | (with_reducible refine Kd.C_drewN ?_ _) | (with_reducible refine Kd.C_drew ?_))); (case side2 => exact HC0_5.out); rintro e w22 ⟨rfl, hb⟩; refine ⟨_, rfl, ?_⟩; have n0_ := Aside0.mk (blk_below (g := gb200) (o := .cells #[.string a0_0, .string a0_1, .string a0_2, .int .i64 a0_3, .int .i64 a0_4, .slice A0_5 l0_5.length c0_5, .int .i64 a0_6, .int .i64 a0_7, .int .i64 a0_8] 24 (0, 0)) (by (with_reducible repeat (first | refine blk_drewN ?_ _ | refine blk_drew ?_ | refine blk_alloc ?_ _)); exact BK200.out) hb); have n1_ := Aside0.mk (below_step (by repeat (first | (with_reducible first | exact HB.out | apply below_alloc | apply pw_below_drewN | apply below_drew1 | refine below_set ?_ GE200.out) | exact HB.out)) hb); clear BK200; clear HB; have BK200 := n0_; have HB := n1_; clear n0_ n1_; (try clear hb); (try clear hb2); (try clear hk); (try clear hi); have hcz23_0 : w22.cell? ⟨gb200, 0, none⟩ = some (.string a0_0) := (blk_cell BK200.out 0).trans rfl; have hcz23_1 : w22.cell? ⟨gb200, 1, none⟩ = some (.string a0_1) := (blk_cell BK200.out 1).trans rfl; have hcz23_2 : w22.cell? ⟨gb200, 2, none⟩ = some (.string a0_2) := (blk_cell BK200.out 2).trans rfl; have hcz23_3 : w22.cell? ⟨gb200, 3, none⟩ = some (.int .i64 a0_3) := (blk_cell BK200.out 3).trans rfl; have hcz23_4 : w22.cell? ⟨gb200, 4, none⟩ = some (.int .i64 a0_4) := (blk_cell BK200.out 4).trans rfl; have hcz23_5 : w22.cell? ⟨gb200, 5, none⟩ = some (.slice A0_5 l0_5.length c0_5) := (blk_cell BK200.out 5).trans rfl; have hcz23_6 : w22.cell? ⟨gb200, 6, none⟩ = some (.int .i64 a0_6) := (blk_cell BK200.out 6).trans rfl; have hcz23_7 : w22.cell? ⟨gb200, 7, none⟩ = some (.int .i64 a0_7) := (blk_cell BK200.out 7).trans rfl; have hcz23_8 : w22.cell? ⟨gb200, 8, none⟩ = some (.int .i64 a0_8) := (blk_cell BK200.out 8).trans rfl; have hfz23_0 := blk_frozen BK200.out 0; have hfz23_1 := blk_frozen BK200.out 1; have hfz23_2 := blk_frozen BK200.out 2; have hfz23_3 := blk_frozen BK200.out 3; have hfz23_4 := blk_frozen BK200.out 4; have hfz23_5 := blk_frozen BK200.out 5; have hfz23_6 := blk_frozen BK200.out 6; have hfz23_7 := blk_frozen BK200.out 7; have hfz23_8 := blk_frozen BK200.out 8))
                go_ret
                exact ⟨by first | rfl | (simp [errW_none, errW_some] <;> rfl) | (simp [*, errW_none, errW_some] <;> rfl), by repeat (first | (with_reducible first | exact HB.out | apply below_alloc | apply pw_below_drewN | apply below_drew1 | refine below_set ?_ GE200.out) | exact HB.out)⟩
            · rw [if_neg c14] at H
              have c14b0 : decide (a0_6 ≤ a3) = false := decide_eq_false c14
              clear c14
              obtain rfl := Option.some.inj H
              have hcz24_0 : wr.cell? ⟨gb200, 0, none⟩ = some (.string a0_0) := (blk_cell BK200.out 0).trans rfl
              have hcz24_1 : wr.cell? ⟨gb200, 1, none⟩ = some (.string a0_1) := (blk_cell BK200.out 1).trans rfl
              have hcz24_2 : wr.cell? ⟨gb200, 2, none⟩ = some (.string a0_2) := (blk_cell BK200.out 2).trans rfl
              have hcz24_3 : wr.cell? ⟨gb200, 3, none⟩ = some (.int .i64 a0_3) := (blk_cell BK200.out 3).trans rfl
              have hcz24_4 : wr.cell? ⟨gb200, 4, none⟩ = some (.int .i64 a0_4) := (blk_cell BK200.out 4).trans rfl
              have hcz24_5 : wr.cell? ⟨gb200, 5, none⟩ = some (.slice A0_5 l0_5.length c0_5) := (blk_cell BK200.out 5).trans rfl
              have hcz24_6 : wr.cell? ⟨gb200, 6, none⟩ = some (.int .i64 a0_6) := (blk_cell BK200.out 6).trans rfl
              have hcz24_7 : wr.cell? ⟨gb200, 7, none⟩ = some (.int .i64 a0_7) := (blk_cell BK200.out 7).trans rfl
              have hcz24_8 : wr.cell? ⟨gb200, 8, none⟩ = some (.int .i64 a0_8) := (blk_cell BK200.out 8).trans rfl
              have hfz24_0 := blk_frozen BK200.out 0
              have hfz24_1 := blk_frozen BK200.out 1
              have hfz24_2 := blk_frozen BK200.out 2
              have hfz24_3 := blk_frozen BK200.out 3
              have hfz24_4 := blk_frozen BK200.out 4
              have hfz24_5 := blk_frozen BK200.out 5
              have hfz24_6 := blk_frozen BK200.out 6
              have hfz24_7 := blk_frozen BK200.out 7
              have hfz24_8 := blk_frozen BK200.out 8
              go_wp2_with (first | ((with_reducible refine gate_callee (f := 12) rfl ?_); refine goesL_ (some 29) rfl rfl Try.func12 (by kernel_rfl) rfl #[.agg #[.string a0_0, .string a0_1, .string a0_2, .int .i64 a0_3, .int .i64 a0_4, .slice A0_5 l0_5.length c0_5, .int .i64 a0_6, .int .i64 a0_7, .int .i64 a0_8]] rfl (by (try simp only [List.map_toArray, List.map_cons, List.map_nil]); first | done | rfl | (simp only [List.length_drop, List.length_take]; rfl)) ?_; (with_reducible refine (supercargoref42_May.calls k1 a0_0 a0_1 a0_2 a0_3 a0_4 _ _ l0_5 a0_6 a0_7 a0_8 true _ ?side1 ?side2 A11.out).mono ?_); (case side1 => repeat (first | exact (Kd.C_below HR0_5.out HB.out) | (with_reducible refine Kd.C_alloc ?_ _) | (with_reducible refine Kd.C_drewN ?_ _) | (with_reducible refine Kd.C_drew ?_))); (case side2 => exact HC0_5.out); rintro e w25 ⟨rfl, hb⟩; refine ⟨_, rfl, ?_⟩; have n0_ := Aside0.mk (blk_below (g := gb200) (o := .cells #[.string a0_0, .string a0_1, .string a0_2, .int .i64 a0_3, .int .i64 a0_4, .slice A0_5 l0_5.length c0_5, .int .i64 a0_6, .int .i64 a0_7, .int .i64 a0_8] 24 (0, 0)) (by (with_reducible repeat (first | refine blk_drewN ?_ _ | refine blk_drew ?_ | refine blk_alloc ?_ _)); exact BK200.out) hb); have n1_ := Aside0.mk (below_step (by repeat (first | (with_reducible first | exact HB.out | apply below_alloc | apply pw_below_drewN | apply below_drew1 | refine below_set ?_ GE200.out) | exact HB.out)) hb); clear BK200; clear HB; have BK200 := n0_; have HB := n1_; clear n0_ n1_; (try clear hb); (try clear hb2); (try clear hk); (try clear hi); have hcz26_0 : w25.cell? ⟨gb200, 0, none⟩ = some (.string a0_0) := (blk_cell BK200.out 0).trans rfl; have hcz26_1 : w25.cell? ⟨gb200, 1, none⟩ = some (.string a0_1) := (blk_cell BK200.out 1).trans rfl; have hcz26_2 : w25.cell? ⟨gb200, 2, none⟩ = some (.string a0_2) := (blk_cell BK200.out 2).trans rfl; have hcz26_3 : w25.cell? ⟨gb200, 3, none⟩ = some (.int .i64 a0_3) := (blk_cell BK200.out 3).trans rfl; have hcz26_4 : w25.cell? ⟨gb200, 4, none⟩ = some (.int .i64 a0_4) := (blk_cell BK200.out 4).trans rfl; have hcz26_5 : w25.cell? ⟨gb200, 5, none⟩ = some (.slice A0_5 l0_5.length c0_5) := (blk_cell BK200.out 5).trans rfl; have hcz26_6 : w25.cell? ⟨gb200, 6, none⟩ = some (.int .i64 a0_6) := (blk_cell BK200.out 6).trans rfl; have hcz26_7 : w25.cell? ⟨gb200, 7, none⟩ = some (.int .i64 a0_7) := (blk_cell BK200.out 7).trans rfl; have hcz26_8 : w25.cell? ⟨gb200, 8, none⟩ = some (.int .i64 a0_8) := (blk_cell BK200.out 8).trans rfl; have hfz26_0 := blk_frozen BK200.out 0; have hfz26_1 := blk_frozen BK200.out 1; have hfz26_2 := blk_frozen BK200.out 2; have hfz26_3 := blk_frozen BK200.out 3; have hfz26_4 := blk_frozen BK200.out 4; have hfz26_5 := blk_frozen BK200.out 5; have hfz26_6 := blk_frozen BK200.out 6; have hfz26_7 := blk_frozen BK200.out 7; have hfz26_8 := blk_frozen BK200.out 8))
              go_ret
              exact ⟨by first | rfl | (simp [errW_none, errW_some] <;> rfl) | (simp [*, errW_none, errW_some] <;> rfl), by repeat (first | (with_reducible first | exact HB.out | apply below_alloc | apply pw_below_drewN | apply below_drew1 | refine below_set ?_ GE200.out) | exact HB.out)⟩
          · replace c13 := Bool.eq_false_iff.mpr c13
            subst c13
            have H1 : (some false) = some r := by rw [if_neg (show ¬ (false = true) by decide)] at H; exact H
            clear H
            have H := H1
            clear H1
            obtain rfl := Option.some.inj H
            have hcz27_0 : wr.cell? ⟨gb200, 0, none⟩ = some (.string a0_0) := (blk_cell BK200.out 0).trans rfl
            have hcz27_1 : wr.cell? ⟨gb200, 1, none⟩ = some (.string a0_1) := (blk_cell BK200.out 1).trans rfl
            have hcz27_2 : wr.cell? ⟨gb200, 2, none⟩ = some (.string a0_2) := (blk_cell BK200.out 2).trans rfl
            have hcz27_3 : wr.cell? ⟨gb200, 3, none⟩ = some (.int .i64 a0_3) := (blk_cell BK200.out 3).trans rfl
            have hcz27_4 : wr.cell? ⟨gb200, 4, none⟩ = some (.int .i64 a0_4) := (blk_cell BK200.out 4).trans rfl
            have hcz27_5 : wr.cell? ⟨gb200, 5, none⟩ = some (.slice A0_5 l0_5.length c0_5) := (blk_cell BK200.out 5).trans rfl
            have hcz27_6 : wr.cell? ⟨gb200, 6, none⟩ = some (.int .i64 a0_6) := (blk_cell BK200.out 6).trans rfl
            have hcz27_7 : wr.cell? ⟨gb200, 7, none⟩ = some (.int .i64 a0_7) := (blk_cell BK200.out 7).trans rfl
            have hcz27_8 : wr.cell? ⟨gb200, 8, none⟩ = some (.int .i64 a0_8) := (blk_cell BK200.out 8).trans rfl
            have hfz27_0 := blk_frozen BK200.out 0
            have hfz27_1 := blk_frozen BK200.out 1
            have hfz27_2 := blk_frozen BK200.out 2
            have hfz27_3 := blk_frozen BK200.out 3
            have hfz27_4 := blk_frozen BK200.out 4
            have hfz27_5 := blk_frozen BK200.out 5
            have hfz27_6 := blk_frozen BK200.out 6
            have hfz27_7 := blk_frozen BK200.out 7
            have hfz27_8 := blk_frozen BK200.out 8
            go_wp2_with (first | ((with_reducible refine gate_callee (f := 12) rfl ?_); refine goesL_ (some 29) rfl rfl Try.func12 (by kernel_rfl) rfl #[.agg #[.string a0_0, .string a0_1, .string a0_2, .int .i64 a0_3, .int .i64 a0_4, .slice A0_5 l0_5.length c0_5, .int .i64 a0_6, .int .i64 a0_7, .int .i64 a0_8]] rfl (by (try simp only [List.map_toArray, List.map_cons, List.map_nil]); first | done | rfl | (simp only [List.length_drop, List.length_take]; rfl)) ?_; (with_reducible refine (supercargoref42_May.calls k1 a0_0 a0_1 a0_2 a0_3 a0_4 _ _ l0_5 a0_6 a0_7 a0_8 true _ ?side1 ?side2 A11.out).mono ?_); (case side1 => repeat (first | exact (Kd.C_below HR0_5.out HB.out) | (with_reducible refine Kd.C_alloc ?_ _) | (with_reducible refine Kd.C_drewN ?_ _) | (with_reducible refine Kd.C_drew ?_))); (case side2 => exact HC0_5.out); rintro e w28 ⟨rfl, hb⟩; refine ⟨_, rfl, ?_⟩; have n0_ := Aside0.mk (blk_below (g := gb200) (o := .cells #[.string a0_0, .string a0_1, .string a0_2, .int .i64 a0_3, .int .i64 a0_4, .slice A0_5 l0_5.length c0_5, .int .i64 a0_6, .int .i64 a0_7, .int .i64 a0_8] 24 (0, 0)) (by (with_reducible repeat (first | refine blk_drewN ?_ _ | refine blk_drew ?_ | refine blk_alloc ?_ _)); exact BK200.out) hb); have n1_ := Aside0.mk (below_step (by repeat (first | (with_reducible first | exact HB.out | apply below_alloc | apply pw_below_drewN | apply below_drew1 | refine below_set ?_ GE200.out) | exact HB.out)) hb); clear BK200; clear HB; have BK200 := n0_; have HB := n1_; clear n0_ n1_; (try clear hb); (try clear hb2); (try clear hk); (try clear hi)))
            go_ret
            exact ⟨by first | rfl | (simp [errW_none, errW_some] <;> rfl) | (simp [*, errW_none, errW_some] <;> rfl), by repeat (first | (with_reducible first | exact HB.out | apply below_alloc | apply pw_below_drewN | apply below_drew1 | refine below_set ?_ GE200.out) | exact HB.out)⟩
        · replace c12 := Bool.eq_false_iff.mpr c12
          subst c12
          have H1 : (some false) = some r := by rw [if_neg (show ¬ (false = true) by decide)] at H; exact H
          clear H
          have H := H1
          clear H1
          obtain rfl := Option.some.inj H
          have hcz29_0 : wr.cell? ⟨gb200, 0, none⟩ = some (.string a0_0) := (blk_cell BK200.out 0).trans rfl
          have hcz29_1 : wr.cell? ⟨gb200, 1, none⟩ = some (.string a0_1) := (blk_cell BK200.out 1).trans rfl
          have hcz29_2 : wr.cell? ⟨gb200, 2, none⟩ = some (.string a0_2) := (blk_cell BK200.out 2).trans rfl
          have hcz29_3 : wr.cell? ⟨gb200, 3, none⟩ = some (.int .i64 a0_3) := (blk_cell BK200.out 3).trans rfl
          have hcz29_4 : wr.cell? ⟨gb200, 4, none⟩ = some (.int .i64 a0_4) := (blk_cell BK200.out 4).trans rfl
          have hcz29_5 : wr.cell? ⟨gb200, 5, none⟩ = some (.slice A0_5 l0_5.length c0_5) := (blk_cell BK200.out 5).trans rfl
          have hcz29_6 : wr.cell? ⟨gb200, 6, none⟩ = some (.int .i64 a0_6) := (blk_cell BK200.out 6).trans rfl
          have hcz29_7 : wr.cell? ⟨gb200, 7, none⟩ = some (.int .i64 a0_7) := (blk_cell BK200.out 7).trans rfl
          have hcz29_8 : wr.cell? ⟨gb200, 8, none⟩ = some (.int .i64 a0_8) := (blk_cell BK200.out 8).trans rfl
          have hfz29_0 := blk_frozen BK200.out 0
          have hfz29_1 := blk_frozen BK200.out 1
          have hfz29_2 := blk_frozen BK200.out 2
          have hfz29_3 := blk_frozen BK200.out 3
          have hfz29_4 := blk_frozen BK200.out 4
          have hfz29_5 := blk_frozen BK200.out 5
          have hfz29_6 := blk_frozen BK200.out 6
          have hfz29_7 := blk_frozen BK200.out 7
          have hfz29_8 := blk_frozen BK200.out 8
          go_wp2_with (first | ((with_reducible refine gate_callee (f := 12) rfl ?_); refine goesL_ (some 29) rfl rfl Try.func12 (by kernel_rfl) rfl #[.agg #[.string a0_0, .string a0_1, .string a0_2, .int .i64 a0_3, .int .i64 a0_4, .slice A0_5 l0_5.length c0_5, .int .i64 a0_6, .int .i64 a0_7, .int .i64 a0_8]] rfl (by (try simp only [List.map_toArray, List.map_cons, List.map_nil]); first | done | rfl | (simp only [List.length_drop, List.length_take]; rfl)) ?_; (with_reducible refine (supercargoref42_May.calls k1 a0_0 a0_1 a0_2 a0_3 a0_4 _ _ l0_5 a0_6 a0_7 a0_8 false _ ?side1 ?side2 A11.out).mono ?_); (case side1 => repeat (first | exact (Kd.C_below HR0_5.out HB.out) | (with_reducible refine Kd.C_alloc ?_ _) | (with_reducible refine Kd.C_drewN ?_ _) | (with_reducible refine Kd.C_drew ?_))); (case side2 => exact HC0_5.out); rintro e w30 ⟨rfl, hb⟩; refine ⟨_, rfl, ?_⟩; have n0_ := Aside0.mk (blk_below (g := gb200) (o := .cells #[.string a0_0, .string a0_1, .string a0_2, .int .i64 a0_3, .int .i64 a0_4, .slice A0_5 l0_5.length c0_5, .int .i64 a0_6, .int .i64 a0_7, .int .i64 a0_8] 24 (0, 0)) (by (with_reducible repeat (first | refine blk_drewN ?_ _ | refine blk_drew ?_ | refine blk_alloc ?_ _)); exact BK200.out) hb); have n1_ := Aside0.mk (below_step (by repeat (first | (with_reducible first | exact HB.out | apply below_alloc | apply pw_below_drewN | apply below_drew1 | refine below_set ?_ GE200.out) | exact HB.out)) hb); clear BK200; clear HB; have BK200 := n0_; have HB := n1_; clear n0_ n1_; (try clear hb); (try clear hb2); (try clear hk); (try clear hi)))
          go_ret
          exact ⟨by first | rfl | (simp [errW_none, errW_some] <;> rfl) | (simp [*, errW_none, errW_some] <;> rfl), by repeat (first | (with_reducible first | exact HB.out | apply below_alloc | apply pw_below_drewN | apply below_drew1 | refine below_set ?_ GE200.out) | exact HB.out)⟩

end Go.Proofs.Ytkjcblbpeoijhaa.G
