-- Printed by a program of this session's (wip/lab) after the kit's print: Lean checks it.
import Derived.Test.YtbojieeildhlcaaDoorGx0
import Derived.Test.YtbojieeildhlcaaDoorGx1
import Derived.Test.YtbojieeildhlcaaDoorH21
import Derived.Test.YtbojieeildhlcaaDoorH22
import Derived.Test.YtbojieeildhlcaaDoorExtA
namespace Go.Proofs.YtbojieeildhlcaaDoor.G
open Go.Proofs.YtbojieeildhlcaaDoor.Ext
open Go.RowKit Go.Proofs.YtbojieeildhlcaaDoorW.PrintWords Go.Proofs.YtbojieeildhlcaaDoorW.PrintLast Go.Proofs.YtbojieeildhlcaaDoorW.PrintMore
attribute [local go_sem] max2_int min2_int max_two min_two max_three min_three max_four min_four   -- for this text's walks alone
set_option linter.unusedVariables false
set_option linter.unusedSimpArgs false

/-! ### supercargoref16_Right: function 10 -/
mutual
def supercargoref16_Right.j0 : Nat → List (S35) → List (S30) → ByteArray → ByteArray → Int → Int → Bool → Option (Bool)
  | 0, _, _, _, _, _, _, _ => none
  | k + 1, x0, x1, x2, x3, x4, x5, x30 => if x30 = true then (some false) else (supercargoref16_Right.l0 k x0 x1 x3 x5 x2 x4 0)
def supercargoref16_Right.l0 : Nat → List (S35) → List (S30) → ByteArray → Int → ByteArray → Int → Int → Option (Bool)
  | 0, _, _, _, _, _, _, _ => none
  | k + 1, x0, x1, x3, x5, x13, x14, x15 => if x15 < (x1.length : Int) then (if 0 ≤ x15 then (if ((rd_T30 x1 x15).f0) < 0 then (supercargoref16_Right.j2 k x0 x1 x3 x5 x13 x14 x15 true ((rd_T30 x1 x15).f0) ((rd_T30 x1 x15).f1) ((rd_T30 x1 x15).f2)) else (if ((rd_T30 x1 x15).f0) ≥ (x0.length : Int) then (supercargoref16_Right.j2 k x0 x1 x3 x5 x13 x14 x15 true ((rd_T30 x1 x15).f0) ((rd_T30 x1 x15).f1) ((rd_T30 x1 x15).f2)) else (if 0 ≤ ((rd_T30 x1 x15).f0) then (if ((rd_T30 x1 x15).f0) < (x0.length : Int) then ((supercargoref16_May.f k ((rd_T35 x0 ((rd_T30 x1 x15).f0)).f0) ((rd_T35 x0 ((rd_T30 x1 x15).f0)).f1)).bind fun t222 => (supercargoref16_Right.j2 k x0 x1 x3 x5 x13 x14 x15 (!t222) ((rd_T30 x1 x15).f0) ((rd_T30 x1 x15).f1) ((rd_T30 x1 x15).f2))) else (none)) else (none)))) else (none)) else (some (x13.toList == x3.toList))
def supercargoref16_Right.j2 : Nat → List (S35) → List (S30) → ByteArray → Int → ByteArray → Int → Int → Bool → Int → Int → Int → Option (Bool)
  | 0, _, _, _, _, _, _, _, _, _, _, _ => none
  | k + 1, x0, x1, x3, x5, x13, x14, x15, x61, x221000, x221001, x221002 => if x61 = true then (some false) else (if 0 ≤ x221000 then (if x221000 < (x0.length : Int) then (if x221001 < 0 then (supercargoref16_Right.j3 k x0 x1 x3 x5 x15 ((rd_T35 x0 x221000).f1) true x221000 x221001 x221002) else (if x221001 ≥ x221002 then (supercargoref16_Right.j3 k x0 x1 x3 x5 x15 ((rd_T35 x0 x221000).f1) true x221000 x221001 x221002) else (if x221002 ≥ (((rd_T35 x0 x221000).f1).length : Int) then (supercargoref16_Right.j3 k x0 x1 x3 x5 x15 ((rd_T35 x0 x221000).f1) true x221000 x221001 x221002) else (if 0 ≤ x221001 then (if x221001 < (((rd_T35 x0 x221000).f1).length : Int) then (if ((rd_T32 ((rd_T35 x0 x221000).f1) x221001).f0).toList = x13.toList then (supercargoref16_Right.j3 k x0 x1 x3 x5 x15 ((rd_T35 x0 x221000).f1) (decide (((rd_T32 ((rd_T35 x0 x221000).f1) x221001).f1) < x14)) x221000 x221001 x221002) else (supercargoref16_Right.j3 k x0 x1 x3 x5 x15 ((rd_T35 x0 x221000).f1) true x221000 x221001 x221002)) else (none)) else (none))))) else (none)) else (none))
def supercargoref16_Right.j3 : Nat → List (S35) → List (S30) → ByteArray → Int → Int → List (S32) → Bool → Int → Int → Int → Option (Bool)
  | 0, _, _, _, _, _, _, _, _, _, _ => none
  | k + 1, x0, x1, x3, x5, x15, x17, x104, x221000, x221001, x221002 => if x104 = true then (some false) else (if 0 ≤ x221002 then (if x221002 < (x17.length : Int) then ((supercargoref16_Held.f x5).bind fun t228 => (supercargoref16_Right.l0 k x0 x1 x3 x5 ((rd_T32 x17 x221002).f0) (wrap64 (((rd_T32 x17 x221002).f2) + t228)) (wrap64 (x15 + 1)))) else (none)) else (none))
end
def supercargoref16_Right.f (k : Nat) (l0 : List (S35)) (l1 : List (S30)) (a2 : ByteArray) (a3 : ByteArray) (a4 : Int) (a5 : Int) : Option (Bool) := if a2.toList = a3.toList then (supercargoref16_Right.j0 k l0 l1 a2 a3 a4 a5 true) else (if (l1.length : Int) < 1 then (supercargoref16_Right.j0 k l0 l1 a2 a3 a4 a5 true) else (supercargoref16_Right.j0 k l0 l1 a2 a3 a4 a5 (decide ((l1.length : Int) > 8))))
set_option maxHeartbeats 8000000 in
set_option maxRecDepth 100000 in
theorem supercargoref16_Right.calls (k : Nat) (A0 : Option Addr) (c0 : Nat) (l0 : List (S35)) (A1 : Option Addr) (c1 : Nat) (l1 : List (S30)) (a2 : ByteArray) (a3 : ByteArray) (a4 : Int) (a5 : Int) (r : Bool) (w : World) (hr0 : Kd.C k35 w A0 l0.length l0) (hc0 : l0.length ≤ c0) (hr1 : Kd.C k30 w A1 l1.length l1) (hc1 : l1.length ≤ c1) (h : supercargoref16_Right.f k l0 l1 a2 a3 a4 a5 = some r) :
    Calls Tryd.prog 10 #[.slice A0 l0.length c0, .slice A1 l1.length c1, .string a2, .string a3, .int .i64 a4, .int .i64 a5] w fun e w' => e = .returned (.bool r) ∧ Below w.heap.size w w' := by
  have hu30 := Tryd.underlying30
  have hu35 := Tryd.underlying35
  have HR0 := Aside0.mk hr0
  have HC0 := Aside0.mk hc0
  clear hr0 hc0
  have HR1 := Aside0.mk hr1
  have HC1 := Aside0.mk hc1
  clear hr1 hc1
  have HB := Aside0.mk (Below.refl w.heap.size w)
  have H : (if a2.toList = a3.toList then (supercargoref16_Right.j0 k l0 l1 a2 a3 a4 a5 true) else (if (l1.length : Int) < 1 then (supercargoref16_Right.j0 k l0 l1 a2 a3 a4 a5 true) else (supercargoref16_Right.j0 k l0 l1 a2 a3 a4 a5 (decide ((l1.length : Int) > 8))))) = some r := h
  clear h
  have HC7 := Aside0.mk H
  clear H
  go_enter Tryd.func10, Tryd.ntmps10
  go_upto_region 1 with (fail)
  repeat (go_quiet (fail); go_upto_region 1 with (fail))
  go_cut [30] (fun v30 wc => ∃ (kq : Nat) (x30_6 : Bool), v30 = .bool x30_6 ∧ Aside0 (supercargoref16_Right.j0 kq l0 l1 a2 a3 a4 a5 x30_6 = some r) ∧ Aside0 (kq ≤ k) ∧ Aside0 (Below w.heap.size w wc))
  case first =>
    have H := HC7.out
    clear HC7
    by_cases c8 : a2.toList = a3.toList
    · rw [if_pos c8] at H
      have c8b0 : (a2.toList == a3.toList) = true := beq_iff_eq.mpr c8
      have c8b1 : (a2.toList != a3.toList) = false := bne_eq_false_iff_eq.mpr c8
      clear c8
      (first | rw [c8b0] | (simp only [i64_w, i32_w]; rw [c8b0]) | skip)
      have H' := Aside0.mk H
      clear H
      go_wp2
      repeat (go_quiet (fail); try go_wp2)
      go_meet
      case rel => exact ⟨_, (true), (by first | rfl | (simp; done) | (simp [*]; done)), H', ⟨by first | omega | exact Nat.le_refl _⟩, ⟨by repeat (first | (with_reducible first | exact HB.out | apply below_alloc | apply pw_below_drewN | apply below_drew1) | exact HB.out)⟩⟩
    · rw [if_neg c8] at H
      have c8b0 : (a2.toList == a3.toList) = false := beq_eq_false_iff_ne.mpr c8
      have c8b1 : (a2.toList != a3.toList) = true := bne_iff_ne.mpr c8
      (first | rw [c8b0] | (simp only [i64_w, i32_w]; rw [c8b0]) | skip)
      by_cases c9 : (l1.length : Int) < 1
      · rw [if_pos c9] at H
        have c9b0 : decide ((l1.length : Int) < 1) = true := decide_eq_true c9
        have c9b1 : decide (l1.length < 1) = true := decide_eq_true (by omega)
        clear c9
        have H' := Aside0.mk H
        clear H
        go_wp2
        repeat (go_quiet (fail); try go_wp2)
        go_meet
        case rel => exact ⟨_, (true), (by first | rfl | (simp; done) | (simp [*]; done)), H', ⟨by first | omega | exact Nat.le_refl _⟩, ⟨by repeat (first | (with_reducible first | exact HB.out | apply below_alloc | apply pw_below_drewN | apply below_drew1) | exact HB.out)⟩⟩
      · rw [if_neg c9] at H
        have c9b0 : decide ((l1.length : Int) < 1) = false := decide_eq_false c9
        have c9b1 : decide (l1.length < 1) = false := decide_eq_false (by omega)
        clear c9
        have H' := Aside0.mk H
        clear H
        go_wp2
        repeat (go_quiet (fail); try go_wp2)
        go_meet
        case rel => exact ⟨_, (decide ((l1.length : Int) > 8)), (by first | rfl | (simp; done) | (simp [*]; done)), H', ⟨by first | omega | exact Nat.le_refl _⟩, ⟨by repeat (first | (with_reducible first | exact HB.out | apply below_alloc | apply pw_below_drewN | apply below_drew1) | exact HB.out)⟩⟩
  case rest =>
    clear HC7
    try clear c1
    try clear p2
    try clear c8
    try clear c8b0
    try clear c8b1
    try clear c9
    try clear c9b0
    try clear c9b1
    obtain ⟨kq, x30_6, rfl, HA, HJ6, HB⟩ := hcut
    cases kq with
    | zero => exact absurd HA.out (by simp [supercargoref16_Right.j0])
    | succ kj6 =>
      have H := HA.out
      clear HA
      simp only [supercargoref16_Right.j0] at H
      by_cases c10 : x30_6 = true
      · subst c10
        have H1 : (some false) = some r := by rw [if_pos rfl] at H; exact H
        clear H
        have H := H1
        clear H1
        obtain rfl := Option.some.inj H
        go_wp2
        repeat (go_quiet (fail); try go_wp2)
        go_ret
        exact ⟨by first | rfl | (simp [errW_none, errW_some] <;> rfl) | (simp [*, errW_none, errW_some] <;> rfl), by repeat (first | (with_reducible first | exact HB.out | apply below_alloc | apply pw_below_drewN | apply below_drew1) | exact HB.out)⟩
      · replace c10 := Bool.eq_false_iff.mpr c10
        subst c10
        have H1 : (supercargoref16_Right.l0 kj6 l0 l1 a3 a5 a2 a4 0) = some r := by rw [if_neg (show ¬ (false = true) by decide)] at H; exact H
        clear H
        have H := H1
        clear H1
        have H' := Aside0.mk H
        clear H
        go_wp2
        repeat (go_quiet (fail); try go_wp2)
        go_loopg [13, 14, 15] kj6 (fun kq v13 v14 v15 w' => ∃ (x13_2 : ByteArray) (x14_2 : Int) (x15_2 : Int), v13 = .string x13_2 ∧ v14 = .int .i64 x14_2 ∧ v15 = .int .i64 x15_2 ∧ Aside0 (supercargoref16_Right.l0 kq l0 l1 a3 a5 x13_2 x14_2 x15_2 = some r) ∧ Aside0 (kq ≤ kj6) ∧ Aside0 (Below w.heap.size w w'))
        case atStart => exact ⟨(a2), (a4), (0), (by first | rfl | (simp; done) | (simp [*]; done)), (by first | rfl | (simp; done) | (simp [*]; done)), (by first | rfl | (simp; done) | (simp [*]; done)), H', ⟨Nat.le_refl _⟩, ⟨by repeat (first | (with_reducible first | exact HB.out | apply below_alloc | apply pw_below_drewN | apply below_drew1) | exact HB.out)⟩⟩
        case round =>
          clear H'
          try clear c1
          try clear p2
          try clear c8
          try clear c8b0
          try clear c8b1
          try clear c9
          try clear c9b0
          try clear c9b1
          try clear c10
          try clear p2
          obtain ⟨x13_2, x14_2, x15_2, rfl, rfl, rfl, HA, HK2, HB⟩ := hrel
          cases gk with
          | zero => exact absurd HA.out (by simp [supercargoref16_Right.l0])
          | succ k2 =>
            have H := HA.out
            clear HA
            simp only [supercargoref16_Right.l0] at H
            by_cases c11 : x15_2 < (l1.length : Int)
            · rw [if_pos c11] at H
              have c11b0 : decide (x15_2 < (l1.length : Int)) = true := decide_eq_true c11
              clear c11
              by_cases c12 : 0 ≤ x15_2
              · rw [if_pos c12] at H
                have c12b0 : decide (0 ≤ x15_2) = true := decide_eq_true c12
                clear c12
                have HC13 := Aside0.mk H
                clear H
                have p219 : 0 ≤ (x15_2 : Int) := of_decide_eq_true (by first | (with_reducible assumption) | assumption)
                have q219 : x15_2 < (l1.length : Int) := of_decide_eq_true (by first | (with_reducible assumption) | assumption)
                obtain ⟨ad219, e219, hx219_0, hx219_1, hx219_2⟩ := at_T30 HR1.out x15_2 p219 q219
                cases e219
                replace hx219_0 := (HB.out.cell (World.block_lt_of_cell? w _ hx219_0)).trans hx219_0
                replace hx219_1 := (HB.out.cell (World.block_lt_of_cell? w _ hx219_1)).trans hx219_1
                replace hx219_2 := (HB.out.cell (World.block_lt_of_cell? w _ hx219_2)).trans hx219_2
                replace p219 := eq_true p219
                replace q219 := eq_true q219
                go_upto_region 9 with (first | ((with_reducible refine gate_dst (N := 16) rfl ?_); (try (refine gate_guard (by rfl) ?_; dsimp only)); refine box_event ?hg (N := 16) ?hd (cs := #[.int .i64 0, .int .i64 0, .int .i64 0]) (t := 30) ?hr ?_; (case hd => rfl); (case hg => rfl); (case hr => first | (go_simp; done) | (go_simp; rfl)); intro gb220 hg w14 hbox hb; have n0_ := Aside0.mk (below_step (by repeat (first | (with_reducible first | exact HB.out | apply below_alloc | apply pw_below_drewN | apply below_drew1) | exact HB.out)) hb); have n1_ := Aside0.mk (hbox); have n2_ := Aside0.mk ((by rw [hg]; exact (below_size (by repeat (first | (with_reducible first | exact HB.out | apply below_alloc | apply pw_below_drewN | apply below_drew1) | exact HB.out))) : w.heap.size ≤ gb220)); have n3_ := Aside0.mk ((by rw [hg]; exact (below_size (by repeat (first | (with_reducible first | exact HB.out | apply below_alloc | apply pw_below_drewN | apply below_drew1) | exact HB.out))) : w.heap.size ≤ gb220)); clear HB; have HB := n0_; have BK220 := n1_; have GW220 := n2_; have GE220 := n3_; clear n0_ n1_ n2_ n3_; clear hb hbox hg; have hcz15_0 : w14.cell? ⟨gb220, 0, none⟩ = some (.int .i64 0) := (blk_cell BK220.out 0).trans rfl; have hcz15_1 : w14.cell? ⟨gb220, 1, none⟩ = some (.int .i64 0) := (blk_cell BK220.out 1).trans rfl; have hcz15_2 : w14.cell? ⟨gb220, 2, none⟩ = some (.int .i64 0) := (blk_cell BK220.out 2).trans rfl; have hfz15_0 := blk_frozen BK220.out 0; have hfz15_1 := blk_frozen BK220.out 1; have hfz15_2 := blk_frozen BK220.out 2))
                repeat (go_quiet (first | ((with_reducible refine gate_dst (N := 16) rfl ?_); (try (refine gate_guard (by rfl) ?_; dsimp only)); refine box_event ?hg (N := 16) ?hd (cs := #[.int .i64 0, .int .i64 0, .int .i64 0]) (t := 30) ?hr ?_; (case hd => rfl); (case hg => rfl); (case hr => first | (go_simp; done) | (go_simp; rfl)); intro gb220 hg w14 hbox hb; have n0_ := Aside0.mk (below_step (by repeat (first | (with_reducible first | exact HB.out | apply below_alloc | apply pw_below_drewN | apply below_drew1) | exact HB.out)) hb); have n1_ := Aside0.mk (hbox); have n2_ := Aside0.mk ((by rw [hg]; exact (below_size (by repeat (first | (with_reducible first | exact HB.out | apply below_alloc | apply pw_below_drewN | apply below_drew1) | exact HB.out))) : w.heap.size ≤ gb220)); have n3_ := Aside0.mk ((by rw [hg]; exact (below_size (by repeat (first | (with_reducible first | exact HB.out | apply below_alloc | apply pw_below_drewN | apply below_drew1) | exact HB.out))) : w.heap.size ≤ gb220)); clear HB; have HB := n0_; have BK220 := n1_; have GW220 := n2_; have GE220 := n3_; clear n0_ n1_ n2_ n3_; clear hb hbox hg; have hcz15_0 : w14.cell? ⟨gb220, 0, none⟩ = some (.int .i64 0) := (blk_cell BK220.out 0).trans rfl; have hcz15_1 : w14.cell? ⟨gb220, 1, none⟩ = some (.int .i64 0) := (blk_cell BK220.out 1).trans rfl; have hcz15_2 : w14.cell? ⟨gb220, 2, none⟩ = some (.int .i64 0) := (blk_cell BK220.out 2).trans rfl; have hfz15_0 := blk_frozen BK220.out 0; have hfz15_1 := blk_frozen BK220.out 1; have hfz15_2 := blk_frozen BK220.out 2)); go_upto_region 9 with (first | ((with_reducible refine gate_dst (N := 16) rfl ?_); (try (refine gate_guard (by rfl) ?_; dsimp only)); refine box_event ?hg (N := 16) ?hd (cs := #[.int .i64 0, .int .i64 0, .int .i64 0]) (t := 30) ?hr ?_; (case hd => rfl); (case hg => rfl); (case hr => first | (go_simp; done) | (go_simp; rfl)); intro gb220 hg w14 hbox hb; have n0_ := Aside0.mk (below_step (by repeat (first | (with_reducible first | exact HB.out | apply below_alloc | apply pw_below_drewN | apply below_drew1) | exact HB.out)) hb); have n1_ := Aside0.mk (hbox); have n2_ := Aside0.mk ((by rw [hg]; exact (below_size (by repeat (first | (with_reducible first | exact HB.out | apply below_alloc | apply pw_below_drewN | apply below_drew1) | exact HB.out))) : w.heap.size ≤ gb220)); have n3_ := Aside0.mk ((by rw [hg]; exact (below_size (by repeat (first | (with_reducible first | exact HB.out | apply below_alloc | apply pw_below_drewN | apply below_drew1) | exact HB.out))) : w.heap.size ≤ gb220)); clear HB; have HB := n0_; have BK220 := n1_; have GW220 := n2_; have GE220 := n3_; clear n0_ n1_ n2_ n3_; clear hb hbox hg; have hcz15_0 : w14.cell? ⟨gb220, 0, none⟩ = some (.int .i64 0) := (blk_cell BK220.out 0).trans rfl; have hcz15_1 : w14.cell? ⟨gb220, 1, none⟩ = some (.int .i64 0) := (blk_cell BK220.out 1).trans rfl; have hcz15_2 : w14.cell? ⟨gb220, 2, none⟩ = some (.int .i64 0) := (blk_cell BK220.out 2).trans rfl; have hfz15_0 := blk_frozen BK220.out 0; have hfz15_1 := blk_frozen BK220.out 1; have hfz15_2 := blk_frozen BK220.out 2)))
                (try simp only [Act.put, List.setIfInBounds_toArray, List.set_cons_zero, List.set_cons_succ])
                go_cut [61] (fun v61 wc => ∃ (kq : Nat) (x61_12 : Bool), v61 = .bool x61_12 ∧ Aside0 (supercargoref16_Right.j2 kq l0 l1 a3 a5 x13_2 x14_2 x15_2 x61_12 ((rd_T30 l1 x15_2).f0) ((rd_T30 l1 x15_2).f1) ((rd_T30 l1 x15_2).f2) = some r) ∧ Aside0 (kq ≤ k2) ∧ Aside0 (wc.heap[gb220]? = some (.cells #[.int .i64 ((rd_T30 l1 x15_2).f0), .int .i64 ((rd_T30 l1 x15_2).f1), .int .i64 ((rd_T30 l1 x15_2).f2)] 30 (0, 0))) ∧ Aside0 (Below w.heap.size w wc))
                case first =>
                  have H := HC13.out
                  clear HC13
                  by_cases c16 : ((rd_T30 l1 x15_2).f0) < 0
                  · rw [if_pos c16] at H
                    have c16b0 : decide (((rd_T30 l1 x15_2).f0) < 0) = true := decide_eq_true c16
                    clear c16
                    (first | rw [c16b0] | (simp only [i64_w, i32_w]; rw [c16b0]) | skip)
                    have H' := Aside0.mk H
                    clear H
                    have hcz17_0 : w14.cell? ⟨gb220, 0, none⟩ = some (.int .i64 0) := (blk_cell BK220.out 0).trans rfl
                    have hcz17_1 : w14.cell? ⟨gb220, 1, none⟩ = some (.int .i64 0) := (blk_cell BK220.out 1).trans rfl
                    have hcz17_2 : w14.cell? ⟨gb220, 2, none⟩ = some (.int .i64 0) := (blk_cell BK220.out 2).trans rfl
                    have hfz17_0 := blk_frozen BK220.out 0
                    have hfz17_1 := blk_frozen BK220.out 1
                    have hfz17_2 := blk_frozen BK220.out 2
                    go_wp2
                    repeat (go_quiet (fail); try go_wp2)
                    go_meet
                    case rel => exact ⟨_, (true), (by first | rfl | (simp; done) | (simp [*]; done)), H', ⟨by have := HJ6.out; have := HK2.out; first | omega | exact Nat.le_refl _⟩, ⟨by (with_reducible repeat (first | refine blk_drewN ?_ _ | refine blk_drew ?_ | refine blk_alloc ?_ _)); refine blk_put (cs := #[.int .i64 ((rd_T30 l1 x15_2).f0), .int .i64 ((rd_T30 l1 x15_2).f1), .int .i64 0]) ?_ 2 _ rfl; (with_reducible repeat (first | refine blk_drewN ?_ _ | refine blk_drew ?_ | refine blk_alloc ?_ _)); refine blk_put (cs := #[.int .i64 ((rd_T30 l1 x15_2).f0), .int .i64 0, .int .i64 0]) ?_ 1 _ rfl; (with_reducible repeat (first | refine blk_drewN ?_ _ | refine blk_drew ?_ | refine blk_alloc ?_ _)); refine blk_put (cs := #[.int .i64 0, .int .i64 0, .int .i64 0]) ?_ 0 _ rfl; (with_reducible repeat (first | refine blk_drewN ?_ _ | refine blk_drew ?_ | refine blk_alloc ?_ _)); exact BK220.out⟩, ⟨by repeat (first | (with_reducible first | exact HB.out | apply below_alloc | apply pw_below_drewN | apply below_drew1 | refine below_set ?_ GE220.out) | exact HB.out)⟩⟩
                  · rw [if_neg c16] at H
                    have c16b0 : decide (((rd_T30 l1 x15_2).f0) < 0) = false := decide_eq_false c16
                    clear c16
                    (first | rw [c16b0] | (simp only [i64_w, i32_w]; rw [c16b0]) | skip)
                    by_cases c18 : ((rd_T30 l1 x15_2).f0) ≥ (l0.length : Int)
                    · rw [if_pos c18] at H
                      have c18b0 : decide ((l0.length : Int) ≤ ((rd_T30 l1 x15_2).f0)) = true := decide_eq_true c18
                      clear c18
                      have H' := Aside0.mk H
                      clear H
                      have hcz19_0 : w14.cell? ⟨gb220, 0, none⟩ = some (.int .i64 0) := (blk_cell BK220.out 0).trans rfl
                      have hcz19_1 : w14.cell? ⟨gb220, 1, none⟩ = some (.int .i64 0) := (blk_cell BK220.out 1).trans rfl
                      have hcz19_2 : w14.cell? ⟨gb220, 2, none⟩ = some (.int .i64 0) := (blk_cell BK220.out 2).trans rfl
                      have hfz19_0 := blk_frozen BK220.out 0
                      have hfz19_1 := blk_frozen BK220.out 1
                      have hfz19_2 := blk_frozen BK220.out 2
                      go_wp2
                      repeat (go_quiet (fail); try go_wp2)
                      go_meet
                      case rel => exact ⟨_, (true), (by first | rfl | (simp; done) | (simp [*]; done)), H', ⟨by have := HJ6.out; have := HK2.out; first | omega | exact Nat.le_refl _⟩, ⟨by (with_reducible repeat (first | refine blk_drewN ?_ _ | refine blk_drew ?_ | refine blk_alloc ?_ _)); refine blk_put (cs := #[.int .i64 ((rd_T30 l1 x15_2).f0), .int .i64 ((rd_T30 l1 x15_2).f1), .int .i64 0]) ?_ 2 _ rfl; (with_reducible repeat (first | refine blk_drewN ?_ _ | refine blk_drew ?_ | refine blk_alloc ?_ _)); refine blk_put (cs := #[.int .i64 ((rd_T30 l1 x15_2).f0), .int .i64 0, .int .i64 0]) ?_ 1 _ rfl; (with_reducible repeat (first | refine blk_drewN ?_ _ | refine blk_drew ?_ | refine blk_alloc ?_ _)); refine blk_put (cs := #[.int .i64 0, .int .i64 0, .int .i64 0]) ?_ 0 _ rfl; (with_reducible repeat (first | refine blk_drewN ?_ _ | refine blk_drew ?_ | refine blk_alloc ?_ _)); exact BK220.out⟩, ⟨by repeat (first | (with_reducible first | exact HB.out | apply below_alloc | apply pw_below_drewN | apply below_drew1 | refine below_set ?_ GE220.out) | exact HB.out)⟩⟩
                    · rw [if_neg c18] at H
                      have c18b0 : decide ((l0.length : Int) ≤ ((rd_T30 l1 x15_2).f0)) = false := decide_eq_false c18
                      clear c18
                      by_cases c20 : 0 ≤ ((rd_T30 l1 x15_2).f0)
                      · rw [if_pos c20] at H
                        have c20b0 : decide (0 ≤ ((rd_T30 l1 x15_2).f0)) = true := decide_eq_true c20
                        clear c20
                        by_cases c21 : ((rd_T30 l1 x15_2).f0) < (l0.length : Int)
                        · rw [if_pos c21] at H
                          have c21b0 : decide (((rd_T30 l1 x15_2).f0) < (l0.length : Int)) = true := decide_eq_true c21
                          clear c21
                          replace H := Option.bind_eq_some_iff.mp H
                          obtain ⟨t222, A220, H⟩ := H
                          replace H : (supercargoref16_Right.j2 k2 l0 l1 a3 a5 x13_2 x14_2 x15_2 (!t222) ((rd_T30 l1 x15_2).f0) ((rd_T30 l1 x15_2).f1) ((rd_T30 l1 x15_2).f2)) = some r := H
                          have A22 := Aside0.mk A220
                          clear A220
                          have H' := Aside0.mk H
                          clear H
                          have hcz23_0 : w14.cell? ⟨gb220, 0, none⟩ = some (.int .i64 0) := (blk_cell BK220.out 0).trans rfl
                          have hcz23_1 : w14.cell? ⟨gb220, 1, none⟩ = some (.int .i64 0) := (blk_cell BK220.out 1).trans rfl
                          have hcz23_2 : w14.cell? ⟨gb220, 2, none⟩ = some (.int .i64 0) := (blk_cell BK220.out 2).trans rfl
                          have hfz23_0 := blk_frozen BK220.out 0
                          have hfz23_1 := blk_frozen BK220.out 1
                          have hfz23_2 := blk_frozen BK220.out 2
                          have p221 : 0 ≤ (((rd_T30 l1 x15_2).f0) : Int) := of_decide_eq_true (by first | (with_reducible assumption) | assumption)
                          have q221 : ((rd_T30 l1 x15_2).f0) < (l0.length : Int) := of_decide_eq_true (by first | (with_reducible assumption) | assumption)
                          obtain ⟨ad221, A221_1, c221_1, e221, hx221_0, hx221_1, hl221_1, hi221_1⟩ := at_T35 HR0.out ((rd_T30 l1 x15_2).f0) p221 q221
                          cases e221
                          have hn221_0 : ad221.block ≠ gb220 := Nat.ne_of_lt (Nat.lt_of_lt_of_le (by have := World.block_lt_of_cell? _ _ hx221_0; first | rwa [add_block] at this | exact this) GW220.out)
                          have hn221_1 : ad221.block ≠ gb220 := Nat.ne_of_lt (Nat.lt_of_lt_of_le (by have := World.block_lt_of_cell? _ _ hx221_0; first | rwa [add_block] at this | exact this) GW220.out)
                          have hn221_2 : ad221.block ≠ gb220 := Nat.ne_of_lt (Nat.lt_of_lt_of_le (by have := World.block_lt_of_cell? _ _ hx221_0; first | rwa [add_block] at this | exact this) GW220.out)
                          replace hx221_0 := (HB.out.cell (World.block_lt_of_cell? w _ hx221_0)).trans hx221_0
                          replace hx221_1 := (HB.out.cell (World.block_lt_of_cell? w _ hx221_1)).trans hx221_1
                          have HR221_1 := Aside0.mk hi221_1
                          have HC221_1 := Aside0.mk hl221_1
                          clear hi221_1 hl221_1
                          replace hx221_0 := (cell_far (p := ⟨gb220, 0, none⟩) (by first | (rw [add_block]; exact hn221_0) | (show (Addr.add _ _).block ≠ _; rw [add_block]; exact hn221_0) | exact hn221_0) (.int .i64 ((rd_T30 l1 x15_2).f0))).trans hx221_0
                          replace hx221_1 := (cell_far (p := ⟨gb220, 0, none⟩) (by first | (rw [add_block]; exact hn221_0) | (show (Addr.add _ _).block ≠ _; rw [add_block]; exact hn221_0) | exact hn221_0) (.int .i64 ((rd_T30 l1 x15_2).f0))).trans hx221_1
                          replace hx221_0 := (cell_far (p := ⟨gb220, 1, none⟩) (by first | (rw [add_block]; exact hn221_1) | (show (Addr.add _ _).block ≠ _; rw [add_block]; exact hn221_1) | exact hn221_1) (.int .i64 ((rd_T30 l1 x15_2).f1))).trans hx221_0
                          replace hx221_1 := (cell_far (p := ⟨gb220, 1, none⟩) (by first | (rw [add_block]; exact hn221_1) | (show (Addr.add _ _).block ≠ _; rw [add_block]; exact hn221_1) | exact hn221_1) (.int .i64 ((rd_T30 l1 x15_2).f1))).trans hx221_1
                          replace hx221_0 := (cell_far (p := ⟨gb220, 2, none⟩) (by first | (rw [add_block]; exact hn221_2) | (show (Addr.add _ _).block ≠ _; rw [add_block]; exact hn221_2) | exact hn221_2) (.int .i64 ((rd_T30 l1 x15_2).f2))).trans hx221_0
                          replace hx221_1 := (cell_far (p := ⟨gb220, 2, none⟩) (by first | (rw [add_block]; exact hn221_2) | (show (Addr.add _ _).block ≠ _; rw [add_block]; exact hn221_2) | exact hn221_2) (.int .i64 ((rd_T30 l1 x15_2).f2))).trans hx221_1
                          (try have hy221_0 := fun (n_ : Nat) => (show (((((w14.drewN n_).setCell ⟨gb220, 0, none⟩ (.int .i64 ((rd_T30 l1 x15_2).f0))).setCell ⟨gb220, 1, none⟩ (.int .i64 ((rd_T30 l1 x15_2).f1))).setCell ⟨gb220, 2, none⟩ (.int .i64 ((rd_T30 l1 x15_2).f2)))).cell? _ = some _ from hx221_0))
                          (try have hy221_1 := fun (n_ : Nat) => (show (((((w14.drewN n_).setCell ⟨gb220, 0, none⟩ (.int .i64 ((rd_T30 l1 x15_2).f0))).setCell ⟨gb220, 1, none⟩ (.int .i64 ((rd_T30 l1 x15_2).f1))).setCell ⟨gb220, 2, none⟩ (.int .i64 ((rd_T30 l1 x15_2).f2)))).cell? _ = some _ from hx221_1))
                          clear hn221_0
                          clear hn221_1
                          clear hn221_2
                          replace p221 := eq_true p221
                          replace q221 := eq_true q221
                          go_wp2_with (first | (go_at_call 21; (with_reducible refine (supercargoref16_May.calls k2 ((rd_T35 l0 ((rd_T30 l1 x15_2).f0)).f0) _ _ ((rd_T35 l0 ((rd_T30 l1 x15_2).f0)).f1) t222 _ ?side1 ?side2 A22.out).mono ?_); (case side1 => exact Kd.C_below HR221_1.out (by repeat (first | (with_reducible first | exact HB.out | apply below_alloc | apply pw_below_drewN | apply below_drew1 | refine below_set ?_ GE220.out) | exact HB.out))); (case side2 => exact HC221_1.out); rintro e w24 ⟨rfl, hb⟩; have n0_ := Aside0.mk (blk_below (g := gb220) (o := .cells #[.int .i64 ((rd_T30 l1 x15_2).f0), .int .i64 ((rd_T30 l1 x15_2).f1), .int .i64 ((rd_T30 l1 x15_2).f2)] 30 (0, 0)) (by (with_reducible repeat (first | refine blk_drewN ?_ _ | refine blk_drew ?_ | refine blk_alloc ?_ _)); refine blk_put (cs := #[.int .i64 ((rd_T30 l1 x15_2).f0), .int .i64 ((rd_T30 l1 x15_2).f1), .int .i64 0]) ?_ 2 _ rfl; (with_reducible repeat (first | refine blk_drewN ?_ _ | refine blk_drew ?_ | refine blk_alloc ?_ _)); refine blk_put (cs := #[.int .i64 ((rd_T30 l1 x15_2).f0), .int .i64 0, .int .i64 0]) ?_ 1 _ rfl; (with_reducible repeat (first | refine blk_drewN ?_ _ | refine blk_drew ?_ | refine blk_alloc ?_ _)); refine blk_put (cs := #[.int .i64 0, .int .i64 0, .int .i64 0]) ?_ 0 _ rfl; (with_reducible repeat (first | refine blk_drewN ?_ _ | refine blk_drew ?_ | refine blk_alloc ?_ _)); exact BK220.out) hb); have n1_ := Aside0.mk (below_step (by repeat (first | (with_reducible first | exact HB.out | apply below_alloc | apply pw_below_drewN | apply below_drew1 | refine below_set ?_ GE220.out) | exact HB.out)) hb); clear BK220; clear HB; have BK220 := n0_; have HB := n1_; clear n0_ n1_; (try clear hb); (try clear hb2); (try clear hk); (try clear hi)))
                          repeat (go_quiet (first | (go_at_call 21; (with_reducible refine (supercargoref16_May.calls k2 ((rd_T35 l0 ((rd_T30 l1 x15_2).f0)).f0) _ _ ((rd_T35 l0 ((rd_T30 l1 x15_2).f0)).f1) t222 _ ?side1 ?side2 A22.out).mono ?_); (case side1 => exact Kd.C_below HR221_1.out (by repeat (first | (with_reducible first | exact HB.out | apply below_alloc | apply pw_below_drewN | apply below_drew1 | refine below_set ?_ GE220.out) | exact HB.out))); (case side2 => exact HC221_1.out); rintro e w24 ⟨rfl, hb⟩; have n0_ := Aside0.mk (blk_below (g := gb220) (o := .cells #[.int .i64 ((rd_T30 l1 x15_2).f0), .int .i64 ((rd_T30 l1 x15_2).f1), .int .i64 ((rd_T30 l1 x15_2).f2)] 30 (0, 0)) (by (with_reducible repeat (first | refine blk_drewN ?_ _ | refine blk_drew ?_ | refine blk_alloc ?_ _)); refine blk_put (cs := #[.int .i64 ((rd_T30 l1 x15_2).f0), .int .i64 ((rd_T30 l1 x15_2).f1), .int .i64 0]) ?_ 2 _ rfl; (with_reducible repeat (first | refine blk_drewN ?_ _ | refine blk_drew ?_ | refine blk_alloc ?_ _)); refine blk_put (cs := #[.int .i64 ((rd_T30 l1 x15_2).f0), .int .i64 0, .int .i64 0]) ?_ 1 _ rfl; (with_reducible repeat (first | refine blk_drewN ?_ _ | refine blk_drew ?_ | refine blk_alloc ?_ _)); refine blk_put (cs := #[.int .i64 0, .int .i64 0, .int .i64 0]) ?_ 0 _ rfl; (with_reducible repeat (first | refine blk_drewN ?_ _ | refine blk_drew ?_ | refine blk_alloc ?_ _)); exact BK220.out) hb); have n1_ := Aside0.mk (below_step (by repeat (first | (with_reducible first | exact HB.out | apply below_alloc | apply pw_below_drewN | apply below_drew1 | refine below_set ?_ GE220.out) | exact HB.out)) hb); clear BK220; clear HB; have BK220 := n0_; have HB := n1_; clear n0_ n1_; (try clear hb); (try clear hb2); (try clear hk); (try clear hi))); try go_wp2_with (first | (go_at_call 21; (with_reducible refine (supercargoref16_May.calls k2 ((rd_T35 l0 ((rd_T30 l1 x15_2).f0)).f0) _ _ ((rd_T35 l0 ((rd_T30 l1 x15_2).f0)).f1) t222 _ ?side1 ?side2 A22.out).mono ?_); (case side1 => exact Kd.C_below HR221_1.out (by repeat (first | (with_reducible first | exact HB.out | apply below_alloc | apply pw_below_drewN | apply below_drew1 | refine below_set ?_ GE220.out) | exact HB.out))); (case side2 => exact HC221_1.out); rintro e w24 ⟨rfl, hb⟩; have n0_ := Aside0.mk (blk_below (g := gb220) (o := .cells #[.int .i64 ((rd_T30 l1 x15_2).f0), .int .i64 ((rd_T30 l1 x15_2).f1), .int .i64 ((rd_T30 l1 x15_2).f2)] 30 (0, 0)) (by (with_reducible repeat (first | refine blk_drewN ?_ _ | refine blk_drew ?_ | refine blk_alloc ?_ _)); refine blk_put (cs := #[.int .i64 ((rd_T30 l1 x15_2).f0), .int .i64 ((rd_T30 l1 x15_2).f1), .int .i64 0]) ?_ 2 _ rfl; (with_reducible repeat (first | refine blk_drewN ?_ _ | refine blk_drew ?_ | refine blk_alloc ?_ _)); refine blk_put (cs := #[.int .i64 ((rd_T30 l1 x15_2).f0), .int .i64 0, .int .i64 0]) ?_ 1 _ rfl; (with_reducible repeat (first | refine blk_drewN ?_ _ | refine blk_drew ?_ | refine blk_alloc ?_ _)); refine blk_put (cs := #[.int .i64 0, .int .i64 0, .int .i64 0]) ?_ 0 _ rfl; (with_reducible repeat (first | refine blk_drewN ?_ _ | refine blk_drew ?_ | refine blk_alloc ?_ _)); exact BK220.out) hb); have n1_ := Aside0.mk (below_step (by repeat (first | (with_reducible first | exact HB.out | apply below_alloc | apply pw_below_drewN | apply below_drew1 | refine below_set ?_ GE220.out) | exact HB.out)) hb); clear BK220; clear HB; have BK220 := n0_; have HB := n1_; clear n0_ n1_; (try clear hb); (try clear hb2); (try clear hk); (try clear hi))))
                          go_meet
                          case rel => exact ⟨_, (!t222), (by first | rfl | (simp; done) | (simp [*]; done)), H', ⟨by have := HJ6.out; have := HK2.out; first | omega | exact Nat.le_refl _⟩, ⟨by (with_reducible repeat (first | refine blk_drewN ?_ _ | refine blk_drew ?_ | refine blk_alloc ?_ _)); exact BK220.out⟩, ⟨by repeat (first | (with_reducible first | exact HB.out | apply below_alloc | apply pw_below_drewN | apply below_drew1 | refine below_set ?_ GE220.out) | exact HB.out)⟩⟩
                        · rw [if_neg c21] at H
                          exact absurd H (by simp)
                      · rw [if_neg c20] at H
                        exact absurd H (by simp)
                case rest =>
                  clear HC13
                  try clear c1
                  try clear c2
                  try clear p2
                  try clear q2
                  try clear hx2
                  try clear c8
                  try clear c8b0
                  try clear c8b1
                  try clear c9
                  try clear c9b0
                  try clear c9b1
                  try clear c10
                  try clear c11
                  try clear c11b0
                  try clear c12
                  try clear c12b0
                  try clear c16
                  try clear c16b0
                  try clear c18
                  try clear c18b0
                  try clear c20
                  try clear c20b0
                  try clear c21
                  try clear c21b0
                  try clear p21
                  try clear q21
                  try clear hx21
                  try clear c22
                  try clear p22
                  try clear q22
                  try clear hx22
                  try clear hcz15_0
                  try clear hcz15_1
                  try clear hcz15_2
                  try clear hcz17_0
                  try clear hcz17_1
                  try clear hcz17_2
                  try clear hcz19_0
                  try clear hcz19_1
                  try clear hcz19_2
                  try clear hcz23_0
                  try clear hcz23_1
                  try clear hcz23_2
                  try clear hfz15_0
                  try clear hfz15_1
                  try clear hfz15_2
                  try clear hfz17_0
                  try clear hfz17_1
                  try clear hfz17_2
                  try clear hfz19_0
                  try clear hfz19_1
                  try clear hfz19_2
                  try clear hfz23_0
                  try clear hfz23_1
                  try clear hfz23_2
                  try clear hx219_0
                  try clear hx219_1
                  try clear hx219_2
                  try clear hx221_0
                  try clear hx221_1
                  try clear p2
                  try clear p219
                  try clear p221
                  try clear q219
                  try clear q221
                  obtain ⟨kq, x61_12, rfl, HA, HJ12, BK220, HB⟩ := hcut
                  cases kq with
                  | zero => exact absurd HA.out (by simp [supercargoref16_Right.j2])
                  | succ kj12 =>
                    have H := HA.out
                    clear HA
                    simp only [supercargoref16_Right.j2] at H
                    by_cases c25 : x61_12 = true
                    · subst c25
                      have H1 : (some false) = some r := by rw [if_pos rfl] at H; exact H
                      clear H
                      have H := H1
                      clear H1
                      obtain rfl := Option.some.inj H
                      go_wp2
                      repeat (go_quiet (fail); try go_wp2)
                      go_ret
                      exact ⟨by first | rfl | (simp [errW_none, errW_some] <;> rfl) | (simp [*, errW_none, errW_some] <;> rfl), by repeat (first | (with_reducible first | exact HB.out | apply below_alloc | apply pw_below_drewN | apply below_drew1 | refine below_set ?_ GE220.out) | exact HB.out)⟩
                    · replace c25 := Bool.eq_false_iff.mpr c25
                      subst c25
                      have H1 : (if 0 ≤ ((rd_T30 l1 x15_2).f0) then (if ((rd_T30 l1 x15_2).f0) < (l0.length : Int) then (if ((rd_T30 l1 x15_2).f1) < 0 then (supercargoref16_Right.j3 kj12 l0 l1 a3 a5 x15_2 ((rd_T35 l0 ((rd_T30 l1 x15_2).f0)).f1) true ((rd_T30 l1 x15_2).f0) ((rd_T30 l1 x15_2).f1) ((rd_T30 l1 x15_2).f2)) else (if ((rd_T30 l1 x15_2).f1) ≥ ((rd_T30 l1 x15_2).f2) then (supercargoref16_Right.j3 kj12 l0 l1 a3 a5 x15_2 ((rd_T35 l0 ((rd_T30 l1 x15_2).f0)).f1) true ((rd_T30 l1 x15_2).f0) ((rd_T30 l1 x15_2).f1) ((rd_T30 l1 x15_2).f2)) else (if ((rd_T30 l1 x15_2).f2) ≥ (((rd_T35 l0 ((rd_T30 l1 x15_2).f0)).f1).length : Int) then (supercargoref16_Right.j3 kj12 l0 l1 a3 a5 x15_2 ((rd_T35 l0 ((rd_T30 l1 x15_2).f0)).f1) true ((rd_T30 l1 x15_2).f0) ((rd_T30 l1 x15_2).f1) ((rd_T30 l1 x15_2).f2)) else (if 0 ≤ ((rd_T30 l1 x15_2).f1) then (if ((rd_T30 l1 x15_2).f1) < (((rd_T35 l0 ((rd_T30 l1 x15_2).f0)).f1).length : Int) then (if ((rd_T32 ((rd_T35 l0 ((rd_T30 l1 x15_2).f0)).f1) ((rd_T30 l1 x15_2).f1)).f0).toList = x13_2.toList then (supercargoref16_Right.j3 kj12 l0 l1 a3 a5 x15_2 ((rd_T35 l0 ((rd_T30 l1 x15_2).f0)).f1) (decide (((rd_T32 ((rd_T35 l0 ((rd_T30 l1 x15_2).f0)).f1) ((rd_T30 l1 x15_2).f1)).f1) < x14_2)) ((rd_T30 l1 x15_2).f0) ((rd_T30 l1 x15_2).f1) ((rd_T30 l1 x15_2).f2)) else (supercargoref16_Right.j3 kj12 l0 l1 a3 a5 x15_2 ((rd_T35 l0 ((rd_T30 l1 x15_2).f0)).f1) true ((rd_T30 l1 x15_2).f0) ((rd_T30 l1 x15_2).f1) ((rd_T30 l1 x15_2).f2))) else (none)) else (none))))) else (none)) else (none)) = some r := by rw [if_neg (show ¬ (false = true) by decide)] at H; exact H
                      clear H
                      have H := H1
                      clear H1
                      by_cases c26 : 0 ≤ ((rd_T30 l1 x15_2).f0)
                      · rw [if_pos c26] at H
                        have c26b0 : decide (0 ≤ ((rd_T30 l1 x15_2).f0)) = true := decide_eq_true c26
                        clear c26
                        by_cases c27 : ((rd_T30 l1 x15_2).f0) < (l0.length : Int)
                        · rw [if_pos c27] at H
                          have c27b0 : decide (((rd_T30 l1 x15_2).f0) < (l0.length : Int)) = true := decide_eq_true c27
                          clear c27
                          have HC28 := Aside0.mk H
                          clear H
                          have hcz29_0 : wc.cell? ⟨gb220, 0, none⟩ = some (.int .i64 ((rd_T30 l1 x15_2).f0)) := (blk_cell BK220.out 0).trans rfl
                          have hcz29_1 : wc.cell? ⟨gb220, 1, none⟩ = some (.int .i64 ((rd_T30 l1 x15_2).f1)) := (blk_cell BK220.out 1).trans rfl
                          have hcz29_2 : wc.cell? ⟨gb220, 2, none⟩ = some (.int .i64 ((rd_T30 l1 x15_2).f2)) := (blk_cell BK220.out 2).trans rfl
                          have hfz29_0 := blk_frozen BK220.out 0
                          have hfz29_1 := blk_frozen BK220.out 1
                          have hfz29_2 := blk_frozen BK220.out 2
                          have p223 : 0 ≤ (((rd_T30 l1 x15_2).f0) : Int) := of_decide_eq_true (by first | (with_reducible assumption) | assumption)
                          have q223 : ((rd_T30 l1 x15_2).f0) < (l0.length : Int) := of_decide_eq_true (by first | (with_reducible assumption) | assumption)
                          obtain ⟨ad223, A223_1, c223_1, e223, hx223_0, hx223_1, hl223_1, hi223_1⟩ := at_T35 HR0.out ((rd_T30 l1 x15_2).f0) p223 q223
                          cases e223
                          replace hx223_0 := (HB.out.cell (World.block_lt_of_cell? w _ hx223_0)).trans hx223_0
                          replace hx223_1 := (HB.out.cell (World.block_lt_of_cell? w _ hx223_1)).trans hx223_1
                          have HR223_1 := Aside0.mk hi223_1
                          have HC223_1 := Aside0.mk hl223_1
                          clear hi223_1 hl223_1
                          replace p223 := eq_true p223
                          replace q223 := eq_true q223
                          go_upto_region 12 with (fail)
                          repeat (go_quiet (fail); go_upto_region 12 with (fail))
                          go_cut [104] (fun v104 wc => ∃ (kq : Nat) (x104_27 : Bool), v104 = .bool x104_27 ∧ Aside0 (supercargoref16_Right.j3 kq l0 l1 a3 a5 x15_2 ((rd_T35 l0 ((rd_T30 l1 x15_2).f0)).f1) x104_27 ((rd_T30 l1 x15_2).f0) ((rd_T30 l1 x15_2).f1) ((rd_T30 l1 x15_2).f2) = some r) ∧ Aside0 (kq ≤ kj12) ∧ Aside0 (wc.heap[gb220]? = some (.cells #[.int .i64 ((rd_T30 l1 x15_2).f0), .int .i64 ((rd_T30 l1 x15_2).f1), .int .i64 ((rd_T30 l1 x15_2).f2)] 30 (0, 0))) ∧ Aside0 (Below w.heap.size w wc))
                          case first =>
                            have H := HC28.out
                            clear HC28
                            by_cases c30 : ((rd_T30 l1 x15_2).f1) < 0
                            · rw [if_pos c30] at H
                              have c30b0 : decide (((rd_T30 l1 x15_2).f1) < 0) = true := decide_eq_true c30
                              clear c30
                              (first | rw [c30b0] | (simp only [i64_w, i32_w]; rw [c30b0]) | skip)
                              have H' := Aside0.mk H
                              clear H
                              have hcz31_0 : wc.cell? ⟨gb220, 0, none⟩ = some (.int .i64 ((rd_T30 l1 x15_2).f0)) := (blk_cell BK220.out 0).trans rfl
                              have hcz31_1 : wc.cell? ⟨gb220, 1, none⟩ = some (.int .i64 ((rd_T30 l1 x15_2).f1)) := (blk_cell BK220.out 1).trans rfl
                              have hcz31_2 : wc.cell? ⟨gb220, 2, none⟩ = some (.int .i64 ((rd_T30 l1 x15_2).f2)) := (blk_cell BK220.out 2).trans rfl
                              have hfz31_0 := blk_frozen BK220.out 0
                              have hfz31_1 := blk_frozen BK220.out 1
                              have hfz31_2 := blk_frozen BK220.out 2
                              go_wp2
                              repeat (go_quiet (fail); try go_wp2)
                              go_meet
                              case rel => exact ⟨_, (true), (by first | rfl | (simp; done) | (simp [*]; done)), H', ⟨by have := HJ6.out; have := HK2.out; have := HJ12.out; first | omega | exact Nat.le_refl _⟩, ⟨by (with_reducible repeat (first | refine blk_drewN ?_ _ | refine blk_drew ?_ | refine blk_alloc ?_ _)); exact BK220.out⟩, ⟨by repeat (first | (with_reducible first | exact HB.out | apply below_alloc | apply pw_below_drewN | apply below_drew1 | refine below_set ?_ GE220.out) | exact HB.out)⟩⟩
                            · rw [if_neg c30] at H
                              have c30b0 : decide (((rd_T30 l1 x15_2).f1) < 0) = false := decide_eq_false c30
                              clear c30
                              (first | rw [c30b0] | (simp only [i64_w, i32_w]; rw [c30b0]) | skip)
                              by_cases c32 : ((rd_T30 l1 x15_2).f1) ≥ ((rd_T30 l1 x15_2).f2)
                              · rw [if_pos c32] at H
                                have c32b0 : decide (((rd_T30 l1 x15_2).f2) ≤ ((rd_T30 l1 x15_2).f1)) = true := decide_eq_true c32
                                clear c32
                                have H' := Aside0.mk H
                                clear H
                                have hcz33_0 : wc.cell? ⟨gb220, 0, none⟩ = some (.int .i64 ((rd_T30 l1 x15_2).f0)) := (blk_cell BK220.out 0).trans rfl
                                have hcz33_1 : wc.cell? ⟨gb220, 1, none⟩ = some (.int .i64 ((rd_T30 l1 x15_2).f1)) := (blk_cell BK220.out 1).trans rfl
                                have hcz33_2 : wc.cell? ⟨gb220, 2, none⟩ = some (.int .i64 ((rd_T30 l1 x15_2).f2)) := (blk_cell BK220.out 2).trans rfl
                                have hfz33_0 := blk_frozen BK220.out 0
                                have hfz33_1 := blk_frozen BK220.out 1
                                have hfz33_2 := blk_frozen BK220.out 2
                                go_wp2
                                repeat (go_quiet (fail); try go_wp2)
                                go_meet
                                case rel => exact ⟨_, (true), (by first | rfl | (simp; done) | (simp [*]; done)), H', ⟨by have := HJ6.out; have := HK2.out; have := HJ12.out; first | omega | exact Nat.le_refl _⟩, ⟨by (with_reducible repeat (first | refine blk_drewN ?_ _ | refine blk_drew ?_ | refine blk_alloc ?_ _)); exact BK220.out⟩, ⟨by repeat (first | (with_reducible first | exact HB.out | apply below_alloc | apply pw_below_drewN | apply below_drew1 | refine below_set ?_ GE220.out) | exact HB.out)⟩⟩
                              · rw [if_neg c32] at H
                                have c32b0 : decide (((rd_T30 l1 x15_2).f2) ≤ ((rd_T30 l1 x15_2).f1)) = false := decide_eq_false c32
                                clear c32
                                by_cases c34 : ((rd_T30 l1 x15_2).f2) ≥ (((rd_T35 l0 ((rd_T30 l1 x15_2).f0)).f1).length : Int)
                                · rw [if_pos c34] at H
                                  have c34b0 : decide ((((rd_T35 l0 ((rd_T30 l1 x15_2).f0)).f1).length : Int) ≤ ((rd_T30 l1 x15_2).f2)) = true := decide_eq_true c34
                                  clear c34
                                  have H' := Aside0.mk H
                                  clear H
                                  have hcz35_0 : wc.cell? ⟨gb220, 0, none⟩ = some (.int .i64 ((rd_T30 l1 x15_2).f0)) := (blk_cell BK220.out 0).trans rfl
                                  have hcz35_1 : wc.cell? ⟨gb220, 1, none⟩ = some (.int .i64 ((rd_T30 l1 x15_2).f1)) := (blk_cell BK220.out 1).trans rfl
                                  have hcz35_2 : wc.cell? ⟨gb220, 2, none⟩ = some (.int .i64 ((rd_T30 l1 x15_2).f2)) := (blk_cell BK220.out 2).trans rfl
                                  have hfz35_0 := blk_frozen BK220.out 0
                                  have hfz35_1 := blk_frozen BK220.out 1
                                  have hfz35_2 := blk_frozen BK220.out 2
                                  go_wp2
                                  repeat (go_quiet (fail); try go_wp2)
                                  go_meet
                                  case rel => exact ⟨_, (true), (by first | rfl | (simp; done) | (simp [*]; done)), H', ⟨by have := HJ6.out; have := HK2.out; have := HJ12.out; first | omega | exact Nat.le_refl _⟩, ⟨by (with_reducible repeat (first | refine blk_drewN ?_ _ | refine blk_drew ?_ | refine blk_alloc ?_ _)); exact BK220.out⟩, ⟨by repeat (first | (with_reducible first | exact HB.out | apply below_alloc | apply pw_below_drewN | apply below_drew1 | refine below_set ?_ GE220.out) | exact HB.out)⟩⟩
                                · rw [if_neg c34] at H
                                  have c34b0 : decide ((((rd_T35 l0 ((rd_T30 l1 x15_2).f0)).f1).length : Int) ≤ ((rd_T30 l1 x15_2).f2)) = false := decide_eq_false c34
                                  clear c34
                                  by_cases c36 : 0 ≤ ((rd_T30 l1 x15_2).f1)
                                  · rw [if_pos c36] at H
                                    have c36b0 : decide (0 ≤ ((rd_T30 l1 x15_2).f1)) = true := decide_eq_true c36
                                    clear c36
                                    by_cases c37 : ((rd_T30 l1 x15_2).f1) < (((rd_T35 l0 ((rd_T30 l1 x15_2).f0)).f1).length : Int)
                                    · rw [if_pos c37] at H
                                      have c37b0 : decide (((rd_T30 l1 x15_2).f1) < (((rd_T35 l0 ((rd_T30 l1 x15_2).f0)).f1).length : Int)) = true := decide_eq_true c37
                                      clear c37
                                      by_cases c38 : ((rd_T32 ((rd_T35 l0 ((rd_T30 l1 x15_2).f0)).f1) ((rd_T30 l1 x15_2).f1)).f0).toList = x13_2.toList
                                      · rw [if_pos c38] at H
                                        have c38b0 : (((rd_T32 ((rd_T35 l0 ((rd_T30 l1 x15_2).f0)).f1) ((rd_T30 l1 x15_2).f1)).f0).toList == x13_2.toList) = true := beq_iff_eq.mpr c38
                                        have c38b1 : (((rd_T32 ((rd_T35 l0 ((rd_T30 l1 x15_2).f0)).f1) ((rd_T30 l1 x15_2).f1)).f0).toList != x13_2.toList) = false := bne_eq_false_iff_eq.mpr c38
                                        clear c38
                                        have H' := Aside0.mk H
                                        clear H
                                        have hcz39_0 : wc.cell? ⟨gb220, 0, none⟩ = some (.int .i64 ((rd_T30 l1 x15_2).f0)) := (blk_cell BK220.out 0).trans rfl
                                        have hcz39_1 : wc.cell? ⟨gb220, 1, none⟩ = some (.int .i64 ((rd_T30 l1 x15_2).f1)) := (blk_cell BK220.out 1).trans rfl
                                        have hcz39_2 : wc.cell? ⟨gb220, 2, none⟩ = some (.int .i64 ((rd_T30 l1 x15_2).f2)) := (blk_cell BK220.out 2).trans rfl
                                        have hfz39_0 := blk_frozen BK220.out 0
                                        have hfz39_1 := blk_frozen BK220.out 1
                                        have hfz39_2 := blk_frozen BK220.out 2
                                        have p224 : 0 ≤ (((rd_T30 l1 x15_2).f1) : Int) := of_decide_eq_true (by first | (with_reducible assumption) | assumption)
                                        have q224 : ((rd_T30 l1 x15_2).f1) < (((rd_T35 l0 ((rd_T30 l1 x15_2).f0)).f1).length : Int) := of_decide_eq_true (by first | (with_reducible assumption) | assumption)
                                        obtain ⟨ad224, e224, hx224_0, hx224_1, hx224_2, hx224_3⟩ := at_T32 HR223_1.out ((rd_T30 l1 x15_2).f1) p224 q224
                                        cases e224
                                        replace hx224_0 := (HB.out.cell (World.block_lt_of_cell? w _ hx224_0)).trans hx224_0
                                        replace hx224_1 := (HB.out.cell (World.block_lt_of_cell? w _ hx224_1)).trans hx224_1
                                        replace hx224_2 := (HB.out.cell (World.block_lt_of_cell? w _ hx224_2)).trans hx224_2
                                        replace hx224_3 := (HB.out.cell (World.block_lt_of_cell? w _ hx224_3)).trans hx224_3
                                        replace p224 := eq_true p224
                                        replace q224 := eq_true q224
                                        have p225 : 0 ≤ (((rd_T30 l1 x15_2).f1) : Int) := of_decide_eq_true (by first | (with_reducible assumption) | assumption)
                                        have q225 : ((rd_T30 l1 x15_2).f1) < (((rd_T35 l0 ((rd_T30 l1 x15_2).f0)).f1).length : Int) := of_decide_eq_true (by first | (with_reducible assumption) | assumption)
                                        obtain ⟨ad225, e225, hx225_0, hx225_1, hx225_2, hx225_3⟩ := at_T32 HR223_1.out ((rd_T30 l1 x15_2).f1) p225 q225
                                        obtain rfl : ad224 = ad225 := (by injection e225)
                                        replace hx225_0 := (HB.out.cell (World.block_lt_of_cell? w _ hx225_0)).trans hx225_0
                                        replace hx225_1 := (HB.out.cell (World.block_lt_of_cell? w _ hx225_1)).trans hx225_1
                                        replace hx225_2 := (HB.out.cell (World.block_lt_of_cell? w _ hx225_2)).trans hx225_2
                                        replace hx225_3 := (HB.out.cell (World.block_lt_of_cell? w _ hx225_3)).trans hx225_3
                                        replace p225 := eq_true p225
                                        replace q225 := eq_true q225
                                        go_wp2
                                        repeat (go_quiet (fail); try go_wp2)
                                        go_meet
                                        case rel => exact ⟨_, (decide (((rd_T32 ((rd_T35 l0 ((rd_T30 l1 x15_2).f0)).f1) ((rd_T30 l1 x15_2).f1)).f1) < x14_2)), (by first | rfl | (simp; done) | (simp [*]; done)), H', ⟨by have := HJ6.out; have := HK2.out; have := HJ12.out; first | omega | exact Nat.le_refl _⟩, ⟨by (with_reducible repeat (first | refine blk_drewN ?_ _ | refine blk_drew ?_ | refine blk_alloc ?_ _)); exact BK220.out⟩, ⟨by repeat (first | (with_reducible first | exact HB.out | apply below_alloc | apply pw_below_drewN | apply below_drew1 | refine below_set ?_ GE220.out) | exact HB.out)⟩⟩
                                      · rw [if_neg c38] at H
                                        have c38b0 : (((rd_T32 ((rd_T35 l0 ((rd_T30 l1 x15_2).f0)).f1) ((rd_T30 l1 x15_2).f1)).f0).toList == x13_2.toList) = false := beq_eq_false_iff_ne.mpr c38
                                        have c38b1 : (((rd_T32 ((rd_T35 l0 ((rd_T30 l1 x15_2).f0)).f1) ((rd_T30 l1 x15_2).f1)).f0).toList != x13_2.toList) = true := bne_iff_ne.mpr c38
                                        have H' := Aside0.mk H
                                        clear H
                                        have hcz40_0 : wc.cell? ⟨gb220, 0, none⟩ = some (.int .i64 ((rd_T30 l1 x15_2).f0)) := (blk_cell BK220.out 0).trans rfl
                                        have hcz40_1 : wc.cell? ⟨gb220, 1, none⟩ = some (.int .i64 ((rd_T30 l1 x15_2).f1)) := (blk_cell BK220.out 1).trans rfl
                                        have hcz40_2 : wc.cell? ⟨gb220, 2, none⟩ = some (.int .i64 ((rd_T30 l1 x15_2).f2)) := (blk_cell BK220.out 2).trans rfl
                                        have hfz40_0 := blk_frozen BK220.out 0
                                        have hfz40_1 := blk_frozen BK220.out 1
                                        have hfz40_2 := blk_frozen BK220.out 2
                                        have p224 : 0 ≤ (((rd_T30 l1 x15_2).f1) : Int) := of_decide_eq_true (by first | (with_reducible assumption) | assumption)
                                        have q224 : ((rd_T30 l1 x15_2).f1) < (((rd_T35 l0 ((rd_T30 l1 x15_2).f0)).f1).length : Int) := of_decide_eq_true (by first | (with_reducible assumption) | assumption)
                                        obtain ⟨ad224, e224, hx224_0, hx224_1, hx224_2, hx224_3⟩ := at_T32 HR223_1.out ((rd_T30 l1 x15_2).f1) p224 q224
                                        cases e224
                                        replace hx224_0 := (HB.out.cell (World.block_lt_of_cell? w _ hx224_0)).trans hx224_0
                                        replace hx224_1 := (HB.out.cell (World.block_lt_of_cell? w _ hx224_1)).trans hx224_1
                                        replace hx224_2 := (HB.out.cell (World.block_lt_of_cell? w _ hx224_2)).trans hx224_2
                                        replace hx224_3 := (HB.out.cell (World.block_lt_of_cell? w _ hx224_3)).trans hx224_3
                                        replace p224 := eq_true p224
                                        replace q224 := eq_true q224
                                        go_wp2
                                        repeat (go_quiet (fail); try go_wp2)
                                        go_meet
                                        case rel => exact ⟨_, (true), (by first | rfl | (simp; done) | (simp [*]; done)), H', ⟨by have := HJ6.out; have := HK2.out; have := HJ12.out; first | omega | exact Nat.le_refl _⟩, ⟨by (with_reducible repeat (first | refine blk_drewN ?_ _ | refine blk_drew ?_ | refine blk_alloc ?_ _)); exact BK220.out⟩, ⟨by repeat (first | (with_reducible first | exact HB.out | apply below_alloc | apply pw_below_drewN | apply below_drew1 | refine below_set ?_ GE220.out) | exact HB.out)⟩⟩
                                    · rw [if_neg c37] at H
                                      exact absurd H (by simp)
                                  · rw [if_neg c36] at H
                                    exact absurd H (by simp)
                          case rest =>
                            clear HC28
                            try clear c1
                            try clear c2
                            try clear p2
                            try clear q2
                            try clear hx2
                            try clear c3
                            try clear c8
                            try clear c8b0
                            try clear c8b1
                            try clear c9
                            try clear c9b0
                            try clear c9b1
                            try clear c10
                            try clear c11
                            try clear c11b0
                            try clear c12
                            try clear c12b0
                            try clear c16
                            try clear c16b0
                            try clear c18
                            try clear c18b0
                            try clear c20
                            try clear c20b0
                            try clear c21
                            try clear c21b0
                            try clear p21
                            try clear q21
                            try clear hx21
                            try clear c22
                            try clear p22
                            try clear q22
                            try clear hx22
                            try clear c25
                            try clear c26
                            try clear c26b0
                            try clear c27
                            try clear c27b0
                            try clear c30
                            try clear c30b0
                            try clear c32
                            try clear c32b0
                            try clear c34
                            try clear c34b0
                            try clear c36
                            try clear c36b0
                            try clear c37
                            try clear c37b0
                            try clear c38
                            try clear c38b0
                            try clear c38b1
                            try clear hcz15_0
                            try clear hcz15_1
                            try clear hcz15_2
                            try clear hcz17_0
                            try clear hcz17_1
                            try clear hcz17_2
                            try clear hcz19_0
                            try clear hcz19_1
                            try clear hcz19_2
                            try clear hcz23_0
                            try clear hcz23_1
                            try clear hcz23_2
                            try clear hcz29_0
                            try clear hcz29_1
                            try clear hcz29_2
                            try clear hcz31_0
                            try clear hcz31_1
                            try clear hcz31_2
                            try clear hcz33_0
                            try clear hcz33_1
                            try clear hcz33_2
                            try clear hcz35_0
                            try clear hcz35_1
                            try clear hcz35_2
                            try clear hcz39_0
                            try clear hcz39_1
                            try clear hcz39_2
                            try clear hcz40_0
                            try clear hcz40_1
                            try clear hcz40_2
                            try clear hfz15_0
                            try clear hfz15_1
                            try clear hfz15_2
                            try clear hfz17_0
                            try clear hfz17_1
                            try clear hfz17_2
                            try clear hfz19_0
                            try clear hfz19_1
                            try clear hfz19_2
                            try clear hfz23_0
                            try clear hfz23_1
                            try clear hfz23_2
                            try clear hfz29_0
                            try clear hfz29_1
                            try clear hfz29_2
                            try clear hfz31_0
                            try clear hfz31_1
                            try clear hfz31_2
                            try clear hfz33_0
                            try clear hfz33_1
                            try clear hfz33_2
                            try clear hfz35_0
                            try clear hfz35_1
                            try clear hfz35_2
                            try clear hfz39_0
                            try clear hfz39_1
                            try clear hfz39_2
                            try clear hfz40_0
                            try clear hfz40_1
                            try clear hfz40_2
                            try clear hx219_0
                            try clear hx219_1
                            try clear hx219_2
                            try clear hx221_0
                            try clear hx221_1
                            try clear hx223_0
                            try clear hx223_1
                            try clear hx224_0
                            try clear hx224_1
                            try clear hx224_2
                            try clear hx224_3
                            try clear hx225_0
                            try clear hx225_1
                            try clear hx225_2
                            try clear hx225_3
                            try clear p2
                            try clear p21
                            try clear p219
                            try clear p22
                            try clear p221
                            try clear p223
                            try clear p224
                            try clear p225
                            try clear q2
                            try clear q21
                            try clear q219
                            try clear q22
                            try clear q221
                            try clear q223
                            try clear q224
                            try clear q225
                            obtain ⟨kq, x104_27, rfl, HA, HJ27, BK220, HB⟩ := hcut
                            cases kq with
                            | zero => exact absurd HA.out (by simp [supercargoref16_Right.j3])
                            | succ kj27 =>
                              have H := HA.out
                              clear HA
                              simp only [supercargoref16_Right.j3] at H
                              by_cases c41 : x104_27 = true
                              · subst c41
                                have H1 : (some false) = some r := by rw [if_pos rfl] at H; exact H
                                clear H
                                have H := H1
                                clear H1
                                obtain rfl := Option.some.inj H
                                go_wp2
                                repeat (go_quiet (fail); try go_wp2)
                                go_ret
                                exact ⟨by first | rfl | (simp [errW_none, errW_some] <;> rfl) | (simp [*, errW_none, errW_some] <;> rfl), by repeat (first | (with_reducible first | exact HB.out | apply below_alloc | apply pw_below_drewN | apply below_drew1 | refine below_set ?_ GE220.out) | exact HB.out)⟩
                              · replace c41 := Bool.eq_false_iff.mpr c41
                                subst c41
                                have H1 : (if 0 ≤ ((rd_T30 l1 x15_2).f2) then (if ((rd_T30 l1 x15_2).f2) < (((rd_T35 l0 ((rd_T30 l1 x15_2).f0)).f1).length : Int) then ((supercargoref16_Held.f a5).bind fun t228 => (supercargoref16_Right.l0 kj27 l0 l1 a3 a5 ((rd_T32 ((rd_T35 l0 ((rd_T30 l1 x15_2).f0)).f1) ((rd_T30 l1 x15_2).f2)).f0) (wrap64 (((rd_T32 ((rd_T35 l0 ((rd_T30 l1 x15_2).f0)).f1) ((rd_T30 l1 x15_2).f2)).f2) + t228)) (wrap64 (x15_2 + 1)))) else (none)) else (none)) = some r := by rw [if_neg (show ¬ (false = true) by decide)] at H; exact H
                                clear H
                                have H := H1
                                clear H1
                                by_cases c42 : 0 ≤ ((rd_T30 l1 x15_2).f2)
                                · rw [if_pos c42] at H
                                  have c42b0 : decide (0 ≤ ((rd_T30 l1 x15_2).f2)) = true := decide_eq_true c42
                                  clear c42
                                  by_cases c43 : ((rd_T30 l1 x15_2).f2) < (((rd_T35 l0 ((rd_T30 l1 x15_2).f0)).f1).length : Int)
                                  · rw [if_pos c43] at H
                                    have c43b0 : decide (((rd_T30 l1 x15_2).f2) < (((rd_T35 l0 ((rd_T30 l1 x15_2).f0)).f1).length : Int)) = true := decide_eq_true c43
                                    clear c43
                                    replace H := Option.bind_eq_some_iff.mp H
                                    obtain ⟨t228, A440, H⟩ := H
                                    replace H : (supercargoref16_Right.l0 kj27 l0 l1 a3 a5 ((rd_T32 ((rd_T35 l0 ((rd_T30 l1 x15_2).f0)).f1) ((rd_T30 l1 x15_2).f2)).f0) (wrap64 (((rd_T32 ((rd_T35 l0 ((rd_T30 l1 x15_2).f0)).f1) ((rd_T30 l1 x15_2).f2)).f2) + t228)) (wrap64 (x15_2 + 1))) = some r := H
                                    have A44 := Aside0.mk A440
                                    clear A440
                                    have H' := Aside0.mk H
                                    clear H
                                    have hcz45_0 : wc.cell? ⟨gb220, 0, none⟩ = some (.int .i64 ((rd_T30 l1 x15_2).f0)) := (blk_cell BK220.out 0).trans rfl
                                    have hcz45_1 : wc.cell? ⟨gb220, 1, none⟩ = some (.int .i64 ((rd_T30 l1 x15_2).f1)) := (blk_cell BK220.out 1).trans rfl
                                    have hcz45_2 : wc.cell? ⟨gb220, 2, none⟩ = some (.int .i64 ((rd_T30 l1 x15_2).f2)) := (blk_cell BK220.out 2).trans rfl
                                    have hfz45_0 := blk_frozen BK220.out 0
                                    have hfz45_1 := blk_frozen BK220.out 1
                                    have hfz45_2 := blk_frozen BK220.out 2
                                    have p226 : 0 ≤ (((rd_T30 l1 x15_2).f2) : Int) := of_decide_eq_true (by first | (with_reducible assumption) | assumption)
                                    have q226 : ((rd_T30 l1 x15_2).f2) < (((rd_T35 l0 ((rd_T30 l1 x15_2).f0)).f1).length : Int) := of_decide_eq_true (by first | (with_reducible assumption) | assumption)
                                    obtain ⟨ad226, e226, hx226_0, hx226_1, hx226_2, hx226_3⟩ := at_T32 HR223_1.out ((rd_T30 l1 x15_2).f2) p226 q226
                                    cases e226
                                    replace hx226_0 := (HB.out.cell (World.block_lt_of_cell? w _ hx226_0)).trans hx226_0
                                    replace hx226_1 := (HB.out.cell (World.block_lt_of_cell? w _ hx226_1)).trans hx226_1
                                    replace hx226_2 := (HB.out.cell (World.block_lt_of_cell? w _ hx226_2)).trans hx226_2
                                    replace hx226_3 := (HB.out.cell (World.block_lt_of_cell? w _ hx226_3)).trans hx226_3
                                    replace p226 := eq_true p226
                                    replace q226 := eq_true q226
                                    have p227 : 0 ≤ (((rd_T30 l1 x15_2).f2) : Int) := of_decide_eq_true (by first | (with_reducible assumption) | assumption)
                                    have q227 : ((rd_T30 l1 x15_2).f2) < (((rd_T35 l0 ((rd_T30 l1 x15_2).f0)).f1).length : Int) := of_decide_eq_true (by first | (with_reducible assumption) | assumption)
                                    obtain ⟨ad227, e227, hx227_0, hx227_1, hx227_2, hx227_3⟩ := at_T32 HR223_1.out ((rd_T30 l1 x15_2).f2) p227 q227
                                    obtain rfl : ad226 = ad227 := (by injection e227)
                                    replace hx227_0 := (HB.out.cell (World.block_lt_of_cell? w _ hx227_0)).trans hx227_0
                                    replace hx227_1 := (HB.out.cell (World.block_lt_of_cell? w _ hx227_1)).trans hx227_1
                                    replace hx227_2 := (HB.out.cell (World.block_lt_of_cell? w _ hx227_2)).trans hx227_2
                                    replace hx227_3 := (HB.out.cell (World.block_lt_of_cell? w _ hx227_3)).trans hx227_3
                                    replace p227 := eq_true p227
                                    replace q227 := eq_true q227
                                    go_wp2_with (first | (go_at_call 22; (with_reducible refine (supercargoref16_Held.calls a5 t228 _ A44.out).mono ?_); rintro e w' ⟨rfl, ⟨nd, rfl⟩⟩; (try first | exact ⟨rfl, _, World.drewN_drewN _ _ _⟩ | exact ⟨rfl, _, Eq.trans (World.drewN_drewN _ _ _) (congrArg (World.drewN _) (Nat.add_assoc _ _ _))⟩)))
                                    repeat (go_quiet (first | (go_at_call 22; (with_reducible refine (supercargoref16_Held.calls a5 t228 _ A44.out).mono ?_); rintro e w' ⟨rfl, ⟨nd, rfl⟩⟩; (try first | exact ⟨rfl, _, World.drewN_drewN _ _ _⟩ | exact ⟨rfl, _, Eq.trans (World.drewN_drewN _ _ _) (congrArg (World.drewN _) (Nat.add_assoc _ _ _))⟩))); try go_wp2_with (first | (go_at_call 22; (with_reducible refine (supercargoref16_Held.calls a5 t228 _ A44.out).mono ?_); rintro e w' ⟨rfl, ⟨nd, rfl⟩⟩; (try first | exact ⟨rfl, _, World.drewN_drewN _ _ _⟩ | exact ⟨rfl, _, Eq.trans (World.drewN_drewN _ _ _) (congrArg (World.drewN _) (Nat.add_assoc _ _ _))⟩))))
                                    go_roundg kj27
                                    case measure => have := HJ6.out; have := HK2.out; have := HJ12.out; have := HJ27.out; omega
                                    case rel => exact ⟨((rd_T32 ((rd_T35 l0 ((rd_T30 l1 x15_2).f0)).f1) ((rd_T30 l1 x15_2).f2)).f0), (wrap64 (((rd_T32 ((rd_T35 l0 ((rd_T30 l1 x15_2).f0)).f1) ((rd_T30 l1 x15_2).f2)).f2) + t228)), (wrap64 (x15_2 + 1)), (by first | rfl | (simp; done) | (simp [*]; done)), (by first | rfl | (simp; done) | (simp [*]; done)), (by first | rfl | (simp; done) | (simp [*]; done)), H', ⟨by have := HJ6.out; have := HK2.out; have := HJ12.out; have := HJ27.out; omega⟩, ⟨by repeat (first | (with_reducible first | exact HB.out | apply below_alloc | apply pw_below_drewN | apply below_drew1 | refine below_set ?_ GE220.out) | exact HB.out)⟩⟩
                                  · rw [if_neg c43] at H
                                    exact absurd H (by simp)
                                · rw [if_neg c42] at H
                                  exact absurd H (by simp)
                        · rw [if_neg c27] at H
                          exact absurd H (by simp)
                      · rw [if_neg c26] at H
                        exact absurd H (by simp)
              · rw [if_neg c12] at H
                exact absurd H (by simp)
            · rw [if_neg c11] at H
              have c11b0 : decide (x15_2 < (l1.length : Int)) = false := decide_eq_false c11
              clear c11
              obtain rfl := Option.some.inj H
              go_wp2
              repeat (go_quiet (fail); try go_wp2)
              go_ret
              exact ⟨by first | rfl | (simp [errW_none, errW_some] <;> rfl) | (simp [*, errW_none, errW_some] <;> rfl), by repeat (first | (with_reducible first | exact HB.out | apply below_alloc | apply pw_below_drewN | apply below_drew1) | exact HB.out)⟩

end Go.Proofs.YtbojieeildhlcaaDoor.G
