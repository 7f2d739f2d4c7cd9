-- Printed by a program of this session's (wip/lab) after the kit's print: Lean checks it.
import Derived.Test.YtbojieeildhlcaaDoorGx0
import Derived.Test.YtbojieeildhlcaaDoorGx1
import Derived.Test.YtbojieeildhlcaaDoorH25
import Derived.Test.YtbojieeildhlcaaDoorExtA
namespace Go.Proofs.YtbojieeildhlcaaDoor.G
open Go.Proofs.YtbojieeildhlcaaDoor.Ext
open Go.RowKit Go.Proofs.YtbojieeildhlcaaDoorW.PrintWords Go.Proofs.YtbojieeildhlcaaDoorW.PrintLast Go.Proofs.YtbojieeildhlcaaDoorW.PrintMore
attribute [local go_sem] max2_int min2_int max_two min_two max_three min_three max_four min_four   -- for this text's walks alone
set_option linter.unusedVariables false
set_option linter.unusedSimpArgs false

/-! ### port_May: function 15 -/
mutual
def port_May.j0 : Nat → Bool → ByteArray → List (S32) → Option (Bool)
  | 0, _, _, _ => none
  | k + 1, x20, x158000, x158001 => if x20 = true then (some false) else (port_May.l0 k x158001 (x158001.length : Int) 0 x158000 x158001)
def port_May.l0 : Nat → List (S32) → Int → Int → ByteArray → List (S32) → Option (Bool)
  | 0, _, _, _, _, _ => none
  | k + 1, x22, x23, x24, x158000, x158001 => if x24 < x23 then (if 0 ≤ x24 then (if x24 < (x22.length : Int) then ((mark_Name.f ((rd_T32 x22 x24).f0)).bind fun t161 => (if t161 = true then ((port_within.f ((rd_T32 x22 x24).f1)).bind fun t162 => (if t162 = true then ((port_within.f ((rd_T32 x22 x24).f2)).bind fun t163 => (if t163 = true then ((port_within.f ((rd_T32 x22 x24).f3)).bind fun t164 => (if t164 = true then (if ((rd_T32 x22 x24).f2) > ((rd_T32 x22 x24).f3) then (port_May.j2 k x24 x22 x23 x24 true x158000 x158001 ((rd_T32 x22 x24).f0) ((rd_T32 x22 x24).f1) ((rd_T32 x22 x24).f2) ((rd_T32 x22 x24).f3)) else (port_May.j2 k x24 x22 x23 x24 (decide (((rd_T32 x22 x24).f1) > ((rd_T32 x22 x24).f3))) x158000 x158001 ((rd_T32 x22 x24).f0) ((rd_T32 x22 x24).f1) ((rd_T32 x22 x24).f2) ((rd_T32 x22 x24).f3))) else (port_May.j2 k x24 x22 x23 x24 true x158000 x158001 ((rd_T32 x22 x24).f0) ((rd_T32 x22 x24).f1) ((rd_T32 x22 x24).f2) ((rd_T32 x22 x24).f3)))) else (port_May.j2 k x24 x22 x23 x24 true x158000 x158001 ((rd_T32 x22 x24).f0) ((rd_T32 x22 x24).f1) ((rd_T32 x22 x24).f2) ((rd_T32 x22 x24).f3)))) else (port_May.j2 k x24 x22 x23 x24 true x158000 x158001 ((rd_T32 x22 x24).f0) ((rd_T32 x22 x24).f1) ((rd_T32 x22 x24).f2) ((rd_T32 x22 x24).f3)))) else (port_May.j2 k x24 x22 x23 x24 true x158000 x158001 ((rd_T32 x22 x24).f0) ((rd_T32 x22 x24).f1) ((rd_T32 x22 x24).f2) ((rd_T32 x22 x24).f3)))) else (none)) else (none)) else (some true)
def port_May.j2 : Nat → Int → List (S32) → Int → Int → Bool → ByteArray → List (S32) → ByteArray → Int → Int → Int → Option (Bool)
  | 0, _, _, _, _, _, _, _, _, _, _, _ => none
  | k + 1, x3, x22, x23, x24, x64, x158000, x158001, x161000, x161001, x161002, x161003 => if x64 = true then (some false) else (if x3 > 0 then (if 0 ≤ (wrap64 (x3 - 1)) then (if (wrap64 (x3 - 1)) < (x158001.length : Int) then (if x161000.toList = ((rd_T32 x158001 (wrap64 (x3 - 1))).f0).toList then (port_May.j3 k x22 x23 x24 true x158000 x158001) else (port_May.j3 k x22 x23 x24 (decide (x161002 < ((rd_T32 x158001 (wrap64 (x3 - 1))).f3))) x158000 x158001)) else (none)) else (none)) else (port_May.j3 k x22 x23 x24 false x158000 x158001))
def port_May.j3 : Nat → List (S32) → Int → Int → Bool → ByteArray → List (S32) → Option (Bool)
  | 0, _, _, _, _, _, _ => none
  | k + 1, x22, x23, x24, x90, x158000, x158001 => if x90 = true then (some false) else (port_May.l0 k x22 x23 (wrap64 (x24 + 1)) x158000 x158001)
end
def port_May.f (k : Nat) (a0_0 : ByteArray) (l0_1 : List (S32)) : Option (Bool) := (mark_Name.f a0_0).bind fun t158 => (if t158 = true then (if (l0_1.length : Int) < 1 then (port_May.j0 k true a0_0 l0_1) else (port_May.j0 k (decide ((l0_1.length : Int) > 64)) a0_0 l0_1)) else (port_May.j0 k true a0_0 l0_1))
set_option maxHeartbeats 8000000 in
set_option maxRecDepth 100000 in
theorem port_May.calls (k : Nat) (a0_0 : ByteArray) (A0_1 : Option Addr) (c0_1 : Nat) (l0_1 : List (S32)) (r : Bool) (w : World) (hr0_1 : Kd.C k32 w A0_1 l0_1.length l0_1) (hc0_1 : l0_1.length ≤ c0_1) (h : port_May.f k a0_0 l0_1 = some r) :
    Calls Tryd.prog 15 #[.agg #[.string a0_0, .slice A0_1 l0_1.length c0_1]] w fun e w' => e = .returned (.bool r) ∧ Below w.heap.size w w' := by
  have hu35 := Tryd.underlying35
  have hu32 := Tryd.underlying32
  have HR0_1 := Aside0.mk hr0_1
  have HC0_1 := Aside0.mk hc0_1
  clear hr0_1 hc0_1
  have HB := Aside0.mk (Below.refl w.heap.size w)
  have H : ((mark_Name.f a0_0).bind fun t158 => (if t158 = true then (if (l0_1.length : Int) < 1 then (port_May.j0 k true a0_0 l0_1) else (port_May.j0 k (decide ((l0_1.length : Int) > 64)) a0_0 l0_1)) else (port_May.j0 k true a0_0 l0_1))) = some r := h
  clear h
  have HC2 := Aside0.mk H
  clear H
  go_enter Tryd.func15, Tryd.ntmps15
  go_upto_region 1 with (first | ((with_reducible refine gate_dst (N := 1) rfl ?_); (try (refine gate_guard (by rfl) ?_; dsimp only)); refine box_event ?hg (N := 1) ?hd (cs := #[.string a0_0, .slice A0_1 l0_1.length c0_1]) (t := 35) ?hr ?_; (case hd => rfl); (case hg => rfl); (case hr => first | (go_simp; done) | (go_simp; rfl)); intro gb157 hg w3 hbox hb; have n0_ := Aside0.mk (below_step (by repeat (first | (with_reducible first | exact HB.out | apply below_alloc | apply pw_below_drewN | apply below_drew1) | exact HB.out)) hb); have n1_ := Aside0.mk (hbox); have n2_ := Aside0.mk ((by rw [hg]; exact (below_size (by repeat (first | (with_reducible first | exact HB.out | apply below_alloc | apply pw_below_drewN | apply below_drew1) | exact HB.out))) : w.heap.size ≤ gb157)); have n3_ := Aside0.mk ((by rw [hg]; exact (below_size (by repeat (first | (with_reducible first | exact HB.out | apply below_alloc | apply pw_below_drewN | apply below_drew1) | exact HB.out))) : w.heap.size ≤ gb157)); clear HB; have HB := n0_; have BK157 := n1_; have GW157 := n2_; have GE157 := n3_; clear n0_ n1_ n2_ n3_; clear hb hbox hg))
  repeat (go_quiet (first | ((with_reducible refine gate_dst (N := 1) rfl ?_); (try (refine gate_guard (by rfl) ?_; dsimp only)); refine box_event ?hg (N := 1) ?hd (cs := #[.string a0_0, .slice A0_1 l0_1.length c0_1]) (t := 35) ?hr ?_; (case hd => rfl); (case hg => rfl); (case hr => first | (go_simp; done) | (go_simp; rfl)); intro gb157 hg w3 hbox hb; have n0_ := Aside0.mk (below_step (by repeat (first | (with_reducible first | exact HB.out | apply below_alloc | apply pw_below_drewN | apply below_drew1) | exact HB.out)) hb); have n1_ := Aside0.mk (hbox); have n2_ := Aside0.mk ((by rw [hg]; exact (below_size (by repeat (first | (with_reducible first | exact HB.out | apply below_alloc | apply pw_below_drewN | apply below_drew1) | exact HB.out))) : w.heap.size ≤ gb157)); have n3_ := Aside0.mk ((by rw [hg]; exact (below_size (by repeat (first | (with_reducible first | exact HB.out | apply below_alloc | apply pw_below_drewN | apply below_drew1) | exact HB.out))) : w.heap.size ≤ gb157)); clear HB; have HB := n0_; have BK157 := n1_; have GW157 := n2_; have GE157 := n3_; clear n0_ n1_ n2_ n3_; clear hb hbox hg)); go_upto_region 1 with (first | ((with_reducible refine gate_dst (N := 1) rfl ?_); (try (refine gate_guard (by rfl) ?_; dsimp only)); refine box_event ?hg (N := 1) ?hd (cs := #[.string a0_0, .slice A0_1 l0_1.length c0_1]) (t := 35) ?hr ?_; (case hd => rfl); (case hg => rfl); (case hr => first | (go_simp; done) | (go_simp; rfl)); intro gb157 hg w3 hbox hb; have n0_ := Aside0.mk (below_step (by repeat (first | (with_reducible first | exact HB.out | apply below_alloc | apply pw_below_drewN | apply below_drew1) | exact HB.out)) hb); have n1_ := Aside0.mk (hbox); have n2_ := Aside0.mk ((by rw [hg]; exact (below_size (by repeat (first | (with_reducible first | exact HB.out | apply below_alloc | apply pw_below_drewN | apply below_drew1) | exact HB.out))) : w.heap.size ≤ gb157)); have n3_ := Aside0.mk ((by rw [hg]; exact (below_size (by repeat (first | (with_reducible first | exact HB.out | apply below_alloc | apply pw_below_drewN | apply below_drew1) | exact HB.out))) : w.heap.size ≤ gb157)); clear HB; have HB := n0_; have BK157 := n1_; have GW157 := n2_; have GE157 := n3_; clear n0_ n1_ n2_ n3_; clear hb hbox hg)))
  (try simp only [Act.put, List.setIfInBounds_toArray, List.set_cons_zero, List.set_cons_succ])
  go_cut [20] (fun v20 wc => ∃ (kq : Nat) (x20_1 : Bool), v20 = .bool x20_1 ∧ Aside0 (port_May.j0 kq x20_1 a0_0 l0_1 = some r) ∧ Aside0 (kq ≤ k) ∧ Aside0 (wc.heap[gb157]? = some (.cells #[.string a0_0, (.slice A0_1 l0_1.length c0_1)] 35 (0, 0))) ∧ Aside0 (Below w.heap.size w wc))
  case first =>
    have H := HC2.out
    clear HC2
    replace H := Option.bind_eq_some_iff.mp H
    obtain ⟨t158, A40, H⟩ := H
    replace H : (if t158 = true then (if (l0_1.length : Int) < 1 then (port_May.j0 k true a0_0 l0_1) else (port_May.j0 k (decide ((l0_1.length : Int) > 64)) a0_0 l0_1)) else (port_May.j0 k true a0_0 l0_1)) = some r := H
    have A4 := Aside0.mk A40
    clear A40
    by_cases c5 : t158 = true
    · subst c5
      have H1 : (if (l0_1.length : Int) < 1 then (port_May.j0 k true a0_0 l0_1) else (port_May.j0 k (decide ((l0_1.length : Int) > 64)) a0_0 l0_1)) = some r := by rw [if_pos rfl] at H; exact H
      clear H
      have H := H1
      clear H1
      by_cases c6 : (l0_1.length : Int) < 1
      · rw [if_pos c6] at H
        have c6b0 : decide ((l0_1.length : Int) < 1) = true := decide_eq_true c6
        have c6b1 : decide (l0_1.length < 1) = true := decide_eq_true (by omega)
        clear c6
        (first | rw [c6b0] | (simp only [i64_w, i32_w]; rw [c6b0]) | skip)
        have H' := Aside0.mk H
        clear H
        have hcz7_0 : w3.cell? ⟨gb157, 0, none⟩ = some (.string a0_0) := (blk_cell BK157.out 0).trans rfl
        have hcz7_1 : w3.cell? ⟨gb157, 1, none⟩ = some (.slice A0_1 l0_1.length c0_1) := (blk_cell BK157.out 1).trans rfl
        have hfz7_0 := blk_frozen BK157.out 0
        have hfz7_1 := blk_frozen BK157.out 1
        go_wp2_with (first | (go_at_call 24; (with_reducible refine (mark_Name.calls a0_0 true _ A4.out).mono ?_); rintro e w' ⟨rfl, ⟨nd, rfl⟩⟩; (try first | exact ⟨rfl, _, World.drewN_drewN _ _ _⟩ | exact ⟨rfl, _, Eq.trans (World.drewN_drewN _ _ _) (congrArg (World.drewN _) (Nat.add_assoc _ _ _))⟩)))
        repeat (go_quiet (first | (go_at_call 24; (with_reducible refine (mark_Name.calls a0_0 true _ A4.out).mono ?_); rintro e w' ⟨rfl, ⟨nd, rfl⟩⟩; (try first | exact ⟨rfl, _, World.drewN_drewN _ _ _⟩ | exact ⟨rfl, _, Eq.trans (World.drewN_drewN _ _ _) (congrArg (World.drewN _) (Nat.add_assoc _ _ _))⟩))); try go_wp2_with (first | (go_at_call 24; (with_reducible refine (mark_Name.calls a0_0 true _ A4.out).mono ?_); rintro e w' ⟨rfl, ⟨nd, rfl⟩⟩; (try first | exact ⟨rfl, _, World.drewN_drewN _ _ _⟩ | exact ⟨rfl, _, Eq.trans (World.drewN_drewN _ _ _) (congrArg (World.drewN _) (Nat.add_assoc _ _ _))⟩))))
        go_meet
        case rel => exact ⟨_, (true), (by first | rfl | (simp; done) | (simp [*]; done)), H', ⟨by first | omega | exact Nat.le_refl _⟩, ⟨by (with_reducible repeat (first | refine blk_drewN ?_ _ | refine blk_drew ?_ | refine blk_alloc ?_ _)); exact BK157.out⟩, ⟨by repeat (first | (with_reducible first | exact HB.out | apply below_alloc | apply pw_below_drewN | apply below_drew1 | refine below_set ?_ GE157.out) | exact HB.out)⟩⟩
      · rw [if_neg c6] at H
        have c6b0 : decide ((l0_1.length : Int) < 1) = false := decide_eq_false c6
        have c6b1 : decide (l0_1.length < 1) = false := decide_eq_false (by omega)
        clear c6
        (first | rw [c6b0] | (simp only [i64_w, i32_w]; rw [c6b0]) | skip)
        have H' := Aside0.mk H
        clear H
        have hcz8_0 : w3.cell? ⟨gb157, 0, none⟩ = some (.string a0_0) := (blk_cell BK157.out 0).trans rfl
        have hcz8_1 : w3.cell? ⟨gb157, 1, none⟩ = some (.slice A0_1 l0_1.length c0_1) := (blk_cell BK157.out 1).trans rfl
        have hfz8_0 := blk_frozen BK157.out 0
        have hfz8_1 := blk_frozen BK157.out 1
        go_wp2_with (first | (go_at_call 24; (with_reducible refine (mark_Name.calls a0_0 true _ A4.out).mono ?_); rintro e w' ⟨rfl, ⟨nd, rfl⟩⟩; (try first | exact ⟨rfl, _, World.drewN_drewN _ _ _⟩ | exact ⟨rfl, _, Eq.trans (World.drewN_drewN _ _ _) (congrArg (World.drewN _) (Nat.add_assoc _ _ _))⟩)))
        repeat (go_quiet (first | (go_at_call 24; (with_reducible refine (mark_Name.calls a0_0 true _ A4.out).mono ?_); rintro e w' ⟨rfl, ⟨nd, rfl⟩⟩; (try first | exact ⟨rfl, _, World.drewN_drewN _ _ _⟩ | exact ⟨rfl, _, Eq.trans (World.drewN_drewN _ _ _) (congrArg (World.drewN _) (Nat.add_assoc _ _ _))⟩))); try go_wp2_with (first | (go_at_call 24; (with_reducible refine (mark_Name.calls a0_0 true _ A4.out).mono ?_); rintro e w' ⟨rfl, ⟨nd, rfl⟩⟩; (try first | exact ⟨rfl, _, World.drewN_drewN _ _ _⟩ | exact ⟨rfl, _, Eq.trans (World.drewN_drewN _ _ _) (congrArg (World.drewN _) (Nat.add_assoc _ _ _))⟩))))
        go_meet
        case rel => exact ⟨_, (decide ((l0_1.length : Int) > 64)), (by first | rfl | (simp; done) | (simp [*]; done)), H', ⟨by first | omega | exact Nat.le_refl _⟩, ⟨by (with_reducible repeat (first | refine blk_drewN ?_ _ | refine blk_drew ?_ | refine blk_alloc ?_ _)); exact BK157.out⟩, ⟨by repeat (first | (with_reducible first | exact HB.out | apply below_alloc | apply pw_below_drewN | apply below_drew1 | refine below_set ?_ GE157.out) | exact HB.out)⟩⟩
    · replace c5 := Bool.eq_false_iff.mpr c5
      subst c5
      have H1 : (port_May.j0 k true a0_0 l0_1) = some r := by rw [if_neg (show ¬ (false = true) by decide)] at H; exact H
      clear H
      have H := H1
      clear H1
      have H' := Aside0.mk H
      clear H
      have hcz9_0 : w3.cell? ⟨gb157, 0, none⟩ = some (.string a0_0) := (blk_cell BK157.out 0).trans rfl
      have hcz9_1 : w3.cell? ⟨gb157, 1, none⟩ = some (.slice A0_1 l0_1.length c0_1) := (blk_cell BK157.out 1).trans rfl
      have hfz9_0 := blk_frozen BK157.out 0
      have hfz9_1 := blk_frozen BK157.out 1
      go_wp2_with (first | (go_at_call 24; (with_reducible refine (mark_Name.calls a0_0 false _ A4.out).mono ?_); rintro e w' ⟨rfl, ⟨nd, rfl⟩⟩; (try first | exact ⟨rfl, _, World.drewN_drewN _ _ _⟩ | exact ⟨rfl, _, Eq.trans (World.drewN_drewN _ _ _) (congrArg (World.drewN _) (Nat.add_assoc _ _ _))⟩)))
      repeat (go_quiet (first | (go_at_call 24; (with_reducible refine (mark_Name.calls a0_0 false _ A4.out).mono ?_); rintro e w' ⟨rfl, ⟨nd, rfl⟩⟩; (try first | exact ⟨rfl, _, World.drewN_drewN _ _ _⟩ | exact ⟨rfl, _, Eq.trans (World.drewN_drewN _ _ _) (congrArg (World.drewN _) (Nat.add_assoc _ _ _))⟩))); try go_wp2_with (first | (go_at_call 24; (with_reducible refine (mark_Name.calls a0_0 false _ A4.out).mono ?_); rintro e w' ⟨rfl, ⟨nd, rfl⟩⟩; (try first | exact ⟨rfl, _, World.drewN_drewN _ _ _⟩ | exact ⟨rfl, _, Eq.trans (World.drewN_drewN _ _ _) (congrArg (World.drewN _) (Nat.add_assoc _ _ _))⟩))))
      go_meet
      case rel => exact ⟨_, (true), (by first | rfl | (simp; done) | (simp [*]; done)), H', ⟨by first | omega | exact Nat.le_refl _⟩, ⟨by (with_reducible repeat (first | refine blk_drewN ?_ _ | refine blk_drew ?_ | refine blk_alloc ?_ _)); exact BK157.out⟩, ⟨by repeat (first | (with_reducible first | exact HB.out | apply below_alloc | apply pw_below_drewN | apply below_drew1 | refine below_set ?_ GE157.out) | exact HB.out)⟩⟩
  case rest =>
    clear HC2
    try clear c1
    try clear p2
    try clear c5
    try clear c6
    try clear c6b0
    try clear c6b1
    try clear hcz7_0
    try clear hcz7_1
    try clear hcz8_0
    try clear hcz8_1
    try clear hcz9_0
    try clear hcz9_1
    try clear hfz7_0
    try clear hfz7_1
    try clear hfz8_0
    try clear hfz8_1
    try clear hfz9_0
    try clear hfz9_1
    obtain ⟨kq, x20_1, rfl, HA, HJ1, BK157, HB⟩ := hcut
    cases kq with
    | zero => exact absurd HA.out (by simp [port_May.j0])
    | succ kj1 =>
      have H := HA.out
      clear HA
      simp only [port_May.j0] at H
      by_cases c10 : x20_1 = true
      · subst c10
        have H1 : (some false) = some r := by rw [if_pos rfl] at H; exact H
        clear H
        have H := H1
        clear H1
        obtain rfl := Option.some.inj H
        go_wp2
        repeat (go_quiet (fail); try go_wp2)
        go_ret
        exact ⟨by first | rfl | (simp [errW_none, errW_some] <;> rfl) | (simp [*, errW_none, errW_some] <;> rfl), by repeat (first | (with_reducible first | exact HB.out | apply below_alloc | apply pw_below_drewN | apply below_drew1 | refine below_set ?_ GE157.out) | exact HB.out)⟩
      · replace c10 := Bool.eq_false_iff.mpr c10
        subst c10
        have H1 : (port_May.l0 kj1 l0_1 (l0_1.length : Int) 0 a0_0 l0_1) = some r := by rw [if_neg (show ¬ (false = true) by decide)] at H; exact H
        clear H
        have H := H1
        clear H1
        have H' := Aside0.mk H
        clear H
        have hcz11_0 : wc.cell? ⟨gb157, 0, none⟩ = some (.string a0_0) := (blk_cell BK157.out 0).trans rfl
        have hcz11_1 : wc.cell? ⟨gb157, 1, none⟩ = some (.slice A0_1 l0_1.length c0_1) := (blk_cell BK157.out 1).trans rfl
        have hfz11_0 := blk_frozen BK157.out 0
        have hfz11_1 := blk_frozen BK157.out 1
        go_wp2
        repeat (go_quiet (fail); try go_wp2)
        go_loopg [24] kj1 (fun kq v24 w' => ∃ (x24_2 : Int), v24 = .int .i64 x24_2 ∧ Aside0 (port_May.l0 kq l0_1 (l0_1.length : Int) x24_2 a0_0 l0_1 = some r) ∧ Aside0 (kq ≤ kj1) ∧ Aside0 (w'.heap[gb157]? = some (.cells #[.string a0_0, (.slice A0_1 l0_1.length c0_1)] 35 (0, 0))) ∧ Aside0 (Below w.heap.size w w'))
        case atStart => exact ⟨(0), (by first | rfl | (simp; done) | (simp [*]; done)), H', ⟨Nat.le_refl _⟩, ⟨by (with_reducible repeat (first | refine blk_drewN ?_ _ | refine blk_drew ?_ | refine blk_alloc ?_ _)); exact BK157.out⟩, ⟨by repeat (first | (with_reducible first | exact HB.out | apply below_alloc | apply pw_below_drewN | apply below_drew1 | refine below_set ?_ GE157.out) | exact HB.out)⟩⟩
        case round =>
          clear H'
          try clear c1
          try clear p2
          try clear c5
          try clear c6
          try clear c6b0
          try clear c6b1
          try clear c10
          try clear hcz11_0
          try clear hcz11_1
          try clear hcz7_0
          try clear hcz7_1
          try clear hcz8_0
          try clear hcz8_1
          try clear hcz9_0
          try clear hcz9_1
          try clear hfz11_0
          try clear hfz11_1
          try clear hfz7_0
          try clear hfz7_1
          try clear hfz8_0
          try clear hfz8_1
          try clear hfz9_0
          try clear hfz9_1
          try clear p2
          obtain ⟨x24_2, rfl, HA, HK2, BK157, HB⟩ := hrel
          cases gk with
          | zero => exact absurd HA.out (by simp [port_May.l0])
          | succ k2 =>
            have H := HA.out
            clear HA
            simp only [port_May.l0] at H
            by_cases c12 : x24_2 < (l0_1.length : Int)
            · rw [if_pos c12] at H
              have c12b0 : decide (x24_2 < (l0_1.length : Int)) = true := decide_eq_true c12
              clear c12
              by_cases c13 : 0 ≤ x24_2
              · rw [if_pos c13] at H
                have c13b0 : decide (0 ≤ x24_2) = true := decide_eq_true c13
                clear c13
                by_cases c14 : x24_2 < (l0_1.length : Int)
                · rw [if_pos c14] at H
                  have c14b0 : decide (x24_2 < (l0_1.length : Int)) = true := decide_eq_true c14
                  clear c14
                  have HC15 := Aside0.mk H
                  clear H
                  have p159 : 0 ≤ (x24_2 : Int) := of_decide_eq_true (by first | (with_reducible assumption) | assumption)
                  have q159 : x24_2 < (l0_1.length : Int) := of_decide_eq_true (by first | (with_reducible assumption) | assumption)
                  obtain ⟨ad159, e159, hx159_0, hx159_1, hx159_2, hx159_3⟩ := at_T32 HR0_1.out x24_2 p159 q159
                  cases e159
                  replace hx159_0 := (HB.out.cell (World.block_lt_of_cell? w _ hx159_0)).trans hx159_0
                  replace hx159_1 := (HB.out.cell (World.block_lt_of_cell? w _ hx159_1)).trans hx159_1
                  replace hx159_2 := (HB.out.cell (World.block_lt_of_cell? w _ hx159_2)).trans hx159_2
                  replace hx159_3 := (HB.out.cell (World.block_lt_of_cell? w _ hx159_3)).trans hx159_3
                  replace p159 := eq_true p159
                  replace q159 := eq_true q159
                  go_upto_region 6 with (first | ((with_reducible refine gate_dst (N := 4) rfl ?_); (try (refine gate_guard (by rfl) ?_; dsimp only)); refine box_event ?hg (N := 4) ?hd (cs := #[.string (⟨#[]⟩ : ByteArray), .int .i64 0, .int .i64 0, .int .i64 0]) (t := 32) ?hr ?_; (case hd => rfl); (case hg => rfl); (case hr => first | (go_simp; done) | (go_simp; rfl)); intro gb160 hg w16 hbox hb; have n0_ := Aside0.mk (blk_below (g := gb157) (o := .cells #[.string a0_0, .slice (some ad159) l0_1.length c0_1] 35 (0, 0)) (by (with_reducible repeat (first | refine blk_drewN ?_ _ | refine blk_drew ?_ | refine blk_alloc ?_ _)); exact BK157.out) hb); have n1_ := Aside0.mk (below_step (by repeat (first | (with_reducible first | exact HB.out | apply below_alloc | apply pw_below_drewN | apply below_drew1 | refine below_set ?_ GE157.out) | exact HB.out)) hb); have n2_ := Aside0.mk (hbox); have n3_ := Aside0.mk ((by rw [hg]; exact (below_size (by repeat (first | (with_reducible first | exact HB.out | apply below_alloc | apply pw_below_drewN | apply below_drew1 | refine below_set ?_ GE157.out) | exact HB.out))) : w.heap.size ≤ gb160)); have n4_ := Aside0.mk ((by rw [hg]; exact (below_size (by repeat (first | (with_reducible first | exact HB.out | apply below_alloc | apply pw_below_drewN | apply below_drew1 | refine below_set ?_ GE157.out) | exact HB.out))) : w.heap.size ≤ gb160)); have n5_ := Aside0.mk ((by rw [hg]; exact Nat.ne_of_lt (blk_lt (g := gb157) (o := .cells #[.string a0_0, .slice (some ad159) l0_1.length c0_1] 35 (0, 0)) (by (with_reducible repeat (first | refine blk_drewN ?_ _ | refine blk_drew ?_ | refine blk_alloc ?_ _)); exact BK157.out)) : gb157 ≠ gb160)); have n6_ := Aside0.mk ((by rw [hg]; exact Nat.ne_of_gt (blk_lt (g := gb157) (o := .cells #[.string a0_0, .slice (some ad159) l0_1.length c0_1] 35 (0, 0)) (by (with_reducible repeat (first | refine blk_drewN ?_ _ | refine blk_drew ?_ | refine blk_alloc ?_ _)); exact BK157.out)) : gb160 ≠ gb157)); clear BK157; clear HB; have BK157 := n0_; have HB := n1_; have BK160 := n2_; have GW160 := n3_; have GE160 := n4_; have NB157_160 := n5_; have NB160_157 := n6_; clear n0_ n1_ n2_ n3_ n4_ n5_ n6_; clear hb hbox hg; have hnb17 := NB160_157.out; have hnc17 := NB157_160.out; have hcz18_0 : w16.cell? ⟨gb160, 0, none⟩ = some (.string (⟨#[]⟩ : ByteArray)) := (blk_cell BK160.out 0).trans rfl; have hcz18_1 : w16.cell? ⟨gb160, 1, none⟩ = some (.int .i64 0) := (blk_cell BK160.out 1).trans rfl; have hcz18_2 : w16.cell? ⟨gb160, 2, none⟩ = some (.int .i64 0) := (blk_cell BK160.out 2).trans rfl; have hcz18_3 : w16.cell? ⟨gb160, 3, none⟩ = some (.int .i64 0) := (blk_cell BK160.out 3).trans rfl; have hfz18_0 := blk_frozen BK160.out 0; have hfz18_1 := blk_frozen BK160.out 1; have hfz18_2 := blk_frozen BK160.out 2; have hfz18_3 := blk_frozen BK160.out 3))
                  repeat (go_quiet (first | ((with_reducible refine gate_dst (N := 4) rfl ?_); (try (refine gate_guard (by rfl) ?_; dsimp only)); refine box_event ?hg (N := 4) ?hd (cs := #[.string (⟨#[]⟩ : ByteArray), .int .i64 0, .int .i64 0, .int .i64 0]) (t := 32) ?hr ?_; (case hd => rfl); (case hg => rfl); (case hr => first | (go_simp; done) | (go_simp; rfl)); intro gb160 hg w16 hbox hb; have n0_ := Aside0.mk (blk_below (g := gb157) (o := .cells #[.string a0_0, .slice (some ad159) l0_1.length c0_1] 35 (0, 0)) (by (with_reducible repeat (first | refine blk_drewN ?_ _ | refine blk_drew ?_ | refine blk_alloc ?_ _)); exact BK157.out) hb); have n1_ := Aside0.mk (below_step (by repeat (first | (with_reducible first | exact HB.out | apply below_alloc | apply pw_below_drewN | apply below_drew1 | refine below_set ?_ GE157.out) | exact HB.out)) hb); have n2_ := Aside0.mk (hbox); have n3_ := Aside0.mk ((by rw [hg]; exact (below_size (by repeat (first | (with_reducible first | exact HB.out | apply below_alloc | apply pw_below_drewN | apply below_drew1 | refine below_set ?_ GE157.out) | exact HB.out))) : w.heap.size ≤ gb160)); have n4_ := Aside0.mk ((by rw [hg]; exact (below_size (by repeat (first | (with_reducible first | exact HB.out | apply below_alloc | apply pw_below_drewN | apply below_drew1 | refine below_set ?_ GE157.out) | exact HB.out))) : w.heap.size ≤ gb160)); have n5_ := Aside0.mk ((by rw [hg]; exact Nat.ne_of_lt (blk_lt (g := gb157) (o := .cells #[.string a0_0, .slice (some ad159) l0_1.length c0_1] 35 (0, 0)) (by (with_reducible repeat (first | refine blk_drewN ?_ _ | refine blk_drew ?_ | refine blk_alloc ?_ _)); exact BK157.out)) : gb157 ≠ gb160)); have n6_ := Aside0.mk ((by rw [hg]; exact Nat.ne_of_gt (blk_lt (g := gb157) (o := .cells #[.string a0_0, .slice (some ad159) l0_1.length c0_1] 35 (0, 0)) (by (with_reducible repeat (first | refine blk_drewN ?_ _ | refine blk_drew ?_ | refine blk_alloc ?_ _)); exact BK157.out)) : gb160 ≠ gb157)); clear BK157; clear HB; have BK157 := n0_; have HB := n1_; have BK160 := n2_; have GW160 := n3_; have GE160 := n4_; have NB157_160 := n5_; have NB160_157 := n6_; clear n0_ n1_ n2_ n3_ n4_ n5_ n6_; clear hb hbox hg; have hnb17 := NB160_157.out; have hnc17 := NB157_160.out; have hcz18_0 : w16.cell? ⟨gb160, 0, none⟩ = some (.string (⟨#[]⟩ : ByteArray)) := (blk_cell BK160.out 0).trans rfl; have hcz18_1 : w16.cell? ⟨gb160, 1, none⟩ = some (.int .i64 0) := (blk_cell BK160.out 1).trans rfl; have hcz18_2 : w16.cell? ⟨gb160, 2, none⟩ = some (.int .i64 0) := (blk_cell BK160.out 2).trans rfl; have hcz18_3 : w16.cell? ⟨gb160, 3, none⟩ = some (.int .i64 0) := (blk_cell BK160.out 3).trans rfl; have hfz18_0 := blk_frozen BK160.out 0; have hfz18_1 := blk_frozen BK160.out 1; have hfz18_2 := blk_frozen BK160.out 2; have hfz18_3 := blk_frozen BK160.out 3)); go_upto_region 6 with (first | ((with_reducible refine gate_dst (N := 4) rfl ?_); (try (refine gate_guard (by rfl) ?_; dsimp only)); refine box_event ?hg (N := 4) ?hd (cs := #[.string (⟨#[]⟩ : ByteArray), .int .i64 0, .int .i64 0, .int .i64 0]) (t := 32) ?hr ?_; (case hd => rfl); (case hg => rfl); (case hr => first | (go_simp; done) | (go_simp; rfl)); intro gb160 hg w16 hbox hb; have n0_ := Aside0.mk (blk_below (g := gb157) (o := .cells #[.string a0_0, .slice (some ad159) l0_1.length c0_1] 35 (0, 0)) (by (with_reducible repeat (first | refine blk_drewN ?_ _ | refine blk_drew ?_ | refine blk_alloc ?_ _)); exact BK157.out) hb); have n1_ := Aside0.mk (below_step (by repeat (first | (with_reducible first | exact HB.out | apply below_alloc | apply pw_below_drewN | apply below_drew1 | refine below_set ?_ GE157.out) | exact HB.out)) hb); have n2_ := Aside0.mk (hbox); have n3_ := Aside0.mk ((by rw [hg]; exact (below_size (by repeat (first | (with_reducible first | exact HB.out | apply below_alloc | apply pw_below_drewN | apply below_drew1 | refine below_set ?_ GE157.out) | exact HB.out))) : w.heap.size ≤ gb160)); have n4_ := Aside0.mk ((by rw [hg]; exact (below_size (by repeat (first | (with_reducible first | exact HB.out | apply below_alloc | apply pw_below_drewN | apply below_drew1 | refine below_set ?_ GE157.out) | exact HB.out))) : w.heap.size ≤ gb160)); have n5_ := Aside0.mk ((by rw [hg]; exact Nat.ne_of_lt (blk_lt (g := gb157) (o := .cells #[.string a0_0, .slice (some ad159) l0_1.length c0_1] 35 (0, 0)) (by (with_reducible repeat (first | refine blk_drewN ?_ _ | refine blk_drew ?_ | refine blk_alloc ?_ _)); exact BK157.out)) : gb157 ≠ gb160)); have n6_ := Aside0.mk ((by rw [hg]; exact Nat.ne_of_gt (blk_lt (g := gb157) (o := .cells #[.string a0_0, .slice (some ad159) l0_1.length c0_1] 35 (0, 0)) (by (with_reducible repeat (first | refine blk_drewN ?_ _ | refine blk_drew ?_ | refine blk_alloc ?_ _)); exact BK157.out)) : gb160 ≠ gb157)); clear BK157; clear HB; have BK157 := n0_; have HB := n1_; have BK160 := n2_; have GW160 := n3_; have GE160 := n4_; have NB157_160 := n5_; have NB160_157 := n6_; clear n0_ n1_ n2_ n3_ n4_ n5_ n6_; clear hb hbox hg; have hnb17 := NB160_157.out; have hnc17 := NB157_160.out; have hcz18_0 : w16.cell? ⟨gb160, 0, none⟩ = some (.string (⟨#[]⟩ : ByteArray)) := (blk_cell BK160.out 0).trans rfl; have hcz18_1 : w16.cell? ⟨gb160, 1, none⟩ = some (.int .i64 0) := (blk_cell BK160.out 1).trans rfl; have hcz18_2 : w16.cell? ⟨gb160, 2, none⟩ = some (.int .i64 0) := (blk_cell BK160.out 2).trans rfl; have hcz18_3 : w16.cell? ⟨gb160, 3, none⟩ = some (.int .i64 0) := (blk_cell BK160.out 3).trans rfl; have hfz18_0 := blk_frozen BK160.out 0; have hfz18_1 := blk_frozen BK160.out 1; have hfz18_2 := blk_frozen BK160.out 2; have hfz18_3 := blk_frozen BK160.out 3)))
                  (try simp only [Act.put, List.setIfInBounds_toArray, List.set_cons_zero, List.set_cons_succ])
                  go_cut [64] (fun v64 wc => ∃ (kq : Nat) (x64_14 : Bool), v64 = .bool x64_14 ∧ Aside0 (port_May.j2 kq x24_2 l0_1 (l0_1.length : Int) x24_2 x64_14 a0_0 l0_1 ((rd_T32 l0_1 x24_2).f0) ((rd_T32 l0_1 x24_2).f1) ((rd_T32 l0_1 x24_2).f2) ((rd_T32 l0_1 x24_2).f3) = some r) ∧ Aside0 (kq ≤ k2) ∧ Aside0 (wc.heap[gb157]? = some (.cells #[.string a0_0, (.slice (some ad159) l0_1.length c0_1)] 35 (0, 0))) ∧ Aside0 (wc.heap[gb160]? = some (.cells #[.string ((rd_T32 l0_1 x24_2).f0), .int .i64 ((rd_T32 l0_1 x24_2).f1), .int .i64 ((rd_T32 l0_1 x24_2).f2), .int .i64 ((rd_T32 l0_1 x24_2).f3)] 32 (0, 0))) ∧ Aside0 (Below w.heap.size w wc))
                  case first =>
                    have H := HC15.out
                    clear HC15
                    replace H := Option.bind_eq_some_iff.mp H
                    obtain ⟨t161, A190, H⟩ := H
                    replace H : (if t161 = true then ((port_within.f ((rd_T32 l0_1 x24_2).f1)).bind fun t162 => (if t162 = true then ((port_within.f ((rd_T32 l0_1 x24_2).f2)).bind fun t163 => (if t163 = true then ((port_within.f ((rd_T32 l0_1 x24_2).f3)).bind fun t164 => (if t164 = true then (if ((rd_T32 l0_1 x24_2).f2) > ((rd_T32 l0_1 x24_2).f3) then (port_May.j2 k2 x24_2 l0_1 (l0_1.length : Int) x24_2 true a0_0 l0_1 ((rd_T32 l0_1 x24_2).f0) ((rd_T32 l0_1 x24_2).f1) ((rd_T32 l0_1 x24_2).f2) ((rd_T32 l0_1 x24_2).f3)) else (port_May.j2 k2 x24_2 l0_1 (l0_1.length : Int) x24_2 (decide (((rd_T32 l0_1 x24_2).f1) > ((rd_T32 l0_1 x24_2).f3))) a0_0 l0_1 ((rd_T32 l0_1 x24_2).f0) ((rd_T32 l0_1 x24_2).f1) ((rd_T32 l0_1 x24_2).f2) ((rd_T32 l0_1 x24_2).f3))) else (port_May.j2 k2 x24_2 l0_1 (l0_1.length : Int) x24_2 true a0_0 l0_1 ((rd_T32 l0_1 x24_2).f0) ((rd_T32 l0_1 x24_2).f1) ((rd_T32 l0_1 x24_2).f2) ((rd_T32 l0_1 x24_2).f3)))) else (port_May.j2 k2 x24_2 l0_1 (l0_1.length : Int) x24_2 true a0_0 l0_1 ((rd_T32 l0_1 x24_2).f0) ((rd_T32 l0_1 x24_2).f1) ((rd_T32 l0_1 x24_2).f2) ((rd_T32 l0_1 x24_2).f3)))) else (port_May.j2 k2 x24_2 l0_1 (l0_1.length : Int) x24_2 true a0_0 l0_1 ((rd_T32 l0_1 x24_2).f0) ((rd_T32 l0_1 x24_2).f1) ((rd_T32 l0_1 x24_2).f2) ((rd_T32 l0_1 x24_2).f3)))) else (port_May.j2 k2 x24_2 l0_1 (l0_1.length : Int) x24_2 true a0_0 l0_1 ((rd_T32 l0_1 x24_2).f0) ((rd_T32 l0_1 x24_2).f1) ((rd_T32 l0_1 x24_2).f2) ((rd_T32 l0_1 x24_2).f3))) = some r := H
                    have A19 := Aside0.mk A190
                    clear A190
                    by_cases c20 : t161 = true
                    · subst c20
                      have H1 : ((port_within.f ((rd_T32 l0_1 x24_2).f1)).bind fun t162 => (if t162 = true then ((port_within.f ((rd_T32 l0_1 x24_2).f2)).bind fun t163 => (if t163 = true then ((port_within.f ((rd_T32 l0_1 x24_2).f3)).bind fun t164 => (if t164 = true then (if ((rd_T32 l0_1 x24_2).f2) > ((rd_T32 l0_1 x24_2).f3) then (port_May.j2 k2 x24_2 l0_1 (l0_1.length : Int) x24_2 true a0_0 l0_1 ((rd_T32 l0_1 x24_2).f0) ((rd_T32 l0_1 x24_2).f1) ((rd_T32 l0_1 x24_2).f2) ((rd_T32 l0_1 x24_2).f3)) else (port_May.j2 k2 x24_2 l0_1 (l0_1.length : Int) x24_2 (decide (((rd_T32 l0_1 x24_2).f1) > ((rd_T32 l0_1 x24_2).f3))) a0_0 l0_1 ((rd_T32 l0_1 x24_2).f0) ((rd_T32 l0_1 x24_2).f1) ((rd_T32 l0_1 x24_2).f2) ((rd_T32 l0_1 x24_2).f3))) else (port_May.j2 k2 x24_2 l0_1 (l0_1.length : Int) x24_2 true a0_0 l0_1 ((rd_T32 l0_1 x24_2).f0) ((rd_T32 l0_1 x24_2).f1) ((rd_T32 l0_1 x24_2).f2) ((rd_T32 l0_1 x24_2).f3)))) else (port_May.j2 k2 x24_2 l0_1 (l0_1.length : Int) x24_2 true a0_0 l0_1 ((rd_T32 l0_1 x24_2).f0) ((rd_T32 l0_1 x24_2).f1) ((rd_T32 l0_1 x24_2).f2) ((rd_T32 l0_1 x24_2).f3)))) else (port_May.j2 k2 x24_2 l0_1 (l0_1.length : Int) x24_2 true a0_0 l0_1 ((rd_T32 l0_1 x24_2).f0) ((rd_T32 l0_1 x24_2).f1) ((rd_T32 l0_1 x24_2).f2) ((rd_T32 l0_1 x24_2).f3)))) = some r := by rw [if_pos rfl] at H; exact H
                      clear H
                      have H := H1
                      clear H1
                      replace H := Option.bind_eq_some_iff.mp H
                      obtain ⟨t162, A210, H⟩ := H
                      replace H : (if t162 = true then ((port_within.f ((rd_T32 l0_1 x24_2).f2)).bind fun t163 => (if t163 = true then ((port_within.f ((rd_T32 l0_1 x24_2).f3)).bind fun t164 => (if t164 = true then (if ((rd_T32 l0_1 x24_2).f2) > ((rd_T32 l0_1 x24_2).f3) then (port_May.j2 k2 x24_2 l0_1 (l0_1.length : Int) x24_2 true a0_0 l0_1 ((rd_T32 l0_1 x24_2).f0) ((rd_T32 l0_1 x24_2).f1) ((rd_T32 l0_1 x24_2).f2) ((rd_T32 l0_1 x24_2).f3)) else (port_May.j2 k2 x24_2 l0_1 (l0_1.length : Int) x24_2 (decide (((rd_T32 l0_1 x24_2).f1) > ((rd_T32 l0_1 x24_2).f3))) a0_0 l0_1 ((rd_T32 l0_1 x24_2).f0) ((rd_T32 l0_1 x24_2).f1) ((rd_T32 l0_1 x24_2).f2) ((rd_T32 l0_1 x24_2).f3))) else (port_May.j2 k2 x24_2 l0_1 (l0_1.length : Int) x24_2 true a0_0 l0_1 ((rd_T32 l0_1 x24_2).f0) ((rd_T32 l0_1 x24_2).f1) ((rd_T32 l0_1 x24_2).f2) ((rd_T32 l0_1 x24_2).f3)))) else (port_May.j2 k2 x24_2 l0_1 (l0_1.length : Int) x24_2 true a0_0 l0_1 ((rd_T32 l0_1 x24_2).f0) ((rd_T32 l0_1 x24_2).f1) ((rd_T32 l0_1 x24_2).f2) ((rd_T32 l0_1 x24_2).f3)))) else (port_May.j2 k2 x24_2 l0_1 (l0_1.length : Int) x24_2 true a0_0 l0_1 ((rd_T32 l0_1 x24_2).f0) ((rd_T32 l0_1 x24_2).f1) ((rd_T32 l0_1 x24_2).f2) ((rd_T32 l0_1 x24_2).f3))) = some r := H
                      have A21 := Aside0.mk A210
                      clear A210
                      by_cases c22 : t162 = true
                      · subst c22
                        have H1 : ((port_within.f ((rd_T32 l0_1 x24_2).f2)).bind fun t163 => (if t163 = true then ((port_within.f ((rd_T32 l0_1 x24_2).f3)).bind fun t164 => (if t164 = true then (if ((rd_T32 l0_1 x24_2).f2) > ((rd_T32 l0_1 x24_2).f3) then (port_May.j2 k2 x24_2 l0_1 (l0_1.length : Int) x24_2 true a0_0 l0_1 ((rd_T32 l0_1 x24_2).f0) ((rd_T32 l0_1 x24_2).f1) ((rd_T32 l0_1 x24_2).f2) ((rd_T32 l0_1 x24_2).f3)) else (port_May.j2 k2 x24_2 l0_1 (l0_1.length : Int) x24_2 (decide (((rd_T32 l0_1 x24_2).f1) > ((rd_T32 l0_1 x24_2).f3))) a0_0 l0_1 ((rd_T32 l0_1 x24_2).f0) ((rd_T32 l0_1 x24_2).f1) ((rd_T32 l0_1 x24_2).f2) ((rd_T32 l0_1 x24_2).f3))) else (port_May.j2 k2 x24_2 l0_1 (l0_1.length : Int) x24_2 true a0_0 l0_1 ((rd_T32 l0_1 x24_2).f0) ((rd_T32 l0_1 x24_2).f1) ((rd_T32 l0_1 x24_2).f2) ((rd_T32 l0_1 x24_2).f3)))) else (port_May.j2 k2 x24_2 l0_1 (l0_1.length : Int) x24_2 true a0_0 l0_1 ((rd_T32 l0_1 x24_2).f0) ((rd_T32 l0_1 x24_2).f1) ((rd_T32 l0_1 x24_2).f2) ((rd_T32 l0_1 x24_2).f3)))) = some r := by rw [if_pos rfl] at H; exact H
                        clear H
                        have H := H1
                        clear H1
                        replace H := Option.bind_eq_some_iff.mp H
                        obtain ⟨t163, A230, H⟩ := H
                        replace H : (if t163 = true then ((port_within.f ((rd_T32 l0_1 x24_2).f3)).bind fun t164 => (if t164 = true then (if ((rd_T32 l0_1 x24_2).f2) > ((rd_T32 l0_1 x24_2).f3) then (port_May.j2 k2 x24_2 l0_1 (l0_1.length : Int) x24_2 true a0_0 l0_1 ((rd_T32 l0_1 x24_2).f0) ((rd_T32 l0_1 x24_2).f1) ((rd_T32 l0_1 x24_2).f2) ((rd_T32 l0_1 x24_2).f3)) else (port_May.j2 k2 x24_2 l0_1 (l0_1.length : Int) x24_2 (decide (((rd_T32 l0_1 x24_2).f1) > ((rd_T32 l0_1 x24_2).f3))) a0_0 l0_1 ((rd_T32 l0_1 x24_2).f0) ((rd_T32 l0_1 x24_2).f1) ((rd_T32 l0_1 x24_2).f2) ((rd_T32 l0_1 x24_2).f3))) else (port_May.j2 k2 x24_2 l0_1 (l0_1.length : Int) x24_2 true a0_0 l0_1 ((rd_T32 l0_1 x24_2).f0) ((rd_T32 l0_1 x24_2).f1) ((rd_T32 l0_1 x24_2).f2) ((rd_T32 l0_1 x24_2).f3)))) else (port_May.j2 k2 x24_2 l0_1 (l0_1.length : Int) x24_2 true a0_0 l0_1 ((rd_T32 l0_1 x24_2).f0) ((rd_T32 l0_1 x24_2).f1) ((rd_T32 l0_1 x24_2).f2) ((rd_T32 l0_1 x24_2).f3))) = some r := H
                        have A23 := Aside0.mk A230
                        clear A230
                        by_cases c24 : t163 = true
                        · subst c24
                          have H1 : ((port_within.f ((rd_T32 l0_1 x24_2).f3)).bind fun t164 => (if t164 = true then (if ((rd_T32 l0_1 x24_2).f2) > ((rd_T32 l0_1 x24_2).f3) then (port_May.j2 k2 x24_2 l0_1 (l0_1.length : Int) x24_2 true a0_0 l0_1 ((rd_T32 l0_1 x24_2).f0) ((rd_T32 l0_1 x24_2).f1) ((rd_T32 l0_1 x24_2).f2) ((rd_T32 l0_1 x24_2).f3)) else (port_May.j2 k2 x24_2 l0_1 (l0_1.length : Int) x24_2 (decide (((rd_T32 l0_1 x24_2).f1) > ((rd_T32 l0_1 x24_2).f3))) a0_0 l0_1 ((rd_T32 l0_1 x24_2).f0) ((rd_T32 l0_1 x24_2).f1) ((rd_T32 l0_1 x24_2).f2) ((rd_T32 l0_1 x24_2).f3))) else (port_May.j2 k2 x24_2 l0_1 (l0_1.length : Int) x24_2 true a0_0 l0_1 ((rd_T32 l0_1 x24_2).f0) ((rd_T32 l0_1 x24_2).f1) ((rd_T32 l0_1 x24_2).f2) ((rd_T32 l0_1 x24_2).f3)))) = some r := by rw [if_pos rfl] at H; exact H
                          clear H
                          have H := H1
                          clear H1
                          replace H := Option.bind_eq_some_iff.mp H
                          obtain ⟨t164, A250, H⟩ := H
                          replace H : (if t164 = true then (if ((rd_T32 l0_1 x24_2).f2) > ((rd_T32 l0_1 x24_2).f3) then (port_May.j2 k2 x24_2 l0_1 (l0_1.length : Int) x24_2 true a0_0 l0_1 ((rd_T32 l0_1 x24_2).f0) ((rd_T32 l0_1 x24_2).f1) ((rd_T32 l0_1 x24_2).f2) ((rd_T32 l0_1 x24_2).f3)) else (port_May.j2 k2 x24_2 l0_1 (l0_1.length : Int) x24_2 (decide (((rd_T32 l0_1 x24_2).f1) > ((rd_T32 l0_1 x24_2).f3))) a0_0 l0_1 ((rd_T32 l0_1 x24_2).f0) ((rd_T32 l0_1 x24_2).f1) ((rd_T32 l0_1 x24_2).f2) ((rd_T32 l0_1 x24_2).f3))) else (port_May.j2 k2 x24_2 l0_1 (l0_1.length : Int) x24_2 true a0_0 l0_1 ((rd_T32 l0_1 x24_2).f0) ((rd_T32 l0_1 x24_2).f1) ((rd_T32 l0_1 x24_2).f2) ((rd_T32 l0_1 x24_2).f3))) = some r := H
                          have A25 := Aside0.mk A250
                          clear A250
                          by_cases c26 : t164 = true
                          · subst c26
                            have H1 : (if ((rd_T32 l0_1 x24_2).f2) > ((rd_T32 l0_1 x24_2).f3) then (port_May.j2 k2 x24_2 l0_1 (l0_1.length : Int) x24_2 true a0_0 l0_1 ((rd_T32 l0_1 x24_2).f0) ((rd_T32 l0_1 x24_2).f1) ((rd_T32 l0_1 x24_2).f2) ((rd_T32 l0_1 x24_2).f3)) else (port_May.j2 k2 x24_2 l0_1 (l0_1.length : Int) x24_2 (decide (((rd_T32 l0_1 x24_2).f1) > ((rd_T32 l0_1 x24_2).f3))) a0_0 l0_1 ((rd_T32 l0_1 x24_2).f0) ((rd_T32 l0_1 x24_2).f1) ((rd_T32 l0_1 x24_2).f2) ((rd_T32 l0_1 x24_2).f3))) = some r := by rw [if_pos rfl] at H; exact H
                            clear H
                            have H := H1
                            clear H1
                            by_cases c27 : ((rd_T32 l0_1 x24_2).f2) > ((rd_T32 l0_1 x24_2).f3)
                            · rw [if_pos c27] at H
                              have c27b0 : decide (((rd_T32 l0_1 x24_2).f3) < ((rd_T32 l0_1 x24_2).f2)) = true := decide_eq_true c27
                              clear c27
                              (first | rw [c27b0] | (simp only [i64_w, i32_w]; rw [c27b0]) | skip)
                              have H' := Aside0.mk H
                              clear H
                              have hnb28 := NB160_157.out
                              have hnc28 := NB157_160.out
                              have hcz29_0 : w16.cell? ⟨gb160, 0, none⟩ = some (.string (⟨#[]⟩ : ByteArray)) := (blk_cell BK160.out 0).trans rfl
                              have hcz29_1 : w16.cell? ⟨gb160, 1, none⟩ = some (.int .i64 0) := (blk_cell BK160.out 1).trans rfl
                              have hcz29_2 : w16.cell? ⟨gb160, 2, none⟩ = some (.int .i64 0) := (blk_cell BK160.out 2).trans rfl
                              have hcz29_3 : w16.cell? ⟨gb160, 3, none⟩ = some (.int .i64 0) := (blk_cell BK160.out 3).trans rfl
                              have hfz29_0 := blk_frozen BK160.out 0
                              have hfz29_1 := blk_frozen BK160.out 1
                              have hfz29_2 := blk_frozen BK160.out 2
                              have hfz29_3 := blk_frozen BK160.out 3
                              go_wp2_with (first | (go_at_call 24; (with_reducible refine (mark_Name.calls ((rd_T32 l0_1 x24_2).f0) true _ A19.out).mono ?_); rintro e w' ⟨rfl, ⟨nd, rfl⟩⟩; (try first | exact ⟨rfl, _, World.drewN_drewN _ _ _⟩ | exact ⟨rfl, _, Eq.trans (World.drewN_drewN _ _ _) (congrArg (World.drewN _) (Nat.add_assoc _ _ _))⟩)) | (go_at_call 25; (with_reducible refine (port_within.calls ((rd_T32 l0_1 x24_2).f1) true _ A21.out).mono ?_); rintro e w' ⟨rfl, ⟨nd, rfl⟩⟩; (try first | exact ⟨rfl, _, World.drewN_drewN _ _ _⟩ | exact ⟨rfl, _, Eq.trans (World.drewN_drewN _ _ _) (congrArg (World.drewN _) (Nat.add_assoc _ _ _))⟩)) | (go_at_call 25; (with_reducible refine (port_within.calls ((rd_T32 l0_1 x24_2).f2) true _ A23.out).mono ?_); rintro e w' ⟨rfl, ⟨nd, rfl⟩⟩; (try first | exact ⟨rfl, _, World.drewN_drewN _ _ _⟩ | exact ⟨rfl, _, Eq.trans (World.drewN_drewN _ _ _) (congrArg (World.drewN _) (Nat.add_assoc _ _ _))⟩)) | (go_at_call 25; (with_reducible refine (port_within.calls ((rd_T32 l0_1 x24_2).f3) true _ A25.out).mono ?_); rintro e w' ⟨rfl, ⟨nd, rfl⟩⟩; (try first | exact ⟨rfl, _, World.drewN_drewN _ _ _⟩ | exact ⟨rfl, _, Eq.trans (World.drewN_drewN _ _ _) (congrArg (World.drewN _) (Nat.add_assoc _ _ _))⟩)))
                              repeat (go_quiet (first | (go_at_call 24; (with_reducible refine (mark_Name.calls ((rd_T32 l0_1 x24_2).f0) true _ A19.out).mono ?_); rintro e w' ⟨rfl, ⟨nd, rfl⟩⟩; (try first | exact ⟨rfl, _, World.drewN_drewN _ _ _⟩ | exact ⟨rfl, _, Eq.trans (World.drewN_drewN _ _ _) (congrArg (World.drewN _) (Nat.add_assoc _ _ _))⟩)) | (go_at_call 25; (with_reducible refine (port_within.calls ((rd_T32 l0_1 x24_2).f1) true _ A21.out).mono ?_); rintro e w' ⟨rfl, ⟨nd, rfl⟩⟩; (try first | exact ⟨rfl, _, World.drewN_drewN _ _ _⟩ | exact ⟨rfl, _, Eq.trans (World.drewN_drewN _ _ _) (congrArg (World.drewN _) (Nat.add_assoc _ _ _))⟩)) | (go_at_call 25; (with_reducible refine (port_within.calls ((rd_T32 l0_1 x24_2).f2) true _ A23.out).mono ?_); rintro e w' ⟨rfl, ⟨nd, rfl⟩⟩; (try first | exact ⟨rfl, _, World.drewN_drewN _ _ _⟩ | exact ⟨rfl, _, Eq.trans (World.drewN_drewN _ _ _) (congrArg (World.drewN _) (Nat.add_assoc _ _ _))⟩)) | (go_at_call 25; (with_reducible refine (port_within.calls ((rd_T32 l0_1 x24_2).f3) true _ A25.out).mono ?_); rintro e w' ⟨rfl, ⟨nd, rfl⟩⟩; (try first | exact ⟨rfl, _, World.drewN_drewN _ _ _⟩ | exact ⟨rfl, _, Eq.trans (World.drewN_drewN _ _ _) (congrArg (World.drewN _) (Nat.add_assoc _ _ _))⟩))); try go_wp2_with (first | (go_at_call 24; (with_reducible refine (mark_Name.calls ((rd_T32 l0_1 x24_2).f0) true _ A19.out).mono ?_); rintro e w' ⟨rfl, ⟨nd, rfl⟩⟩; (try first | exact ⟨rfl, _, World.drewN_drewN _ _ _⟩ | exact ⟨rfl, _, Eq.trans (World.drewN_drewN _ _ _) (congrArg (World.drewN _) (Nat.add_assoc _ _ _))⟩)) | (go_at_call 25; (with_reducible refine (port_within.calls ((rd_T32 l0_1 x24_2).f1) true _ A21.out).mono ?_); rintro e w' ⟨rfl, ⟨nd, rfl⟩⟩; (try first | exact ⟨rfl, _, World.drewN_drewN _ _ _⟩ | exact ⟨rfl, _, Eq.trans (World.drewN_drewN _ _ _) (congrArg (World.drewN _) (Nat.add_assoc _ _ _))⟩)) | (go_at_call 25; (with_reducible refine (port_within.calls ((rd_T32 l0_1 x24_2).f2) true _ A23.out).mono ?_); rintro e w' ⟨rfl, ⟨nd, rfl⟩⟩; (try first | exact ⟨rfl, _, World.drewN_drewN _ _ _⟩ | exact ⟨rfl, _, Eq.trans (World.drewN_drewN _ _ _) (congrArg (World.drewN _) (Nat.add_assoc _ _ _))⟩)) | (go_at_call 25; (with_reducible refine (port_within.calls ((rd_T32 l0_1 x24_2).f3) true _ A25.out).mono ?_); rintro e w' ⟨rfl, ⟨nd, rfl⟩⟩; (try first | exact ⟨rfl, _, World.drewN_drewN _ _ _⟩ | exact ⟨rfl, _, Eq.trans (World.drewN_drewN _ _ _) (congrArg (World.drewN _) (Nat.add_assoc _ _ _))⟩))))
                              go_meet
                              case rel => exact ⟨_, (true), (by first | rfl | (simp; done) | (simp [*]; done)), H', ⟨by have := HJ1.out; have := HK2.out; first | omega | exact Nat.le_refl _⟩, ⟨by (with_reducible repeat (first | refine blk_drewN ?_ _ | refine blk_drew ?_ | refine blk_alloc ?_ _)); refine blk_far ?_ NB157_160.out _; (with_reducible repeat (first | refine blk_drewN ?_ _ | refine blk_drew ?_ | refine blk_alloc ?_ _)); refine blk_far ?_ NB157_160.out _; (with_reducible repeat (first | refine blk_drewN ?_ _ | refine blk_drew ?_ | refine blk_alloc ?_ _)); refine blk_far ?_ NB157_160.out _; (with_reducible repeat (first | refine blk_drewN ?_ _ | refine blk_drew ?_ | refine blk_alloc ?_ _)); refine blk_far ?_ NB157_160.out _; (with_reducible repeat (first | refine blk_drewN ?_ _ | refine blk_drew ?_ | refine blk_alloc ?_ _)); exact BK157.out⟩, ⟨by (with_reducible repeat (first | refine blk_drewN ?_ _ | refine blk_drew ?_ | refine blk_alloc ?_ _)); refine blk_put (cs := #[.string ((rd_T32 l0_1 x24_2).f0), .int .i64 ((rd_T32 l0_1 x24_2).f1), .int .i64 ((rd_T32 l0_1 x24_2).f2), .int .i64 0]) ?_ 3 _ rfl; (with_reducible repeat (first | refine blk_drewN ?_ _ | refine blk_drew ?_ | refine blk_alloc ?_ _)); refine blk_put (cs := #[.string ((rd_T32 l0_1 x24_2).f0), .int .i64 ((rd_T32 l0_1 x24_2).f1), .int .i64 0, .int .i64 0]) ?_ 2 _ rfl; (with_reducible repeat (first | refine blk_drewN ?_ _ | refine blk_drew ?_ | refine blk_alloc ?_ _)); refine blk_put (cs := #[.string ((rd_T32 l0_1 x24_2).f0), .int .i64 0, .int .i64 0, .int .i64 0]) ?_ 1 _ rfl; (with_reducible repeat (first | refine blk_drewN ?_ _ | refine blk_drew ?_ | refine blk_alloc ?_ _)); refine blk_put (cs := #[.string (⟨#[]⟩ : ByteArray), .int .i64 0, .int .i64 0, .int .i64 0]) ?_ 0 _ rfl; (with_reducible repeat (first | refine blk_drewN ?_ _ | refine blk_drew ?_ | refine blk_alloc ?_ _)); exact BK160.out⟩, ⟨by repeat (first | (with_reducible first | exact HB.out | apply below_alloc | apply pw_below_drewN | apply below_drew1 | refine below_set ?_ GE157.out | refine below_set ?_ GE160.out) | exact HB.out)⟩⟩
                            · rw [if_neg c27] at H
                              have c27b0 : decide (((rd_T32 l0_1 x24_2).f3) < ((rd_T32 l0_1 x24_2).f2)) = false := decide_eq_false c27
                              clear c27
                              (first | rw [c27b0] | (simp only [i64_w, i32_w]; rw [c27b0]) | skip)
                              have H' := Aside0.mk H
                              clear H
                              have hnb30 := NB160_157.out
                              have hnc30 := NB157_160.out
                              have hcz31_0 : w16.cell? ⟨gb160, 0, none⟩ = some (.string (⟨#[]⟩ : ByteArray)) := (blk_cell BK160.out 0).trans rfl
                              have hcz31_1 : w16.cell? ⟨gb160, 1, none⟩ = some (.int .i64 0) := (blk_cell BK160.out 1).trans rfl
                              have hcz31_2 : w16.cell? ⟨gb160, 2, none⟩ = some (.int .i64 0) := (blk_cell BK160.out 2).trans rfl
                              have hcz31_3 : w16.cell? ⟨gb160, 3, none⟩ = some (.int .i64 0) := (blk_cell BK160.out 3).trans rfl
                              have hfz31_0 := blk_frozen BK160.out 0
                              have hfz31_1 := blk_frozen BK160.out 1
                              have hfz31_2 := blk_frozen BK160.out 2
                              have hfz31_3 := blk_frozen BK160.out 3
                              go_wp2_with (first | (go_at_call 24; (with_reducible refine (mark_Name.calls ((rd_T32 l0_1 x24_2).f0) true _ A19.out).mono ?_); rintro e w' ⟨rfl, ⟨nd, rfl⟩⟩; (try first | exact ⟨rfl, _, World.drewN_drewN _ _ _⟩ | exact ⟨rfl, _, Eq.trans (World.drewN_drewN _ _ _) (congrArg (World.drewN _) (Nat.add_assoc _ _ _))⟩)) | (go_at_call 25; (with_reducible refine (port_within.calls ((rd_T32 l0_1 x24_2).f1) true _ A21.out).mono ?_); rintro e w' ⟨rfl, ⟨nd, rfl⟩⟩; (try first | exact ⟨rfl, _, World.drewN_drewN _ _ _⟩ | exact ⟨rfl, _, Eq.trans (World.drewN_drewN _ _ _) (congrArg (World.drewN _) (Nat.add_assoc _ _ _))⟩)) | (go_at_call 25; (with_reducible refine (port_within.calls ((rd_T32 l0_1 x24_2).f2) true _ A23.out).mono ?_); rintro e w' ⟨rfl, ⟨nd, rfl⟩⟩; (try first | exact ⟨rfl, _, World.drewN_drewN _ _ _⟩ | exact ⟨rfl, _, Eq.trans (World.drewN_drewN _ _ _) (congrArg (World.drewN _) (Nat.add_assoc _ _ _))⟩)) | (go_at_call 25; (with_reducible refine (port_within.calls ((rd_T32 l0_1 x24_2).f3) true _ A25.out).mono ?_); rintro e w' ⟨rfl, ⟨nd, rfl⟩⟩; (try first | exact ⟨rfl, _, World.drewN_drewN _ _ _⟩ | exact ⟨rfl, _, Eq.trans (World.drewN_drewN _ _ _) (congrArg (World.drewN _) (Nat.add_assoc _ _ _))⟩)))
                              repeat (go_quiet (first | (go_at_call 24; (with_reducible refine (mark_Name.calls ((rd_T32 l0_1 x24_2).f0) true _ A19.out).mono ?_); rintro e w' ⟨rfl, ⟨nd, rfl⟩⟩; (try first | exact ⟨rfl, _, World.drewN_drewN _ _ _⟩ | exact ⟨rfl, _, Eq.trans (World.drewN_drewN _ _ _) (congrArg (World.drewN _) (Nat.add_assoc _ _ _))⟩)) | (go_at_call 25; (with_reducible refine (port_within.calls ((rd_T32 l0_1 x24_2).f1) true _ A21.out).mono ?_); rintro e w' ⟨rfl, ⟨nd, rfl⟩⟩; (try first | exact ⟨rfl, _, World.drewN_drewN _ _ _⟩ | exact ⟨rfl, _, Eq.trans (World.drewN_drewN _ _ _) (congrArg (World.drewN _) (Nat.add_assoc _ _ _))⟩)) | (go_at_call 25; (with_reducible refine (port_within.calls ((rd_T32 l0_1 x24_2).f2) true _ A23.out).mono ?_); rintro e w' ⟨rfl, ⟨nd, rfl⟩⟩; (try first | exact ⟨rfl, _, World.drewN_drewN _ _ _⟩ | exact ⟨rfl, _, Eq.trans (World.drewN_drewN _ _ _) (congrArg (World.drewN _) (Nat.add_assoc _ _ _))⟩)) | (go_at_call 25; (with_reducible refine (port_within.calls ((rd_T32 l0_1 x24_2).f3) true _ A25.out).mono ?_); rintro e w' ⟨rfl, ⟨nd, rfl⟩⟩; (try first | exact ⟨rfl, _, World.drewN_drewN _ _ _⟩ | exact ⟨rfl, _, Eq.trans (World.drewN_drewN _ _ _) (congrArg (World.drewN _) (Nat.add_assoc _ _ _))⟩))); try go_wp2_with (first | (go_at_call 24; (with_reducible refine (mark_Name.calls ((rd_T32 l0_1 x24_2).f0) true _ A19.out).mono ?_); rintro e w' ⟨rfl, ⟨nd, rfl⟩⟩; (try first | exact ⟨rfl, _, World.drewN_drewN _ _ _⟩ | exact ⟨rfl, _, Eq.trans (World.drewN_drewN _ _ _) (congrArg (World.drewN _) (Nat.add_assoc _ _ _))⟩)) | (go_at_call 25; (with_reducible refine (port_within.calls ((rd_T32 l0_1 x24_2).f1) true _ A21.out).mono ?_); rintro e w' ⟨rfl, ⟨nd, rfl⟩⟩; (try first | exact ⟨rfl, _, World.drewN_drewN _ _ _⟩ | exact ⟨rfl, _, Eq.trans (World.drewN_drewN _ _ _) (congrArg (World.drewN _) (Nat.add_assoc _ _ _))⟩)) | (go_at_call 25; (with_reducible refine (port_within.calls ((rd_T32 l0_1 x24_2).f2) true _ A23.out).mono ?_); rintro e w' ⟨rfl, ⟨nd, rfl⟩⟩; (try first | exact ⟨rfl, _, World.drewN_drewN _ _ _⟩ | exact ⟨rfl, _, Eq.trans (World.drewN_drewN _ _ _) (congrArg (World.drewN _) (Nat.add_assoc _ _ _))⟩)) | (go_at_call 25; (with_reducible refine (port_within.calls ((rd_T32 l0_1 x24_2).f3) true _ A25.out).mono ?_); rintro e w' ⟨rfl, ⟨nd, rfl⟩⟩; (try first | exact ⟨rfl, _, World.drewN_drewN _ _ _⟩ | exact ⟨rfl, _, Eq.trans (World.drewN_drewN _ _ _) (congrArg (World.drewN _) (Nat.add_assoc _ _ _))⟩))))
                              go_meet
                              case rel => exact ⟨_, (decide (((rd_T32 l0_1 x24_2).f1) > ((rd_T32 l0_1 x24_2).f3))), (by first | rfl | (simp; done) | (simp [*]; done)), H', ⟨by have := HJ1.out; have := HK2.out; first | omega | exact Nat.le_refl _⟩, ⟨by (with_reducible repeat (first | refine blk_drewN ?_ _ | refine blk_drew ?_ | refine blk_alloc ?_ _)); refine blk_far ?_ NB157_160.out _; (with_reducible repeat (first | refine blk_drewN ?_ _ | refine blk_drew ?_ | refine blk_alloc ?_ _)); refine blk_far ?_ NB157_160.out _; (with_reducible repeat (first | refine blk_drewN ?_ _ | refine blk_drew ?_ | refine blk_alloc ?_ _)); refine blk_far ?_ NB157_160.out _; (with_reducible repeat (first | refine blk_drewN ?_ _ | refine blk_drew ?_ | refine blk_alloc ?_ _)); refine blk_far ?_ NB157_160.out _; (with_reducible repeat (first | refine blk_drewN ?_ _ | refine blk_drew ?_ | refine blk_alloc ?_ _)); exact BK157.out⟩, ⟨by (with_reducible repeat (first | refine blk_drewN ?_ _ | refine blk_drew ?_ | refine blk_alloc ?_ _)); refine blk_put (cs := #[.string ((rd_T32 l0_1 x24_2).f0), .int .i64 ((rd_T32 l0_1 x24_2).f1), .int .i64 ((rd_T32 l0_1 x24_2).f2), .int .i64 0]) ?_ 3 _ rfl; (with_reducible repeat (first | refine blk_drewN ?_ _ | refine blk_drew ?_ | refine blk_alloc ?_ _)); refine blk_put (cs := #[.string ((rd_T32 l0_1 x24_2).f0), .int .i64 ((rd_T32 l0_1 x24_2).f1), .int .i64 0, .int .i64 0]) ?_ 2 _ rfl; (with_reducible repeat (first | refine blk_drewN ?_ _ | refine blk_drew ?_ | refine blk_alloc ?_ _)); refine blk_put (cs := #[.string ((rd_T32 l0_1 x24_2).f0), .int .i64 0, .int .i64 0, .int .i64 0]) ?_ 1 _ rfl; (with_reducible repeat (first | refine blk_drewN ?_ _ | refine blk_drew ?_ | refine blk_alloc ?_ _)); refine blk_put (cs := #[.string (⟨#[]⟩ : ByteArray), .int .i64 0, .int .i64 0, .int .i64 0]) ?_ 0 _ rfl; (with_reducible repeat (first | refine blk_drewN ?_ _ | refine blk_drew ?_ | refine blk_alloc ?_ _)); exact BK160.out⟩, ⟨by repeat (first | (with_reducible first | exact HB.out | apply below_alloc | apply pw_below_drewN | apply below_drew1 | refine below_set ?_ GE157.out | refine below_set ?_ GE160.out) | exact HB.out)⟩⟩
                          · replace c26 := Bool.eq_false_iff.mpr c26
                            subst c26
                            have H1 : (port_May.j2 k2 x24_2 l0_1 (l0_1.length : Int) x24_2 true a0_0 l0_1 ((rd_T32 l0_1 x24_2).f0) ((rd_T32 l0_1 x24_2).f1) ((rd_T32 l0_1 x24_2).f2) ((rd_T32 l0_1 x24_2).f3)) = some r := by rw [if_neg (show ¬ (false = true) by decide)] at H; exact H
                            clear H
                            have H := H1
                            clear H1
                            have H' := Aside0.mk H
                            clear H
                            have hnb32 := NB160_157.out
                            have hnc32 := NB157_160.out
                            have hcz33_0 : w16.cell? ⟨gb160, 0, none⟩ = some (.string (⟨#[]⟩ : ByteArray)) := (blk_cell BK160.out 0).trans rfl
                            have hcz33_1 : w16.cell? ⟨gb160, 1, none⟩ = some (.int .i64 0) := (blk_cell BK160.out 1).trans rfl
                            have hcz33_2 : w16.cell? ⟨gb160, 2, none⟩ = some (.int .i64 0) := (blk_cell BK160.out 2).trans rfl
                            have hcz33_3 : w16.cell? ⟨gb160, 3, none⟩ = some (.int .i64 0) := (blk_cell BK160.out 3).trans rfl
                            have hfz33_0 := blk_frozen BK160.out 0
                            have hfz33_1 := blk_frozen BK160.out 1
                            have hfz33_2 := blk_frozen BK160.out 2
                            have hfz33_3 := blk_frozen BK160.out 3
                            go_wp2_with (first | (go_at_call 24; (with_reducible refine (mark_Name.calls ((rd_T32 l0_1 x24_2).f0) true _ A19.out).mono ?_); rintro e w' ⟨rfl, ⟨nd, rfl⟩⟩; (try first | exact ⟨rfl, _, World.drewN_drewN _ _ _⟩ | exact ⟨rfl, _, Eq.trans (World.drewN_drewN _ _ _) (congrArg (World.drewN _) (Nat.add_assoc _ _ _))⟩)) | (go_at_call 25; (with_reducible refine (port_within.calls ((rd_T32 l0_1 x24_2).f1) true _ A21.out).mono ?_); rintro e w' ⟨rfl, ⟨nd, rfl⟩⟩; (try first | exact ⟨rfl, _, World.drewN_drewN _ _ _⟩ | exact ⟨rfl, _, Eq.trans (World.drewN_drewN _ _ _) (congrArg (World.drewN _) (Nat.add_assoc _ _ _))⟩)) | (go_at_call 25; (with_reducible refine (port_within.calls ((rd_T32 l0_1 x24_2).f2) true _ A23.out).mono ?_); rintro e w' ⟨rfl, ⟨nd, rfl⟩⟩; (try first | exact ⟨rfl, _, World.drewN_drewN _ _ _⟩ | exact ⟨rfl, _, Eq.trans (World.drewN_drewN _ _ _) (congrArg (World.drewN _) (Nat.add_assoc _ _ _))⟩)) | (go_at_call 25; (with_reducible refine (port_within.calls ((rd_T32 l0_1 x24_2).f3) false _ A25.out).mono ?_); rintro e w' ⟨rfl, ⟨nd, rfl⟩⟩; (try first | exact ⟨rfl, _, World.drewN_drewN _ _ _⟩ | exact ⟨rfl, _, Eq.trans (World.drewN_drewN _ _ _) (congrArg (World.drewN _) (Nat.add_assoc _ _ _))⟩)))
                            repeat (go_quiet (first | (go_at_call 24; (with_reducible refine (mark_Name.calls ((rd_T32 l0_1 x24_2).f0) true _ A19.out).mono ?_); rintro e w' ⟨rfl, ⟨nd, rfl⟩⟩; (try first | exact ⟨rfl, _, World.drewN_drewN _ _ _⟩ | exact ⟨rfl, _, Eq.trans (World.drewN_drewN _ _ _) (congrArg (World.drewN _) (Nat.add_assoc _ _ _))⟩)) | (go_at_call 25; (with_reducible refine (port_within.calls ((rd_T32 l0_1 x24_2).f1) true _ A21.out).mono ?_); rintro e w' ⟨rfl, ⟨nd, rfl⟩⟩; (try first | exact ⟨rfl, _, World.drewN_drewN _ _ _⟩ | exact ⟨rfl, _, Eq.trans (World.drewN_drewN _ _ _) (congrArg (World.drewN _) (Nat.add_assoc _ _ _))⟩)) | (go_at_call 25; (with_reducible refine (port_within.calls ((rd_T32 l0_1 x24_2).f2) true _ A23.out).mono ?_); rintro e w' ⟨rfl, ⟨nd, rfl⟩⟩; (try first | exact ⟨rfl, _, World.drewN_drewN _ _ _⟩ | exact ⟨rfl, _, Eq.trans (World.drewN_drewN _ _ _) (congrArg (World.drewN _) (Nat.add_assoc _ _ _))⟩)) | (go_at_call 25; (with_reducible refine (port_within.calls ((rd_T32 l0_1 x24_2).f3) false _ A25.out).mono ?_); rintro e w' ⟨rfl, ⟨nd, rfl⟩⟩; (try first | exact ⟨rfl, _, World.drewN_drewN _ _ _⟩ | exact ⟨rfl, _, Eq.trans (World.drewN_drewN _ _ _) (congrArg (World.drewN _) (Nat.add_assoc _ _ _))⟩))); try go_wp2_with (first | (go_at_call 24; (with_reducible refine (mark_Name.calls ((rd_T32 l0_1 x24_2).f0) true _ A19.out).mono ?_); rintro e w' ⟨rfl, ⟨nd, rfl⟩⟩; (try first | exact ⟨rfl, _, World.drewN_drewN _ _ _⟩ | exact ⟨rfl, _, Eq.trans (World.drewN_drewN _ _ _) (congrArg (World.drewN _) (Nat.add_assoc _ _ _))⟩)) | (go_at_call 25; (with_reducible refine (port_within.calls ((rd_T32 l0_1 x24_2).f1) true _ A21.out).mono ?_); rintro e w' ⟨rfl, ⟨nd, rfl⟩⟩; (try first | exact ⟨rfl, _, World.drewN_drewN _ _ _⟩ | exact ⟨rfl, _, Eq.trans (World.drewN_drewN _ _ _) (congrArg (World.drewN _) (Nat.add_assoc _ _ _))⟩)) | (go_at_call 25; (with_reducible refine (port_within.calls ((rd_T32 l0_1 x24_2).f2) true _ A23.out).mono ?_); rintro e w' ⟨rfl, ⟨nd, rfl⟩⟩; (try first | exact ⟨rfl, _, World.drewN_drewN _ _ _⟩ | exact ⟨rfl, _, Eq.trans (World.drewN_drewN _ _ _) (congrArg (World.drewN _) (Nat.add_assoc _ _ _))⟩)) | (go_at_call 25; (with_reducible refine (port_within.calls ((rd_T32 l0_1 x24_2).f3) false _ A25.out).mono ?_); rintro e w' ⟨rfl, ⟨nd, rfl⟩⟩; (try first | exact ⟨rfl, _, World.drewN_drewN _ _ _⟩ | exact ⟨rfl, _, Eq.trans (World.drewN_drewN _ _ _) (congrArg (World.drewN _) (Nat.add_assoc _ _ _))⟩))))
                            go_meet
                            case rel => exact ⟨_, (true), (by first | rfl | (simp; done) | (simp [*]; done)), H', ⟨by have := HJ1.out; have := HK2.out; first | omega | exact Nat.le_refl _⟩, ⟨by (with_reducible repeat (first | refine blk_drewN ?_ _ | refine blk_drew ?_ | refine blk_alloc ?_ _)); refine blk_far ?_ NB157_160.out _; (with_reducible repeat (first | refine blk_drewN ?_ _ | refine blk_drew ?_ | refine blk_alloc ?_ _)); refine blk_far ?_ NB157_160.out _; (with_reducible repeat (first | refine blk_drewN ?_ _ | refine blk_drew ?_ | refine blk_alloc ?_ _)); refine blk_far ?_ NB157_160.out _; (with_reducible repeat (first | refine blk_drewN ?_ _ | refine blk_drew ?_ | refine blk_alloc ?_ _)); refine blk_far ?_ NB157_160.out _; (with_reducible repeat (first | refine blk_drewN ?_ _ | refine blk_drew ?_ | refine blk_alloc ?_ _)); exact BK157.out⟩, ⟨by (with_reducible repeat (first | refine blk_drewN ?_ _ | refine blk_drew ?_ | refine blk_alloc ?_ _)); refine blk_put (cs := #[.string ((rd_T32 l0_1 x24_2).f0), .int .i64 ((rd_T32 l0_1 x24_2).f1), .int .i64 ((rd_T32 l0_1 x24_2).f2), .int .i64 0]) ?_ 3 _ rfl; (with_reducible repeat (first | refine blk_drewN ?_ _ | refine blk_drew ?_ | refine blk_alloc ?_ _)); refine blk_put (cs := #[.string ((rd_T32 l0_1 x24_2).f0), .int .i64 ((rd_T32 l0_1 x24_2).f1), .int .i64 0, .int .i64 0]) ?_ 2 _ rfl; (with_reducible repeat (first | refine blk_drewN ?_ _ | refine blk_drew ?_ | refine blk_alloc ?_ _)); refine blk_put (cs := #[.string ((rd_T32 l0_1 x24_2).f0), .int .i64 0, .int .i64 0, .int .i64 0]) ?_ 1 _ rfl; (with_reducible repeat (first | refine blk_drewN ?_ _ | refine blk_drew ?_ | refine blk_alloc ?_ _)); refine blk_put (cs := #[.string (⟨#[]⟩ : ByteArray), .int .i64 0, .int .i64 0, .int .i64 0]) ?_ 0 _ rfl; (with_reducible repeat (first | refine blk_drewN ?_ _ | refine blk_drew ?_ | refine blk_alloc ?_ _)); exact BK160.out⟩, ⟨by repeat (first | (with_reducible first | exact HB.out | apply below_alloc | apply pw_below_drewN | apply below_drew1 | refine below_set ?_ GE157.out | refine below_set ?_ GE160.out) | exact HB.out)⟩⟩
                        · replace c24 := Bool.eq_false_iff.mpr c24
                          subst c24
                          have H1 : (port_May.j2 k2 x24_2 l0_1 (l0_1.length : Int) x24_2 true a0_0 l0_1 ((rd_T32 l0_1 x24_2).f0) ((rd_T32 l0_1 x24_2).f1) ((rd_T32 l0_1 x24_2).f2) ((rd_T32 l0_1 x24_2).f3)) = some r := by rw [if_neg (show ¬ (false = true) by decide)] at H; exact H
                          clear H
                          have H := H1
                          clear H1
                          have H' := Aside0.mk H
                          clear H
                          have hnb34 := NB160_157.out
                          have hnc34 := NB157_160.out
                          have hcz35_0 : w16.cell? ⟨gb160, 0, none⟩ = some (.string (⟨#[]⟩ : ByteArray)) := (blk_cell BK160.out 0).trans rfl
                          have hcz35_1 : w16.cell? ⟨gb160, 1, none⟩ = some (.int .i64 0) := (blk_cell BK160.out 1).trans rfl
                          have hcz35_2 : w16.cell? ⟨gb160, 2, none⟩ = some (.int .i64 0) := (blk_cell BK160.out 2).trans rfl
                          have hcz35_3 : w16.cell? ⟨gb160, 3, none⟩ = some (.int .i64 0) := (blk_cell BK160.out 3).trans rfl
                          have hfz35_0 := blk_frozen BK160.out 0
                          have hfz35_1 := blk_frozen BK160.out 1
                          have hfz35_2 := blk_frozen BK160.out 2
                          have hfz35_3 := blk_frozen BK160.out 3
                          go_wp2_with (first | (go_at_call 24; (with_reducible refine (mark_Name.calls ((rd_T32 l0_1 x24_2).f0) true _ A19.out).mono ?_); rintro e w' ⟨rfl, ⟨nd, rfl⟩⟩; (try first | exact ⟨rfl, _, World.drewN_drewN _ _ _⟩ | exact ⟨rfl, _, Eq.trans (World.drewN_drewN _ _ _) (congrArg (World.drewN _) (Nat.add_assoc _ _ _))⟩)) | (go_at_call 25; (with_reducible refine (port_within.calls ((rd_T32 l0_1 x24_2).f1) true _ A21.out).mono ?_); rintro e w' ⟨rfl, ⟨nd, rfl⟩⟩; (try first | exact ⟨rfl, _, World.drewN_drewN _ _ _⟩ | exact ⟨rfl, _, Eq.trans (World.drewN_drewN _ _ _) (congrArg (World.drewN _) (Nat.add_assoc _ _ _))⟩)) | (go_at_call 25; (with_reducible refine (port_within.calls ((rd_T32 l0_1 x24_2).f2) false _ A23.out).mono ?_); rintro e w' ⟨rfl, ⟨nd, rfl⟩⟩; (try first | exact ⟨rfl, _, World.drewN_drewN _ _ _⟩ | exact ⟨rfl, _, Eq.trans (World.drewN_drewN _ _ _) (congrArg (World.drewN _) (Nat.add_assoc _ _ _))⟩)))
                          repeat (go_quiet (first | (go_at_call 24; (with_reducible refine (mark_Name.calls ((rd_T32 l0_1 x24_2).f0) true _ A19.out).mono ?_); rintro e w' ⟨rfl, ⟨nd, rfl⟩⟩; (try first | exact ⟨rfl, _, World.drewN_drewN _ _ _⟩ | exact ⟨rfl, _, Eq.trans (World.drewN_drewN _ _ _) (congrArg (World.drewN _) (Nat.add_assoc _ _ _))⟩)) | (go_at_call 25; (with_reducible refine (port_within.calls ((rd_T32 l0_1 x24_2).f1) true _ A21.out).mono ?_); rintro e w' ⟨rfl, ⟨nd, rfl⟩⟩; (try first | exact ⟨rfl, _, World.drewN_drewN _ _ _⟩ | exact ⟨rfl, _, Eq.trans (World.drewN_drewN _ _ _) (congrArg (World.drewN _) (Nat.add_assoc _ _ _))⟩)) | (go_at_call 25; (with_reducible refine (port_within.calls ((rd_T32 l0_1 x24_2).f2) false _ A23.out).mono ?_); rintro e w' ⟨rfl, ⟨nd, rfl⟩⟩; (try first | exact ⟨rfl, _, World.drewN_drewN _ _ _⟩ | exact ⟨rfl, _, Eq.trans (World.drewN_drewN _ _ _) (congrArg (World.drewN _) (Nat.add_assoc _ _ _))⟩))); try go_wp2_with (first | (go_at_call 24; (with_reducible refine (mark_Name.calls ((rd_T32 l0_1 x24_2).f0) true _ A19.out).mono ?_); rintro e w' ⟨rfl, ⟨nd, rfl⟩⟩; (try first | exact ⟨rfl, _, World.drewN_drewN _ _ _⟩ | exact ⟨rfl, _, Eq.trans (World.drewN_drewN _ _ _) (congrArg (World.drewN _) (Nat.add_assoc _ _ _))⟩)) | (go_at_call 25; (with_reducible refine (port_within.calls ((rd_T32 l0_1 x24_2).f1) true _ A21.out).mono ?_); rintro e w' ⟨rfl, ⟨nd, rfl⟩⟩; (try first | exact ⟨rfl, _, World.drewN_drewN _ _ _⟩ | exact ⟨rfl, _, Eq.trans (World.drewN_drewN _ _ _) (congrArg (World.drewN _) (Nat.add_assoc _ _ _))⟩)) | (go_at_call 25; (with_reducible refine (port_within.calls ((rd_T32 l0_1 x24_2).f2) false _ A23.out).mono ?_); rintro e w' ⟨rfl, ⟨nd, rfl⟩⟩; (try first | exact ⟨rfl, _, World.drewN_drewN _ _ _⟩ | exact ⟨rfl, _, Eq.trans (World.drewN_drewN _ _ _) (congrArg (World.drewN _) (Nat.add_assoc _ _ _))⟩))))
                          go_meet
                          case rel => exact ⟨_, (true), (by first | rfl | (simp; done) | (simp [*]; done)), H', ⟨by have := HJ1.out; have := HK2.out; first | omega | exact Nat.le_refl _⟩, ⟨by (with_reducible repeat (first | refine blk_drewN ?_ _ | refine blk_drew ?_ | refine blk_alloc ?_ _)); refine blk_far ?_ NB157_160.out _; (with_reducible repeat (first | refine blk_drewN ?_ _ | refine blk_drew ?_ | refine blk_alloc ?_ _)); refine blk_far ?_ NB157_160.out _; (with_reducible repeat (first | refine blk_drewN ?_ _ | refine blk_drew ?_ | refine blk_alloc ?_ _)); refine blk_far ?_ NB157_160.out _; (with_reducible repeat (first | refine blk_drewN ?_ _ | refine blk_drew ?_ | refine blk_alloc ?_ _)); refine blk_far ?_ NB157_160.out _; (with_reducible repeat (first | refine blk_drewN ?_ _ | refine blk_drew ?_ | refine blk_alloc ?_ _)); exact BK157.out⟩, ⟨by (with_reducible repeat (first | refine blk_drewN ?_ _ | refine blk_drew ?_ | refine blk_alloc ?_ _)); refine blk_put (cs := #[.string ((rd_T32 l0_1 x24_2).f0), .int .i64 ((rd_T32 l0_1 x24_2).f1), .int .i64 ((rd_T32 l0_1 x24_2).f2), .int .i64 0]) ?_ 3 _ rfl; (with_reducible repeat (first | refine blk_drewN ?_ _ | refine blk_drew ?_ | refine blk_alloc ?_ _)); refine blk_put (cs := #[.string ((rd_T32 l0_1 x24_2).f0), .int .i64 ((rd_T32 l0_1 x24_2).f1), .int .i64 0, .int .i64 0]) ?_ 2 _ rfl; (with_reducible repeat (first | refine blk_drewN ?_ _ | refine blk_drew ?_ | refine blk_alloc ?_ _)); refine blk_put (cs := #[.string ((rd_T32 l0_1 x24_2).f0), .int .i64 0, .int .i64 0, .int .i64 0]) ?_ 1 _ rfl; (with_reducible repeat (first | refine blk_drewN ?_ _ | refine blk_drew ?_ | refine blk_alloc ?_ _)); refine blk_put (cs := #[.string (⟨#[]⟩ : ByteArray), .int .i64 0, .int .i64 0, .int .i64 0]) ?_ 0 _ rfl; (with_reducible repeat (first | refine blk_drewN ?_ _ | refine blk_drew ?_ | refine blk_alloc ?_ _)); exact BK160.out⟩, ⟨by repeat (first | (with_reducible first | exact HB.out | apply below_alloc | apply pw_below_drewN | apply below_drew1 | refine below_set ?_ GE157.out | refine below_set ?_ GE160.out) | exact HB.out)⟩⟩
                      · replace c22 := Bool.eq_false_iff.mpr c22
                        subst c22
                        have H1 : (port_May.j2 k2 x24_2 l0_1 (l0_1.length : Int) x24_2 true a0_0 l0_1 ((rd_T32 l0_1 x24_2).f0) ((rd_T32 l0_1 x24_2).f1) ((rd_T32 l0_1 x24_2).f2) ((rd_T32 l0_1 x24_2).f3)) = some r := by rw [if_neg (show ¬ (false = true) by decide)] at H; exact H
                        clear H
                        have H := H1
                        clear H1
                        have H' := Aside0.mk H
                        clear H
                        have hnb36 := NB160_157.out
                        have hnc36 := NB157_160.out
                        have hcz37_0 : w16.cell? ⟨gb160, 0, none⟩ = some (.string (⟨#[]⟩ : ByteArray)) := (blk_cell BK160.out 0).trans rfl
                        have hcz37_1 : w16.cell? ⟨gb160, 1, none⟩ = some (.int .i64 0) := (blk_cell BK160.out 1).trans rfl
                        have hcz37_2 : w16.cell? ⟨gb160, 2, none⟩ = some (.int .i64 0) := (blk_cell BK160.out 2).trans rfl
                        have hcz37_3 : w16.cell? ⟨gb160, 3, none⟩ = some (.int .i64 0) := (blk_cell BK160.out 3).trans rfl
                        have hfz37_0 := blk_frozen BK160.out 0
                        have hfz37_1 := blk_frozen BK160.out 1
                        have hfz37_2 := blk_frozen BK160.out 2
                        have hfz37_3 := blk_frozen BK160.out 3
                        go_wp2_with (first | (go_at_call 24; (with_reducible refine (mark_Name.calls ((rd_T32 l0_1 x24_2).f0) true _ A19.out).mono ?_); rintro e w' ⟨rfl, ⟨nd, rfl⟩⟩; (try first | exact ⟨rfl, _, World.drewN_drewN _ _ _⟩ | exact ⟨rfl, _, Eq.trans (World.drewN_drewN _ _ _) (congrArg (World.drewN _) (Nat.add_assoc _ _ _))⟩)) | (go_at_call 25; (with_reducible refine (port_within.calls ((rd_T32 l0_1 x24_2).f1) false _ A21.out).mono ?_); rintro e w' ⟨rfl, ⟨nd, rfl⟩⟩; (try first | exact ⟨rfl, _, World.drewN_drewN _ _ _⟩ | exact ⟨rfl, _, Eq.trans (World.drewN_drewN _ _ _) (congrArg (World.drewN _) (Nat.add_assoc _ _ _))⟩)))
                        repeat (go_quiet (first | (go_at_call 24; (with_reducible refine (mark_Name.calls ((rd_T32 l0_1 x24_2).f0) true _ A19.out).mono ?_); rintro e w' ⟨rfl, ⟨nd, rfl⟩⟩; (try first | exact ⟨rfl, _, World.drewN_drewN _ _ _⟩ | exact ⟨rfl, _, Eq.trans (World.drewN_drewN _ _ _) (congrArg (World.drewN _) (Nat.add_assoc _ _ _))⟩)) | (go_at_call 25; (with_reducible refine (port_within.calls ((rd_T32 l0_1 x24_2).f1) false _ A21.out).mono ?_); rintro e w' ⟨rfl, ⟨nd, rfl⟩⟩; (try first | exact ⟨rfl, _, World.drewN_drewN _ _ _⟩ | exact ⟨rfl, _, Eq.trans (World.drewN_drewN _ _ _) (congrArg (World.drewN _) (Nat.add_assoc _ _ _))⟩))); try go_wp2_with (first | (go_at_call 24; (with_reducible refine (mark_Name.calls ((rd_T32 l0_1 x24_2).f0) true _ A19.out).mono ?_); rintro e w' ⟨rfl, ⟨nd, rfl⟩⟩; (try first | exact ⟨rfl, _, World.drewN_drewN _ _ _⟩ | exact ⟨rfl, _, Eq.trans (World.drewN_drewN _ _ _) (congrArg (World.drewN _) (Nat.add_assoc _ _ _))⟩)) | (go_at_call 25; (with_reducible refine (port_within.calls ((rd_T32 l0_1 x24_2).f1) false _ A21.out).mono ?_); rintro e w' ⟨rfl, ⟨nd, rfl⟩⟩; (try first | exact ⟨rfl, _, World.drewN_drewN _ _ _⟩ | exact ⟨rfl, _, Eq.trans (World.drewN_drewN _ _ _) (congrArg (World.drewN _) (Nat.add_assoc _ _ _))⟩))))
                        go_meet
                        case rel => exact ⟨_, (true), (by first | rfl | (simp; done) | (simp [*]; done)), H', ⟨by have := HJ1.out; have := HK2.out; first | omega | exact Nat.le_refl _⟩, ⟨by (with_reducible repeat (first | refine blk_drewN ?_ _ | refine blk_drew ?_ | refine blk_alloc ?_ _)); refine blk_far ?_ NB157_160.out _; (with_reducible repeat (first | refine blk_drewN ?_ _ | refine blk_drew ?_ | refine blk_alloc ?_ _)); refine blk_far ?_ NB157_160.out _; (with_reducible repeat (first | refine blk_drewN ?_ _ | refine blk_drew ?_ | refine blk_alloc ?_ _)); refine blk_far ?_ NB157_160.out _; (with_reducible repeat (first | refine blk_drewN ?_ _ | refine blk_drew ?_ | refine blk_alloc ?_ _)); refine blk_far ?_ NB157_160.out _; (with_reducible repeat (first | refine blk_drewN ?_ _ | refine blk_drew ?_ | refine blk_alloc ?_ _)); exact BK157.out⟩, ⟨by (with_reducible repeat (first | refine blk_drewN ?_ _ | refine blk_drew ?_ | refine blk_alloc ?_ _)); refine blk_put (cs := #[.string ((rd_T32 l0_1 x24_2).f0), .int .i64 ((rd_T32 l0_1 x24_2).f1), .int .i64 ((rd_T32 l0_1 x24_2).f2), .int .i64 0]) ?_ 3 _ rfl; (with_reducible repeat (first | refine blk_drewN ?_ _ | refine blk_drew ?_ | refine blk_alloc ?_ _)); refine blk_put (cs := #[.string ((rd_T32 l0_1 x24_2).f0), .int .i64 ((rd_T32 l0_1 x24_2).f1), .int .i64 0, .int .i64 0]) ?_ 2 _ rfl; (with_reducible repeat (first | refine blk_drewN ?_ _ | refine blk_drew ?_ | refine blk_alloc ?_ _)); refine blk_put (cs := #[.string ((rd_T32 l0_1 x24_2).f0), .int .i64 0, .int .i64 0, .int .i64 0]) ?_ 1 _ rfl; (with_reducible repeat (first | refine blk_drewN ?_ _ | refine blk_drew ?_ | refine blk_alloc ?_ _)); refine blk_put (cs := #[.string (⟨#[]⟩ : ByteArray), .int .i64 0, .int .i64 0, .int .i64 0]) ?_ 0 _ rfl; (with_reducible repeat (first | refine blk_drewN ?_ _ | refine blk_drew ?_ | refine blk_alloc ?_ _)); exact BK160.out⟩, ⟨by repeat (first | (with_reducible first | exact HB.out | apply below_alloc | apply pw_below_drewN | apply below_drew1 | refine below_set ?_ GE157.out | refine below_set ?_ GE160.out) | exact HB.out)⟩⟩
                    · replace c20 := Bool.eq_false_iff.mpr c20
                      subst c20
                      have H1 : (port_May.j2 k2 x24_2 l0_1 (l0_1.length : Int) x24_2 true a0_0 l0_1 ((rd_T32 l0_1 x24_2).f0) ((rd_T32 l0_1 x24_2).f1) ((rd_T32 l0_1 x24_2).f2) ((rd_T32 l0_1 x24_2).f3)) = some r := by rw [if_neg (show ¬ (false = true) by decide)] at H; exact H
                      clear H
                      have H := H1
                      clear H1
                      have H' := Aside0.mk H
                      clear H
                      have hnb38 := NB160_157.out
                      have hnc38 := NB157_160.out
                      have hcz39_0 : w16.cell? ⟨gb160, 0, none⟩ = some (.string (⟨#[]⟩ : ByteArray)) := (blk_cell BK160.out 0).trans rfl
                      have hcz39_1 : w16.cell? ⟨gb160, 1, none⟩ = some (.int .i64 0) := (blk_cell BK160.out 1).trans rfl
                      have hcz39_2 : w16.cell? ⟨gb160, 2, none⟩ = some (.int .i64 0) := (blk_cell BK160.out 2).trans rfl
                      have hcz39_3 : w16.cell? ⟨gb160, 3, none⟩ = some (.int .i64 0) := (blk_cell BK160.out 3).trans rfl
                      have hfz39_0 := blk_frozen BK160.out 0
                      have hfz39_1 := blk_frozen BK160.out 1
                      have hfz39_2 := blk_frozen BK160.out 2
                      have hfz39_3 := blk_frozen BK160.out 3
                      go_wp2_with (first | (go_at_call 24; (with_reducible refine (mark_Name.calls ((rd_T32 l0_1 x24_2).f0) false _ A19.out).mono ?_); rintro e w' ⟨rfl, ⟨nd, rfl⟩⟩; (try first | exact ⟨rfl, _, World.drewN_drewN _ _ _⟩ | exact ⟨rfl, _, Eq.trans (World.drewN_drewN _ _ _) (congrArg (World.drewN _) (Nat.add_assoc _ _ _))⟩)))
                      repeat (go_quiet (first | (go_at_call 24; (with_reducible refine (mark_Name.calls ((rd_T32 l0_1 x24_2).f0) false _ A19.out).mono ?_); rintro e w' ⟨rfl, ⟨nd, rfl⟩⟩; (try first | exact ⟨rfl, _, World.drewN_drewN _ _ _⟩ | exact ⟨rfl, _, Eq.trans (World.drewN_drewN _ _ _) (congrArg (World.drewN _) (Nat.add_assoc _ _ _))⟩))); try go_wp2_with (first | (go_at_call 24; (with_reducible refine (mark_Name.calls ((rd_T32 l0_1 x24_2).f0) false _ A19.out).mono ?_); rintro e w' ⟨rfl, ⟨nd, rfl⟩⟩; (try first | exact ⟨rfl, _, World.drewN_drewN _ _ _⟩ | exact ⟨rfl, _, Eq.trans (World.drewN_drewN _ _ _) (congrArg (World.drewN _) (Nat.add_assoc _ _ _))⟩))))
                      go_meet
                      case rel => exact ⟨_, (true), (by first | rfl | (simp; done) | (simp [*]; done)), H', ⟨by have := HJ1.out; have := HK2.out; first | omega | exact Nat.le_refl _⟩, ⟨by (with_reducible repeat (first | refine blk_drewN ?_ _ | refine blk_drew ?_ | refine blk_alloc ?_ _)); refine blk_far ?_ NB157_160.out _; (with_reducible repeat (first | refine blk_drewN ?_ _ | refine blk_drew ?_ | refine blk_alloc ?_ _)); refine blk_far ?_ NB157_160.out _; (with_reducible repeat (first | refine blk_drewN ?_ _ | refine blk_drew ?_ | refine blk_alloc ?_ _)); refine blk_far ?_ NB157_160.out _; (with_reducible repeat (first | refine blk_drewN ?_ _ | refine blk_drew ?_ | refine blk_alloc ?_ _)); refine blk_far ?_ NB157_160.out _; (with_reducible repeat (first | refine blk_drewN ?_ _ | refine blk_drew ?_ | refine blk_alloc ?_ _)); exact BK157.out⟩, ⟨by (with_reducible repeat (first | refine blk_drewN ?_ _ | refine blk_drew ?_ | refine blk_alloc ?_ _)); refine blk_put (cs := #[.string ((rd_T32 l0_1 x24_2).f0), .int .i64 ((rd_T32 l0_1 x24_2).f1), .int .i64 ((rd_T32 l0_1 x24_2).f2), .int .i64 0]) ?_ 3 _ rfl; (with_reducible repeat (first | refine blk_drewN ?_ _ | refine blk_drew ?_ | refine blk_alloc ?_ _)); refine blk_put (cs := #[.string ((rd_T32 l0_1 x24_2).f0), .int .i64 ((rd_T32 l0_1 x24_2).f1), .int .i64 0, .int .i64 0]) ?_ 2 _ rfl; (with_reducible repeat (first | refine blk_drewN ?_ _ | refine blk_drew ?_ | refine blk_alloc ?_ _)); refine blk_put (cs := #[.string ((rd_T32 l0_1 x24_2).f0), .int .i64 0, .int .i64 0, .int .i64 0]) ?_ 1 _ rfl; (with_reducible repeat (first | refine blk_drewN ?_ _ | refine blk_drew ?_ | refine blk_alloc ?_ _)); refine blk_put (cs := #[.string (⟨#[]⟩ : ByteArray), .int .i64 0, .int .i64 0, .int .i64 0]) ?_ 0 _ rfl; (with_reducible repeat (first | refine blk_drewN ?_ _ | refine blk_drew ?_ | refine blk_alloc ?_ _)); exact BK160.out⟩, ⟨by repeat (first | (with_reducible first | exact HB.out | apply below_alloc | apply pw_below_drewN | apply below_drew1 | refine below_set ?_ GE157.out | refine below_set ?_ GE160.out) | exact HB.out)⟩⟩
                  case rest =>
                    clear HC15
                    try clear c1
                    try clear p1
                    try clear q1
                    try clear hx1
                    try clear c2
                    try clear p2
                    try clear c3
                    try clear c5
                    try clear c6
                    try clear c6b0
                    try clear c6b1
                    try clear c10
                    try clear c12
                    try clear c12b0
                    try clear c13
                    try clear c13b0
                    try clear c14
                    try clear c14b0
                    try clear c15
                    try clear p15
                    try clear q15
                    try clear hx15
                    try clear c17
                    try clear c20
                    try clear c22
                    try clear c24
                    try clear c26
                    try clear c27
                    try clear c27b0
                    try clear c28
                    try clear c30
                    try clear c32
                    try clear c34
                    try clear c36
                    try clear c38
                    try clear hcz11_0
                    try clear hcz11_1
                    try clear hcz18_0
                    try clear hcz18_1
                    try clear hcz18_2
                    try clear hcz18_3
                    try clear hcz29_0
                    try clear hcz29_1
                    try clear hcz29_2
                    try clear hcz29_3
                    try clear hcz31_0
                    try clear hcz31_1
                    try clear hcz31_2
                    try clear hcz31_3
                    try clear hcz33_0
                    try clear hcz33_1
                    try clear hcz33_2
                    try clear hcz33_3
                    try clear hcz35_0
                    try clear hcz35_1
                    try clear hcz35_2
                    try clear hcz35_3
                    try clear hcz37_0
                    try clear hcz37_1
                    try clear hcz37_2
                    try clear hcz37_3
                    try clear hcz39_0
                    try clear hcz39_1
                    try clear hcz39_2
                    try clear hcz39_3
                    try clear hcz7_0
                    try clear hcz7_1
                    try clear hcz8_0
                    try clear hcz8_1
                    try clear hcz9_0
                    try clear hcz9_1
                    try clear hfz11_0
                    try clear hfz11_1
                    try clear hfz18_0
                    try clear hfz18_1
                    try clear hfz18_2
                    try clear hfz18_3
                    try clear hfz29_0
                    try clear hfz29_1
                    try clear hfz29_2
                    try clear hfz29_3
                    try clear hfz31_0
                    try clear hfz31_1
                    try clear hfz31_2
                    try clear hfz31_3
                    try clear hfz33_0
                    try clear hfz33_1
                    try clear hfz33_2
                    try clear hfz33_3
                    try clear hfz35_0
                    try clear hfz35_1
                    try clear hfz35_2
                    try clear hfz35_3
                    try clear hfz37_0
                    try clear hfz37_1
                    try clear hfz37_2
                    try clear hfz37_3
                    try clear hfz39_0
                    try clear hfz39_1
                    try clear hfz39_2
                    try clear hfz39_3
                    try clear hfz7_0
                    try clear hfz7_1
                    try clear hfz8_0
                    try clear hfz8_1
                    try clear hfz9_0
                    try clear hfz9_1
                    try clear hx159_0
                    try clear hx159_1
                    try clear hx159_2
                    try clear hx159_3
                    try clear p159
                    try clear p2
                    try clear q159
                    obtain ⟨kq, x64_14, rfl, HA, HJ14, BK157, BK160, HB⟩ := hcut
                    cases kq with
                    | zero => exact absurd HA.out (by simp [port_May.j2])
                    | succ kj14 =>
                      have H := HA.out
                      clear HA
                      simp only [port_May.j2] at H
                      by_cases c40 : x64_14 = true
                      · subst c40
                        have H1 : (some false) = some r := by rw [if_pos rfl] at H; exact H
                        clear H
                        have H := H1
                        clear H1
                        obtain rfl := Option.some.inj H
                        go_wp2
                        repeat (go_quiet (fail); try go_wp2)
                        go_ret
                        exact ⟨by first | rfl | (simp [errW_none, errW_some] <;> rfl) | (simp [*, errW_none, errW_some] <;> rfl), by repeat (first | (with_reducible first | exact HB.out | apply below_alloc | apply pw_below_drewN | apply below_drew1 | refine below_set ?_ GE157.out | refine below_set ?_ GE160.out) | exact HB.out)⟩
                      · replace c40 := Bool.eq_false_iff.mpr c40
                        subst c40
                        have H1 : (if x24_2 > 0 then (if 0 ≤ (wrap64 (x24_2 - 1)) then (if (wrap64 (x24_2 - 1)) < (l0_1.length : Int) then (if ((rd_T32 l0_1 x24_2).f0).toList = ((rd_T32 l0_1 (wrap64 (x24_2 - 1))).f0).toList then (port_May.j3 kj14 l0_1 (l0_1.length : Int) x24_2 true a0_0 l0_1) else (port_May.j3 kj14 l0_1 (l0_1.length : Int) x24_2 (decide (((rd_T32 l0_1 x24_2).f2) < ((rd_T32 l0_1 (wrap64 (x24_2 - 1))).f3))) a0_0 l0_1)) else (none)) else (none)) else (port_May.j3 kj14 l0_1 (l0_1.length : Int) x24_2 false a0_0 l0_1)) = some r := by rw [if_neg (show ¬ (false = true) by decide)] at H; exact H
                        clear H
                        have H := H1
                        clear H1
                        have HC41 := Aside0.mk H
                        clear H
                        go_upto_region 8 with (fail)
                        repeat (go_quiet (fail); go_upto_region 8 with (fail))
                        go_cut [90] (fun v90 wc => ∃ (kq : Nat) (x90_40 : Bool), v90 = .bool x90_40 ∧ Aside0 (port_May.j3 kq l0_1 (l0_1.length : Int) x24_2 x90_40 a0_0 l0_1 = some r) ∧ Aside0 (kq ≤ kj14) ∧ Aside0 (wc.heap[gb157]? = some (.cells #[.string a0_0, (.slice (some ad159) l0_1.length c0_1)] 35 (0, 0))) ∧ Aside0 (wc.heap[gb160]? = some (.cells #[.string ((rd_T32 l0_1 x24_2).f0), .int .i64 ((rd_T32 l0_1 x24_2).f1), .int .i64 ((rd_T32 l0_1 x24_2).f2), .int .i64 ((rd_T32 l0_1 x24_2).f3)] 32 (0, 0))) ∧ Aside0 (Below w.heap.size w wc))
                        case first =>
                          have H := HC41.out
                          clear HC41
                          by_cases c42 : x24_2 > 0
                          · rw [if_pos c42] at H
                            have c42b0 : decide (0 < x24_2) = true := decide_eq_true c42
                            clear c42
                            (first | rw [c42b0] | (simp only [i64_w, i32_w]; rw [c42b0]) | skip)
                            obtain ⟨ji43, hji43⟩ : ∃ j_ : Int, (wrap64 (x24_2 - 1)) = j_ := ⟨_, rfl⟩
                            replace H : (if 0 ≤ (ji43) then (if (ji43) < (l0_1.length : Int) then (if ((rd_T32 l0_1 x24_2).f0).toList = ((rd_T32 l0_1 (ji43)).f0).toList then (port_May.j3 kj14 l0_1 (l0_1.length : Int) x24_2 true a0_0 l0_1) else (port_May.j3 kj14 l0_1 (l0_1.length : Int) x24_2 (decide (((rd_T32 l0_1 x24_2).f2) < ((rd_T32 l0_1 (ji43)).f3))) a0_0 l0_1)) else (none)) else (none)) = some r := by first | (rw [hji43] at H; exact H) | (simp only [hji43] at H ⊢; exact H)
                            have hji43w : (IntKind.i64.wrap (x24_2 - 1)) = ji43 := (i64_w _).trans hji43
                            by_cases c44 : 0 ≤ (ji43)
                            · rw [if_pos c44] at H
                              have c44b0 : decide (0 ≤ (ji43)) = true := decide_eq_true c44
                              clear c44
                              by_cases c45 : (ji43) < (l0_1.length : Int)
                              · rw [if_pos c45] at H
                                have c45b0 : decide ((ji43) < (l0_1.length : Int)) = true := decide_eq_true c45
                                clear c45
                                by_cases c46 : ((rd_T32 l0_1 x24_2).f0).toList = ((rd_T32 l0_1 (ji43)).f0).toList
                                · rw [if_pos c46] at H
                                  have c46b0 : (((rd_T32 l0_1 x24_2).f0).toList == ((rd_T32 l0_1 (ji43)).f0).toList) = true := beq_iff_eq.mpr c46
                                  have c46b1 : (((rd_T32 l0_1 x24_2).f0).toList != ((rd_T32 l0_1 (ji43)).f0).toList) = false := bne_eq_false_iff_eq.mpr c46
                                  clear c46
                                  have H' := Aside0.mk H
                                  clear H
                                  have hnb47 := NB160_157.out
                                  have hnc47 := NB157_160.out
                                  have hcz48_0 : wc.cell? ⟨gb160, 0, none⟩ = some (.string ((rd_T32 l0_1 x24_2).f0)) := (blk_cell BK160.out 0).trans rfl
                                  have hcz48_1 : wc.cell? ⟨gb160, 1, none⟩ = some (.int .i64 ((rd_T32 l0_1 x24_2).f1)) := (blk_cell BK160.out 1).trans rfl
                                  have hcz48_2 : wc.cell? ⟨gb160, 2, none⟩ = some (.int .i64 ((rd_T32 l0_1 x24_2).f2)) := (blk_cell BK160.out 2).trans rfl
                                  have hcz48_3 : wc.cell? ⟨gb160, 3, none⟩ = some (.int .i64 ((rd_T32 l0_1 x24_2).f3)) := (blk_cell BK160.out 3).trans rfl
                                  have hfz48_0 := blk_frozen BK160.out 0
                                  have hfz48_1 := blk_frozen BK160.out 1
                                  have hfz48_2 := blk_frozen BK160.out 2
                                  have hfz48_3 := blk_frozen BK160.out 3
                                  have hcz49_0 : wc.cell? ⟨gb157, 0, none⟩ = some (.string a0_0) := (blk_cell BK157.out 0).trans rfl
                                  have hcz49_1 : wc.cell? ⟨gb157, 1, none⟩ = some (.slice (some ad159) l0_1.length c0_1) := (blk_cell BK157.out 1).trans rfl
                                  have hfz49_0 := blk_frozen BK157.out 0
                                  have hfz49_1 := blk_frozen BK157.out 1
                                  have p165 : 0 ≤ ((ji43) : Int) := of_decide_eq_true (by first | (with_reducible assumption) | assumption)
                                  have q165 : (ji43) < (l0_1.length : Int) := of_decide_eq_true (by first | (with_reducible assumption) | assumption)
                                  obtain ⟨ad165, e165, hx165_0, hx165_1, hx165_2, hx165_3⟩ := at_T32 HR0_1.out (ji43) p165 q165
                                  obtain rfl : ad159 = ad165 := (by injection e165)
                                  replace hx165_0 := (HB.out.cell (World.block_lt_of_cell? w _ hx165_0)).trans hx165_0
                                  replace hx165_1 := (HB.out.cell (World.block_lt_of_cell? w _ hx165_1)).trans hx165_1
                                  replace hx165_2 := (HB.out.cell (World.block_lt_of_cell? w _ hx165_2)).trans hx165_2
                                  replace hx165_3 := (HB.out.cell (World.block_lt_of_cell? w _ hx165_3)).trans hx165_3
                                  replace p165 := eq_true p165
                                  replace q165 := eq_true q165
                                  go_wp2
                                  repeat (go_quiet (fail); try go_wp2)
                                  go_meet
                                  case rel => exact ⟨_, (true), (by first | rfl | (simp; done) | (simp [*]; done)), H', ⟨by have := HJ1.out; have := HK2.out; have := HJ14.out; first | omega | exact Nat.le_refl _⟩, ⟨by (with_reducible repeat (first | refine blk_drewN ?_ _ | refine blk_drew ?_ | refine blk_alloc ?_ _)); exact BK157.out⟩, ⟨by (with_reducible repeat (first | refine blk_drewN ?_ _ | refine blk_drew ?_ | refine blk_alloc ?_ _)); exact BK160.out⟩, ⟨by repeat (first | (with_reducible first | exact HB.out | apply below_alloc | apply pw_below_drewN | apply below_drew1 | refine below_set ?_ GE157.out | refine below_set ?_ GE160.out) | exact HB.out)⟩⟩
                                · rw [if_neg c46] at H
                                  have c46b0 : (((rd_T32 l0_1 x24_2).f0).toList == ((rd_T32 l0_1 (ji43)).f0).toList) = false := beq_eq_false_iff_ne.mpr c46
                                  have c46b1 : (((rd_T32 l0_1 x24_2).f0).toList != ((rd_T32 l0_1 (ji43)).f0).toList) = true := bne_iff_ne.mpr c46
                                  have H' := Aside0.mk H
                                  clear H
                                  have hnb50 := NB160_157.out
                                  have hnc50 := NB157_160.out
                                  have hcz51_0 : wc.cell? ⟨gb160, 0, none⟩ = some (.string ((rd_T32 l0_1 x24_2).f0)) := (blk_cell BK160.out 0).trans rfl
                                  have hcz51_1 : wc.cell? ⟨gb160, 1, none⟩ = some (.int .i64 ((rd_T32 l0_1 x24_2).f1)) := (blk_cell BK160.out 1).trans rfl
                                  have hcz51_2 : wc.cell? ⟨gb160, 2, none⟩ = some (.int .i64 ((rd_T32 l0_1 x24_2).f2)) := (blk_cell BK160.out 2).trans rfl
                                  have hcz51_3 : wc.cell? ⟨gb160, 3, none⟩ = some (.int .i64 ((rd_T32 l0_1 x24_2).f3)) := (blk_cell BK160.out 3).trans rfl
                                  have hfz51_0 := blk_frozen BK160.out 0
                                  have hfz51_1 := blk_frozen BK160.out 1
                                  have hfz51_2 := blk_frozen BK160.out 2
                                  have hfz51_3 := blk_frozen BK160.out 3
                                  have hcz52_0 : wc.cell? ⟨gb157, 0, none⟩ = some (.string a0_0) := (blk_cell BK157.out 0).trans rfl
                                  have hcz52_1 : wc.cell? ⟨gb157, 1, none⟩ = some (.slice (some ad159) l0_1.length c0_1) := (blk_cell BK157.out 1).trans rfl
                                  have hfz52_0 := blk_frozen BK157.out 0
                                  have hfz52_1 := blk_frozen BK157.out 1
                                  have p165 : 0 ≤ ((ji43) : Int) := of_decide_eq_true (by first | (with_reducible assumption) | assumption)
                                  have q165 : (ji43) < (l0_1.length : Int) := of_decide_eq_true (by first | (with_reducible assumption) | assumption)
                                  obtain ⟨ad165, e165, hx165_0, hx165_1, hx165_2, hx165_3⟩ := at_T32 HR0_1.out (ji43) p165 q165
                                  obtain rfl : ad159 = ad165 := (by injection e165)
                                  replace hx165_0 := (HB.out.cell (World.block_lt_of_cell? w _ hx165_0)).trans hx165_0
                                  replace hx165_1 := (HB.out.cell (World.block_lt_of_cell? w _ hx165_1)).trans hx165_1
                                  replace hx165_2 := (HB.out.cell (World.block_lt_of_cell? w _ hx165_2)).trans hx165_2
                                  replace hx165_3 := (HB.out.cell (World.block_lt_of_cell? w _ hx165_3)).trans hx165_3
                                  replace p165 := eq_true p165
                                  replace q165 := eq_true q165
                                  have p166 : 0 ≤ ((ji43) : Int) := of_decide_eq_true (by first | (with_reducible assumption) | assumption)
                                  have q166 : (ji43) < (l0_1.length : Int) := of_decide_eq_true (by first | (with_reducible assumption) | assumption)
                                  obtain ⟨ad166, e166, hx166_0, hx166_1, hx166_2, hx166_3⟩ := at_T32 HR0_1.out (ji43) p166 q166
                                  obtain rfl : ad159 = ad166 := (by injection e166)
                                  replace hx166_0 := (HB.out.cell (World.block_lt_of_cell? w _ hx166_0)).trans hx166_0
                                  replace hx166_1 := (HB.out.cell (World.block_lt_of_cell? w _ hx166_1)).trans hx166_1
                                  replace hx166_2 := (HB.out.cell (World.block_lt_of_cell? w _ hx166_2)).trans hx166_2
                                  replace hx166_3 := (HB.out.cell (World.block_lt_of_cell? w _ hx166_3)).trans hx166_3
                                  replace p166 := eq_true p166
                                  replace q166 := eq_true q166
                                  go_wp2
                                  repeat (go_quiet (fail); try go_wp2)
                                  go_meet
                                  case rel => exact ⟨_, (decide (((rd_T32 l0_1 x24_2).f2) < ((rd_T32 l0_1 (ji43)).f3))), (by first | rfl | (simp; done) | (simp only [← hji43] <;> (first | rfl | simp)) | (simp [*]; done)), H', ⟨by have := HJ1.out; have := HK2.out; have := HJ14.out; first | omega | exact Nat.le_refl _⟩, ⟨by (with_reducible repeat (first | refine blk_drewN ?_ _ | refine blk_drew ?_ | refine blk_alloc ?_ _)); exact BK157.out⟩, ⟨by (with_reducible repeat (first | refine blk_drewN ?_ _ | refine blk_drew ?_ | refine blk_alloc ?_ _)); exact BK160.out⟩, ⟨by repeat (first | (with_reducible first | exact HB.out | apply below_alloc | apply pw_below_drewN | apply below_drew1 | refine below_set ?_ GE157.out | refine below_set ?_ GE160.out) | exact HB.out)⟩⟩
                              · rw [if_neg c45] at H
                                exact absurd H (by simp)
                            · rw [if_neg c44] at H
                              exact absurd H (by simp)
                          · rw [if_neg c42] at H
                            have c42b0 : decide (0 < x24_2) = false := decide_eq_false c42
                            clear c42
                            (first | rw [c42b0] | (simp only [i64_w, i32_w]; rw [c42b0]) | skip)
                            have H' := Aside0.mk H
                            clear H
                            go_wp2
                            repeat (go_quiet (fail); try go_wp2)
                            go_meet
                            case rel => exact ⟨_, (false), (by first | rfl | (simp; done) | (simp [*]; done)), H', ⟨by have := HJ1.out; have := HK2.out; have := HJ14.out; first | omega | exact Nat.le_refl _⟩, ⟨by (with_reducible repeat (first | refine blk_drewN ?_ _ | refine blk_drew ?_ | refine blk_alloc ?_ _)); exact BK157.out⟩, ⟨by (with_reducible repeat (first | refine blk_drewN ?_ _ | refine blk_drew ?_ | refine blk_alloc ?_ _)); exact BK160.out⟩, ⟨by repeat (first | (with_reducible first | exact HB.out | apply below_alloc | apply pw_below_drewN | apply below_drew1 | refine below_set ?_ GE157.out | refine below_set ?_ GE160.out) | exact HB.out)⟩⟩
                        case rest =>
                          clear HC41
                          try clear c1
                          try clear p1
                          try clear q1
                          try clear hx1
                          try clear c2
                          try clear p2
                          try clear c3
                          try clear c4
                          try clear c5
                          try clear c6
                          try clear c6b0
                          try clear c6b1
                          try clear p6
                          try clear c10
                          try clear c12
                          try clear c12b0
                          try clear c13
                          try clear c13b0
                          try clear c14
                          try clear c14b0
                          try clear c15
                          try clear p15
                          try clear q15
                          try clear hx15
                          try clear p16
                          try clear q16
                          try clear hx16
                          try clear c17
                          try clear c20
                          try clear c22
                          try clear c24
                          try clear c26
                          try clear c27
                          try clear c27b0
                          try clear c28
                          try clear c30
                          try clear c32
                          try clear c34
                          try clear c36
                          try clear c38
                          try clear c40
                          try clear c42
                          try clear c42b0
                          try clear c44
                          try clear c44b0
                          try clear c45
                          try clear c45b0
                          try clear c46
                          try clear c46b0
                          try clear c46b1
                          try clear c47
                          try clear c50
                          try clear hcz11_0
                          try clear hcz11_1
                          try clear hcz18_0
                          try clear hcz18_1
                          try clear hcz18_2
                          try clear hcz18_3
                          try clear hcz29_0
                          try clear hcz29_1
                          try clear hcz29_2
                          try clear hcz29_3
                          try clear hcz31_0
                          try clear hcz31_1
                          try clear hcz31_2
                          try clear hcz31_3
                          try clear hcz33_0
                          try clear hcz33_1
                          try clear hcz33_2
                          try clear hcz33_3
                          try clear hcz35_0
                          try clear hcz35_1
                          try clear hcz35_2
                          try clear hcz35_3
                          try clear hcz37_0
                          try clear hcz37_1
                          try clear hcz37_2
                          try clear hcz37_3
                          try clear hcz39_0
                          try clear hcz39_1
                          try clear hcz39_2
                          try clear hcz39_3
                          try clear hcz48_0
                          try clear hcz48_1
                          try clear hcz48_2
                          try clear hcz48_3
                          try clear hcz49_0
                          try clear hcz49_1
                          try clear hcz51_0
                          try clear hcz51_1
                          try clear hcz51_2
                          try clear hcz51_3
                          try clear hcz52_0
                          try clear hcz52_1
                          try clear hcz7_0
                          try clear hcz7_1
                          try clear hcz8_0
                          try clear hcz8_1
                          try clear hcz9_0
                          try clear hcz9_1
                          try clear hfz11_0
                          try clear hfz11_1
                          try clear hfz18_0
                          try clear hfz18_1
                          try clear hfz18_2
                          try clear hfz18_3
                          try clear hfz29_0
                          try clear hfz29_1
                          try clear hfz29_2
                          try clear hfz29_3
                          try clear hfz31_0
                          try clear hfz31_1
                          try clear hfz31_2
                          try clear hfz31_3
                          try clear hfz33_0
                          try clear hfz33_1
                          try clear hfz33_2
                          try clear hfz33_3
                          try clear hfz35_0
                          try clear hfz35_1
                          try clear hfz35_2
                          try clear hfz35_3
                          try clear hfz37_0
                          try clear hfz37_1
                          try clear hfz37_2
                          try clear hfz37_3
                          try clear hfz39_0
                          try clear hfz39_1
                          try clear hfz39_2
                          try clear hfz39_3
                          try clear hfz48_0
                          try clear hfz48_1
                          try clear hfz48_2
                          try clear hfz48_3
                          try clear hfz49_0
                          try clear hfz49_1
                          try clear hfz51_0
                          try clear hfz51_1
                          try clear hfz51_2
                          try clear hfz51_3
                          try clear hfz52_0
                          try clear hfz52_1
                          try clear hfz7_0
                          try clear hfz7_1
                          try clear hfz8_0
                          try clear hfz8_1
                          try clear hfz9_0
                          try clear hfz9_1
                          try clear hx159_0
                          try clear hx159_1
                          try clear hx159_2
                          try clear hx159_3
                          try clear hx165_0
                          try clear hx165_1
                          try clear hx165_2
                          try clear hx165_3
                          try clear hx166_0
                          try clear hx166_1
                          try clear hx166_2
                          try clear hx166_3
                          try clear p1
                          try clear p15
                          try clear p159
                          try clear p165
                          try clear p166
                          try clear p2
                          try clear q1
                          try clear q15
                          try clear q159
                          try clear q165
                          try clear q166
                          obtain ⟨kq, x90_40, rfl, HA, HJ40, BK157, BK160, HB⟩ := hcut
                          cases kq with
                          | zero => exact absurd HA.out (by simp [port_May.j3])
                          | succ kj40 =>
                            have H := HA.out
                            clear HA
                            simp only [port_May.j3] at H
                            by_cases c53 : x90_40 = true
                            · subst c53
                              have H1 : (some false) = some r := by rw [if_pos rfl] at H; exact H
                              clear H
                              have H := H1
                              clear H1
                              obtain rfl := Option.some.inj H
                              go_wp2
                              repeat (go_quiet (fail); try go_wp2)
                              go_ret
                              exact ⟨by first | rfl | (simp [errW_none, errW_some] <;> rfl) | (simp [*, errW_none, errW_some] <;> rfl), by repeat (first | (with_reducible first | exact HB.out | apply below_alloc | apply pw_below_drewN | apply below_drew1 | refine below_set ?_ GE157.out | refine below_set ?_ GE160.out) | exact HB.out)⟩
                            · replace c53 := Bool.eq_false_iff.mpr c53
                              subst c53
                              have H1 : (port_May.l0 kj40 l0_1 (l0_1.length : Int) (wrap64 (x24_2 + 1)) a0_0 l0_1) = some r := by rw [if_neg (show ¬ (false = true) by decide)] at H; exact H
                              clear H
                              have H := H1
                              clear H1
                              have H' := Aside0.mk H
                              clear H
                              go_wp2
                              repeat (go_quiet (fail); try go_wp2)
                              go_roundg kj40
                              case measure => have := HJ1.out; have := HK2.out; have := HJ14.out; have := HJ40.out; omega
                              case rel => exact ⟨(wrap64 (x24_2 + 1)), (by first | rfl | (simp; done) | (simp [*]; done)), H', ⟨by have := HJ1.out; have := HK2.out; have := HJ14.out; have := HJ40.out; omega⟩, ⟨by (with_reducible repeat (first | refine blk_drewN ?_ _ | refine blk_drew ?_ | refine blk_alloc ?_ _)); exact BK157.out⟩, ⟨by repeat (first | (with_reducible first | exact HB.out | apply below_alloc | apply pw_below_drewN | apply below_drew1 | refine below_set ?_ GE157.out | refine below_set ?_ GE160.out) | exact HB.out)⟩⟩
                · rw [if_neg c14] at H
                  exact absurd H (by simp)
              · rw [if_neg c13] at H
                exact absurd H (by simp)
            · rw [if_neg c12] at H
              have c12b0 : decide (x24_2 < (l0_1.length : Int)) = false := decide_eq_false c12
              clear c12
              obtain rfl := Option.some.inj H
              go_wp2
              repeat (go_quiet (fail); try go_wp2)
              go_ret
              exact ⟨by first | rfl | (simp [errW_none, errW_some] <;> rfl) | (simp [*, errW_none, errW_some] <;> rfl), by repeat (first | (with_reducible first | exact HB.out | apply below_alloc | apply pw_below_drewN | apply below_drew1 | refine below_set ?_ GE157.out) | exact HB.out)⟩

end Go.Proofs.YtbojieeildhlcaaDoor.G
