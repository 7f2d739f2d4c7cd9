-- Printed by a program of this session's (wip/lab) after the kit's print: Lean checks it.
import Derived.Test.YtbojieeildhlcaaDoorGx0
import Derived.Test.YtbojieeildhlcaaDoorGx1
import Derived.Test.YtbojieeildhlcaaDoorH13
import Derived.Test.YtbojieeildhlcaaDoorH15
import Derived.Test.YtbojieeildhlcaaDoorExtD
namespace Go.Proofs.YtbojieeildhlcaaDoor.G
open Go.Proofs.YtbojieeildhlcaaDoor.Ext
open Go.RowKit Go.Proofs.YtbojieeildhlcaaDoorW.PrintWords Go.Proofs.YtbojieeildhlcaaDoorW.PrintLast Go.Proofs.YtbojieeildhlcaaDoorW.PrintMore
attribute [local go_sem] max2_int min2_int max_two min_two max_three min_three max_four min_four   -- for this text's walks alone
set_option linter.unusedVariables false
set_option linter.unusedSimpArgs false

/-! ### supercargolaw16_PortAdds: function 6 -/
mutual
def supercargolaw16_PortAdds.j0 : Nat → Int → Int → Int → Bool → ByteArray → List (S32) → Option (Bool)
  | 0, _, _, _, _, _, _ => none
  | k + 1, x1, x2, x3, x19, x168000, x168001 => if x19 = true then ((awake.f).bind fun t169 => (some t169)) else ((port_Delay.f x168000 x168001 x1 (wrap64 (x2))).bind fun bt170 => ((port_Delay.f bt170.1 bt170.2 x1 (wrap64 (x3))).bind fun bt174 => ((port_Delay.f x168000 x168001 x1 (wrap64 ((wrap64 (x2)) + (wrap64 (x3))))).bind fun bt179 => ((port_May.f k bt174.1 bt174.2).bind fun t184 => ((port_May.f k x168000 x168001).bind fun t185 => (if (t184 != t185) = true then (supercargolaw16_PortAdds.j1 k true x168000 x168001 bt174.1 bt174.2 bt179.1 bt179.2) else ((port_May.f k bt179.1 bt179.2).bind fun t186 => ((port_May.f k x168000 x168001).bind fun t187 => (supercargolaw16_PortAdds.j1 k (t186 != t187) x168000 x168001 bt174.1 bt174.2 bt179.1 bt179.2)))))))))
def supercargolaw16_PortAdds.j1 : Nat → Bool → ByteArray → List (S32) → ByteArray → List (S32) → ByteArray → List (S32) → Option (Bool)
  | 0, _, _, _, _, _, _, _ => none
  | k + 1, x49, x168000, x168001, x179000, x179001, x184000, x184001 => if x49 = true then (some false) else (supercargolaw16_PortAdds.l0 k (x168001.length : Int) 0 x168000 x168001 x179000 x179001 x184000 x184001)
def supercargolaw16_PortAdds.l0 : Nat → Int → Int → ByteArray → List (S32) → ByteArray → List (S32) → ByteArray → List (S32) → Option (Bool)
  | 0, _, _, _, _, _, _, _, _ => none
  | k + 1, x52, x53, x168000, x168001, x179000, x179001, x184000, x184001 => if x53 < x52 then (if 0 ≤ x53 then (if x53 < (x168001.length : Int) then (if ((rd_T32 x168001 x53).f3) > 1047976 then (some true) else (if ((rd_T32 x168001 x53).f3) < 0 then (some true) else (supercargolaw16_PortAdds.l0 k x52 (wrap64 (x53 + 1)) x168000 x168001 x179000 x179001 x184000 x184001))) else (none)) else (none)) else ((supercargoref16_Same.f k x179000 x179001 x184000 x184001).bind fun t188 => (some t188))
end
def supercargolaw16_PortAdds.f (k : Nat) (a0_0 : ByteArray) (l0_1 : List (S32)) (a1 : Int) (a2 : Int) (a3 : Int) : Option (Bool) := (awake.f).bind fun t168 => (if t168 = true then (supercargolaw16_PortAdds.j0 k a1 a2 a3 (decide ((l0_1.length : Int) > 70)) a0_0 l0_1) else (supercargolaw16_PortAdds.j0 k a1 a2 a3 true a0_0 l0_1))
def supercargolaw16_PortAdds.T5 : Bool × List (List Nat × List Nat) := (true, [([], []), ([0], [0]), ([], []), ([2, 1], [2]), ([1, 3], [1, 3]), ([4, 3], [4]), ([5], [5]), ([6, 5, 5], [5, 6]), ([5], [5]), ([8, 7, 5], [5, 8]), ([7, 9, 5], [5, 7, 9]), ([5, 10], [5, 10])])
def supercargolaw16_PortAdds.B5 : List Nat := [0, 1, 0, 7, 15, 31, 63, 127, 63, 511, 1023, 2047]
theorem supercargolaw16_PortAdds.tab5 : rtab .any (opsOf Tryd.f6 5) = supercargolaw16_PortAdds.T5 := by kernel_rfl
theorem supercargolaw16_PortAdds.bits5 : waitsOk supercargolaw16_PortAdds.T5.2 supercargolaw16_PortAdds.B5 = true := by kernel_rfl
set_option maxHeartbeats 8000000 in
set_option maxRecDepth 100000 in
theorem supercargolaw16_PortAdds.calls (k : Nat) (a0_0 : ByteArray) (A0_1 : Option Addr) (c0_1 : Nat) (l0_1 : List (S32)) (a1 : Int) (a2 : Int) (a3 : Int) (r : Bool) (w : World) (hr0_1 : Kd.C k32 w A0_1 l0_1.length l0_1) (hc0_1 : l0_1.length ≤ c0_1) (h : supercargolaw16_PortAdds.f k a0_0 l0_1 a1 a2 a3 = some r) :
    Calls Tryd.prog 6 #[.agg #[.string a0_0, .slice A0_1 l0_1.length c0_1], .int .i64 a1, .int .u8 a2, .int .u8 a3] w fun e w' => e = .returned (.bool r) ∧ Below w.heap.size w w' := by
  have hu35 := Tryd.underlying35
  have HR0_1 := Aside0.mk hr0_1
  have HC0_1 := Aside0.mk hc0_1
  clear hr0_1 hc0_1
  have HB := Aside0.mk (Below.refl w.heap.size w)
  have H : ((awake.f).bind fun t168 => (if t168 = true then (supercargolaw16_PortAdds.j0 k a1 a2 a3 (decide ((l0_1.length : Int) > 70)) a0_0 l0_1) else (supercargolaw16_PortAdds.j0 k a1 a2 a3 true a0_0 l0_1))) = some r := h
  clear h
  have HC5 := Aside0.mk H
  clear H
  go_enter Tryd.func6, Tryd.ntmps6
  go_upto_region 1 with (first | ((with_reducible refine gate_dst (N := 4) rfl ?_); (try (refine gate_guard (by rfl) ?_; dsimp only)); refine box_event ?hg (N := 4) ?hd (cs := #[.string a0_0, .slice A0_1 l0_1.length c0_1]) (t := 35) ?hr ?_; (case hd => rfl); (case hg => rfl); (case hr => first | (go_simp; done) | (go_simp; rfl)); intro gb167 hg w6 hbox hb; have n0_ := Aside0.mk (below_step (by repeat (first | (with_reducible first | exact HB.out | apply below_alloc | apply pw_below_drewN | apply below_drew1) | exact HB.out)) hb); have n1_ := Aside0.mk (hbox); have n2_ := Aside0.mk ((by rw [hg]; exact (below_size (by repeat (first | (with_reducible first | exact HB.out | apply below_alloc | apply pw_below_drewN | apply below_drew1) | exact HB.out))) : w.heap.size ≤ gb167)); have n3_ := Aside0.mk ((by rw [hg]; exact (below_size (by repeat (first | (with_reducible first | exact HB.out | apply below_alloc | apply pw_below_drewN | apply below_drew1) | exact HB.out))) : w.heap.size ≤ gb167)); clear HB; have HB := n0_; have BK167 := n1_; have GW167 := n2_; have GE167 := n3_; clear n0_ n1_ n2_ n3_; clear hb hbox hg))
  (try simp only [Act.put, List.setIfInBounds_toArray, List.set_cons_zero, List.set_cons_succ])
  go_cut [19] (fun v19 wc => ∃ (kq : Nat) (x19_4 : Bool), v19 = .bool x19_4 ∧ Aside0 (supercargolaw16_PortAdds.j0 kq a1 a2 a3 x19_4 a0_0 l0_1 = some r) ∧ Aside0 (kq ≤ k) ∧ Aside0 (wc.heap[gb167]? = some (.cells #[.string a0_0, (.slice A0_1 l0_1.length c0_1)] 35 (0, 0))) ∧ Aside0 (Below w.heap.size w wc))
  case first =>
    have H := HC5.out
    clear HC5
    replace H := Option.bind_eq_some_iff.mp H
    obtain ⟨t168, A70, H⟩ := H
    replace H : (if t168 = true then (supercargolaw16_PortAdds.j0 k a1 a2 a3 (decide ((l0_1.length : Int) > 70)) a0_0 l0_1) else (supercargolaw16_PortAdds.j0 k a1 a2 a3 true a0_0 l0_1)) = some r := H
    have A7 := Aside0.mk A70
    clear A70
    by_cases c8 : t168 = true
    · subst c8
      have H1 : (supercargolaw16_PortAdds.j0 k a1 a2 a3 (decide ((l0_1.length : Int) > 70)) a0_0 l0_1) = some r := by rw [if_pos rfl] at H; exact H
      clear H
      have H := H1
      clear H1
      have H' := Aside0.mk H
      clear H
      go_wp2_with (first | ((with_reducible refine gate_callee (f := 7) rfl ?_); refine goesL_ (some 12) rfl rfl Tryd.func7 (by kernel_rfl) rfl #[] rfl (by (try simp only [List.map_toArray, List.map_cons, List.map_nil]); first | done | rfl | (simp only [List.length_drop, List.length_take]; rfl)) ?_; (with_reducible refine (awake.calls  true _ A7.out).mono ?_); rintro e w9 ⟨rfl, hb⟩; refine ⟨_, rfl, ?_⟩; have n0_ := Aside0.mk (blk_below (g := gb167) (o := .cells #[.string a0_0, .slice A0_1 l0_1.length c0_1] 35 (0, 0)) (by (with_reducible repeat (first | refine blk_drewN ?_ _ | refine blk_drew ?_ | refine blk_alloc ?_ _)); exact BK167.out) hb); have n1_ := Aside0.mk (below_step (by repeat (first | (with_reducible first | exact HB.out | apply below_alloc | apply pw_below_drewN | apply below_drew1 | refine below_set ?_ GE167.out) | exact HB.out)) hb); clear BK167; clear HB; have BK167 := n0_; have HB := n1_; clear n0_ n1_; (try clear hb); (try clear hb2); (try clear hk); (try clear hi); have hcz10_0 : w9.cell? ⟨gb167, 0, none⟩ = some (.string a0_0) := (blk_cell BK167.out 0).trans rfl; have hcz10_1 : w9.cell? ⟨gb167, 1, none⟩ = some (.slice A0_1 l0_1.length c0_1) := (blk_cell BK167.out 1).trans rfl; have hfz10_0 := blk_frozen BK167.out 0; have hfz10_1 := blk_frozen BK167.out 1))
      go_meet
      case rel => exact ⟨_, (decide ((l0_1.length : Int) > 70)), (by first | rfl | (simp; done) | (simp [*]; done)), H', ⟨by first | omega | exact Nat.le_refl _⟩, ⟨by (with_reducible repeat (first | refine blk_drewN ?_ _ | refine blk_drew ?_ | refine blk_alloc ?_ _)); exact BK167.out⟩, ⟨by repeat (first | (with_reducible first | exact HB.out | apply below_alloc | apply pw_below_drewN | apply below_drew1 | refine below_set ?_ GE167.out) | exact HB.out)⟩⟩
    · replace c8 := Bool.eq_false_iff.mpr c8
      subst c8
      have H1 : (supercargolaw16_PortAdds.j0 k a1 a2 a3 true a0_0 l0_1) = some r := by rw [if_neg (show ¬ (false = true) by decide)] at H; exact H
      clear H
      have H := H1
      clear H1
      have H' := Aside0.mk H
      clear H
      go_wp2_with (first | ((with_reducible refine gate_callee (f := 7) rfl ?_); refine goesL_ (some 12) rfl rfl Tryd.func7 (by kernel_rfl) rfl #[] rfl (by (try simp only [List.map_toArray, List.map_cons, List.map_nil]); first | done | rfl | (simp only [List.length_drop, List.length_take]; rfl)) ?_; (with_reducible refine (awake.calls  false _ A7.out).mono ?_); rintro e w11 ⟨rfl, hb⟩; refine ⟨_, rfl, ?_⟩; have n0_ := Aside0.mk (blk_below (g := gb167) (o := .cells #[.string a0_0, .slice A0_1 l0_1.length c0_1] 35 (0, 0)) (by (with_reducible repeat (first | refine blk_drewN ?_ _ | refine blk_drew ?_ | refine blk_alloc ?_ _)); exact BK167.out) hb); have n1_ := Aside0.mk (below_step (by repeat (first | (with_reducible first | exact HB.out | apply below_alloc | apply pw_below_drewN | apply below_drew1 | refine below_set ?_ GE167.out) | exact HB.out)) hb); clear BK167; clear HB; have BK167 := n0_; have HB := n1_; clear n0_ n1_; (try clear hb); (try clear hb2); (try clear hk); (try clear hi)))
      go_meet
      case rel => exact ⟨_, (true), (by first | rfl | (simp; done) | (simp [*]; done)), H', ⟨by first | omega | exact Nat.le_refl _⟩, ⟨by (with_reducible repeat (first | refine blk_drewN ?_ _ | refine blk_drew ?_ | refine blk_alloc ?_ _)); exact BK167.out⟩, ⟨by repeat (first | (with_reducible first | exact HB.out | apply below_alloc | apply pw_below_drewN | apply below_drew1 | refine below_set ?_ GE167.out) | exact HB.out)⟩⟩
  case rest =>
    clear HC5
    try clear p2
    try clear c6
    try clear c7
    try clear c8
    try clear hcz10_0
    try clear hcz10_1
    try clear hfz10_0
    try clear hfz10_1
    obtain ⟨kq, x19_4, rfl, HA, HJ4, BK167, HB⟩ := hcut
    cases kq with
    | zero => exact absurd HA.out (by simp [supercargolaw16_PortAdds.j0])
    | succ kj4 =>
      have H := HA.out
      clear HA
      simp only [supercargolaw16_PortAdds.j0] at H
      by_cases c12 : x19_4 = true
      · subst c12
        have H1 : ((awake.f).bind fun t169 => (some t169)) = some r := by rw [if_pos rfl] at H; exact H
        clear H
        have H := H1
        clear H1
        replace H := Option.bind_eq_some_iff.mp H
        obtain ⟨t169, A130, H⟩ := H
        replace H : (some t169) = some r := H
        have A13 := Aside0.mk A130
        clear A130
        obtain rfl := Option.some.inj H
        go_wp2_with (first | ((with_reducible refine gate_callee (f := 7) rfl ?_); refine goesL_ (some 20) rfl rfl Tryd.func7 (by kernel_rfl) rfl #[] rfl (by (try simp only [List.map_toArray, List.map_cons, List.map_nil]); first | done | rfl | (simp only [List.length_drop, List.length_take]; rfl)) ?_; (with_reducible refine (awake.calls  t169 _ A13.out).mono ?_); rintro e w14 ⟨rfl, hb⟩; refine ⟨_, rfl, ?_⟩; have n0_ := Aside0.mk (blk_below (g := gb167) (o := .cells #[.string a0_0, .slice A0_1 l0_1.length c0_1] 35 (0, 0)) (by (with_reducible repeat (first | refine blk_drewN ?_ _ | refine blk_drew ?_ | refine blk_alloc ?_ _)); exact BK167.out) hb); have n1_ := Aside0.mk (below_step (by repeat (first | (with_reducible first | exact HB.out | apply below_alloc | apply pw_below_drewN | apply below_drew1 | refine below_set ?_ GE167.out) | exact HB.out)) hb); clear BK167; clear HB; have BK167 := n0_; have HB := n1_; clear n0_ n1_; (try clear hb); (try clear hb2); (try clear hk); (try clear hi)))
        go_ret
        exact ⟨by first | rfl | (simp [errW_none, errW_some] <;> rfl) | (simp [*, errW_none, errW_some] <;> rfl), by repeat (first | (with_reducible first | exact HB.out | apply below_alloc | apply pw_below_drewN | apply below_drew1 | refine below_set ?_ GE167.out) | exact HB.out)⟩
      · replace c12 := Bool.eq_false_iff.mpr c12
        subst c12
        have H1 : ((port_Delay.f a0_0 l0_1 a1 (wrap64 (a2))).bind fun bt170 => ((port_Delay.f bt170.1 bt170.2 a1 (wrap64 (a3))).bind fun bt174 => ((port_Delay.f a0_0 l0_1 a1 (wrap64 ((wrap64 (a2)) + (wrap64 (a3))))).bind fun bt179 => ((port_May.f kj4 bt174.1 bt174.2).bind fun t184 => ((port_May.f kj4 a0_0 l0_1).bind fun t185 => (if (t184 != t185) = true then (supercargolaw16_PortAdds.j1 kj4 true a0_0 l0_1 bt174.1 bt174.2 bt179.1 bt179.2) else ((port_May.f kj4 bt179.1 bt179.2).bind fun t186 => ((port_May.f kj4 a0_0 l0_1).bind fun t187 => (supercargolaw16_PortAdds.j1 kj4 (t186 != t187) a0_0 l0_1 bt174.1 bt174.2 bt179.1 bt179.2))))))))) = some r := by rw [if_neg (show ¬ (false = true) by decide)] at H; exact H
        clear H
        have H := H1
        clear H1
        replace H := Option.bind_eq_some_iff.mp H
        obtain ⟨⟨t170, t171⟩, A150, H⟩ := H
        replace H : ((port_Delay.f t170 t171 a1 (wrap64 (a3))).bind fun bt174 => ((port_Delay.f a0_0 l0_1 a1 (wrap64 ((wrap64 (a2)) + (wrap64 (a3))))).bind fun bt179 => ((port_May.f kj4 bt174.1 bt174.2).bind fun t184 => ((port_May.f kj4 a0_0 l0_1).bind fun t185 => (if (t184 != t185) = true then (supercargolaw16_PortAdds.j1 kj4 true a0_0 l0_1 bt174.1 bt174.2 bt179.1 bt179.2) else ((port_May.f kj4 bt179.1 bt179.2).bind fun t186 => ((port_May.f kj4 a0_0 l0_1).bind fun t187 => (supercargolaw16_PortAdds.j1 kj4 (t186 != t187) a0_0 l0_1 bt174.1 bt174.2 bt179.1 bt179.2)))))))) = some r := H
        have A15 := Aside0.mk A150
        clear A150
        replace H := Option.bind_eq_some_iff.mp H
        obtain ⟨⟨t174, t175⟩, A160, H⟩ := H
        replace H : ((port_Delay.f a0_0 l0_1 a1 (wrap64 ((wrap64 (a2)) + (wrap64 (a3))))).bind fun bt179 => ((port_May.f kj4 t174 t175).bind fun t184 => ((port_May.f kj4 a0_0 l0_1).bind fun t185 => (if (t184 != t185) = true then (supercargolaw16_PortAdds.j1 kj4 true a0_0 l0_1 t174 t175 bt179.1 bt179.2) else ((port_May.f kj4 bt179.1 bt179.2).bind fun t186 => ((port_May.f kj4 a0_0 l0_1).bind fun t187 => (supercargolaw16_PortAdds.j1 kj4 (t186 != t187) a0_0 l0_1 t174 t175 bt179.1 bt179.2))))))) = some r := H
        have A16 := Aside0.mk A160
        clear A160
        replace H := Option.bind_eq_some_iff.mp H
        obtain ⟨⟨t179, t180⟩, A170, H⟩ := H
        replace H : ((port_May.f kj4 t174 t175).bind fun t184 => ((port_May.f kj4 a0_0 l0_1).bind fun t185 => (if (t184 != t185) = true then (supercargolaw16_PortAdds.j1 kj4 true a0_0 l0_1 t174 t175 t179 t180) else ((port_May.f kj4 t179 t180).bind fun t186 => ((port_May.f kj4 a0_0 l0_1).bind fun t187 => (supercargolaw16_PortAdds.j1 kj4 (t186 != t187) a0_0 l0_1 t174 t175 t179 t180)))))) = some r := H
        have A17 := Aside0.mk A170
        clear A170
        have HC18 := Aside0.mk H
        clear H
        have hcz19_0 : wc.cell? ⟨gb167, 0, none⟩ = some (.string a0_0) := (blk_cell BK167.out 0).trans rfl
        have hcz19_1 : wc.cell? ⟨gb167, 1, none⟩ = some (.slice A0_1 l0_1.length c0_1) := (blk_cell BK167.out 1).trans rfl
        have hfz19_0 := blk_frozen BK167.out 0
        have hfz19_1 := blk_frozen BK167.out 1
        go_upto_region 5 with (first | ((with_reducible refine gate_callee (f := 12) rfl ?_); refine goesL_ (some 25) rfl rfl Tryd.func12 (by kernel_rfl) rfl #[.agg #[.string a0_0, .slice A0_1 l0_1.length c0_1], .int .i64 a1, .int .i64 (wrap64 (a2))] rfl (by (try simp only [List.map_toArray, List.map_cons, List.map_nil]); first | done | rfl | (simp only [List.length_drop, List.length_take]; rfl)) ?_; (with_reducible refine (port_Delay.calls a0_0 _ _ l0_1 a1 (wrap64 (a2)) t170 t171 _ ?side1 ?side2 A15.out).mono ?_); (case side1 => repeat (first | exact (Kd.C_below HR0_1.out HB.out) | (with_reducible refine Kd.C_alloc ?_ _) | (with_reducible refine Kd.C_drewN ?_ _) | (with_reducible refine Kd.C_drew ?_))); (case side2 => exact HC0_1.out); rintro e w20 ⟨v172, rfl, ho0, hb⟩; refine ⟨_, rfl, ?_⟩; have n0_ := Aside0.mk (Kd.R_lower ho0 (below_size (by repeat (first | (with_reducible first | exact HB.out | apply below_alloc | apply pw_below_drewN | apply below_drew1 | refine below_set ?_ GE167.out) | exact HB.out)))); have n1_ := Aside0.mk (blk_below (g := gb167) (o := .cells #[.string a0_0, .slice A0_1 l0_1.length c0_1] 35 (0, 0)) (by (with_reducible repeat (first | refine blk_drewN ?_ _ | refine blk_drew ?_ | refine blk_alloc ?_ _)); exact BK167.out) hb); have n2_ := Aside0.mk (below_step (by repeat (first | (with_reducible first | exact HB.out | apply below_alloc | apply pw_below_drewN | apply below_drew1 | refine below_set ?_ GE167.out) | exact HB.out)) hb); clear BK167; clear HB; have HO173 := n0_; have BK167 := n1_; have HB := n2_; clear n0_ n1_ n2_; (try clear hb); (try clear hb2); (try clear hk); (try clear hi); (try clear ho0); obtain ⟨Ao21, co21, eo21⟩ := Kd.R_slice HO173.out; subst eo21) | ((with_reducible refine gate_callee (f := 12) rfl ?_); refine goesL_ (some 29) rfl rfl Tryd.func12 (by kernel_rfl) rfl #[.agg #[.string t170, .slice Ao21 t171.length co21], .int .i64 a1, .int .i64 (wrap64 (a3))] rfl (by (try simp only [List.map_toArray, List.map_cons, List.map_nil]); first | done | rfl | (simp only [List.length_drop, List.length_take]; rfl)) ?_; (with_reducible refine (port_Delay.calls t170 _ _ t171 a1 (wrap64 (a3)) t174 t175 _ ?side1 ?side2 A16.out).mono ?_); (case side1 => repeat (first | exact (Kd.R_reads' HO173.out).2.2 | (with_reducible refine Kd.C_alloc ?_ _) | (with_reducible refine Kd.C_drewN ?_ _) | (with_reducible refine Kd.C_drew ?_))); (case side2 => exact (Kd.R_reads' HO173.out).2.1); rintro e w22 ⟨v176, rfl, ho0, hb⟩; refine ⟨_, rfl, ?_⟩; have n0_ := Aside0.mk (Kd.R_elder' (by (with_reducible repeat (first | apply Kd.R_alloc | apply Kd.R_drewN | apply Kd.R_drew)); exact HO173.out) (Kd.R_base ho0) hb); have n1_ := Aside0.mk (Kd.R_lower (Kd.R_new' ho0 (Kd.R_lt (by (with_reducible repeat (first | apply Kd.R_alloc | apply Kd.R_drewN | apply Kd.R_drew)); exact HO173.out))) (below_size (by repeat (first | (with_reducible first | exact HB.out | apply below_alloc | apply pw_below_drewN | apply below_drew1 | refine below_set ?_ GE167.out) | exact HB.out)))); have n2_ := Aside0.mk (blk_below (g := gb167) (o := .cells #[.string a0_0, .slice A0_1 l0_1.length c0_1] 35 (0, 0)) (by (with_reducible repeat (first | refine blk_drewN ?_ _ | refine blk_drew ?_ | refine blk_alloc ?_ _)); exact BK167.out) hb); have n3_ := Aside0.mk (below_step (by repeat (first | (with_reducible first | exact HB.out | apply below_alloc | apply pw_below_drewN | apply below_drew1 | refine below_set ?_ GE167.out) | exact HB.out)) hb); clear HO173; clear BK167; clear HB; have HO173 := n0_; have HO177 := n1_; have BK167 := n2_; have HB := n3_; clear n0_ n1_ n2_ n3_; (try clear hb); (try clear hb2); (try clear hk); (try clear hi); (try clear ho0)) | ((with_reducible refine gate_dst (N := 9) rfl ?_); (try (refine gate_guard (by rfl) ?_; dsimp only)); refine box_event ?hg (N := 9) ?hd (cs := #[.string (⟨#[]⟩ : ByteArray), .slice none 0 0]) (t := 35) ?hr ?_; (case hd => rfl); (case hg => rfl); (case hr => first | (go_simp; done) | (go_simp; rfl)); intro gb178 hg w23 hbox hb; have n0_ := Aside0.mk (Kd.R_below (by (with_reducible repeat (first | apply Kd.R_alloc | apply Kd.R_drewN | apply Kd.R_drew)); exact HO173.out) hb); have n1_ := Aside0.mk (Kd.R_below (by (with_reducible repeat (first | apply Kd.R_alloc | apply Kd.R_drewN | apply Kd.R_drew)); exact HO177.out) hb); have n2_ := Aside0.mk (blk_below (g := gb167) (o := .cells #[.string a0_0, .slice A0_1 l0_1.length c0_1] 35 (0, 0)) (by (with_reducible repeat (first | refine blk_drewN ?_ _ | refine blk_drew ?_ | refine blk_alloc ?_ _)); exact BK167.out) hb); have n3_ := Aside0.mk (below_step (by repeat (first | (with_reducible first | exact HB.out | apply below_alloc | apply pw_below_drewN | apply below_drew1 | refine below_set ?_ GE167.out) | exact HB.out)) hb); have n4_ := Aside0.mk (hbox); have n5_ := Aside0.mk ((by rw [hg]; exact (below_size (by repeat (first | (with_reducible first | exact HB.out | apply below_alloc | apply pw_below_drewN | apply below_drew1 | refine below_set ?_ GE167.out) | exact HB.out))) : w.heap.size ≤ gb178)); have n6_ := Aside0.mk ((by rw [hg]; exact (below_size (by repeat (first | (with_reducible first | exact HB.out | apply below_alloc | apply pw_below_drewN | apply below_drew1 | refine below_set ?_ GE167.out) | exact HB.out))) : w.heap.size ≤ gb178)); have n7_ := Aside0.mk ((by rw [hg]; exact Nat.ne_of_lt (blk_lt (g := gb167) (o := .cells #[.string a0_0, .slice A0_1 l0_1.length c0_1] 35 (0, 0)) (by (with_reducible repeat (first | refine blk_drewN ?_ _ | refine blk_drew ?_ | refine blk_alloc ?_ _)); exact BK167.out)) : gb167 ≠ gb178)); have n8_ := Aside0.mk ((by rw [hg]; exact Nat.ne_of_gt (blk_lt (g := gb167) (o := .cells #[.string a0_0, .slice A0_1 l0_1.length c0_1] 35 (0, 0)) (by (with_reducible repeat (first | refine blk_drewN ?_ _ | refine blk_drew ?_ | refine blk_alloc ?_ _)); exact BK167.out)) : gb178 ≠ gb167)); clear HO173; clear HO177; clear BK167; clear HB; have HO173 := n0_; have HO177 := n1_; have BK167 := n2_; have HB := n3_; have BK178 := n4_; have GW178 := n5_; have GE178 := n6_; have NB167_178 := n7_; have NB178_167 := n8_; clear n0_ n1_ n2_ n3_ n4_ n5_ n6_ n7_ n8_; clear hb hbox hg; have hnb24 := NB178_167.out; have hnc24 := NB167_178.out; have hcz25_0 : w23.cell? ⟨gb178, 0, none⟩ = some (.string (⟨#[]⟩ : ByteArray)) := (blk_cell BK178.out 0).trans rfl; have hcz25_1 : w23.cell? ⟨gb178, 1, none⟩ = some (.slice none 0 0) := (blk_cell BK178.out 1).trans rfl; have hfz25_0 := blk_frozen BK178.out 0; have hfz25_1 := blk_frozen BK178.out 1; obtain ⟨Ao26, co26, eo26⟩ := Kd.R_slice HO177.out; subst eo26; have hcz27_0 : w23.cell? ⟨gb167, 0, none⟩ = some (.string a0_0) := (blk_cell BK167.out 0).trans rfl; have hcz27_1 : w23.cell? ⟨gb167, 1, none⟩ = some (.slice A0_1 l0_1.length c0_1) := (blk_cell BK167.out 1).trans rfl; have hfz27_0 := blk_frozen BK167.out 0; have hfz27_1 := blk_frozen BK167.out 1) | ((with_reducible refine gate_callee (f := 12) rfl ?_); refine goesL_ (some 37) rfl rfl Tryd.func12 (by kernel_rfl) rfl #[.agg #[.string a0_0, .slice A0_1 l0_1.length c0_1], .int .i64 a1, .int .i64 (wrap64 ((wrap64 (a2)) + (wrap64 (a3))))] rfl (by (try simp only [List.map_toArray, List.map_cons, List.map_nil]); first | done | rfl | (simp only [List.length_drop, List.length_take]; rfl)) ?_; (with_reducible refine (port_Delay.calls a0_0 _ _ l0_1 a1 (wrap64 ((wrap64 (a2)) + (wrap64 (a3)))) t179 t180 _ ?side1 ?side2 A17.out).mono ?_); (case side1 => exact Kd.C_below HR0_1.out (by repeat (first | (with_reducible first | exact HB.out | apply below_alloc | apply pw_below_drewN | apply below_drew1 | refine below_set ?_ GE167.out | refine below_set ?_ GE178.out) | exact HB.out))); (case side2 => exact HC0_1.out); rintro e w28 ⟨v181, rfl, ho0, hb⟩; refine ⟨_, rfl, ?_⟩; have n0_ := Aside0.mk (Kd.R_elder' (by (with_reducible repeat (first | apply Kd.R_alloc | apply Kd.R_drewN | apply Kd.R_drew)); exact (Kd.R_mono (Kd.R_far (p := ⟨gb178, 1, none⟩) (Kd.R_far (p := ⟨gb178, 0, none⟩) (Kd.R_types HO173.out BK178.out (by decide)) (fun _ hk => hk.2) (.string t174)) (fun _ hk => hk.2) (.slice Ao26 t175.length co26)) (fun _ h_ => h_.1))) (Kd.R_base ho0) hb); have n1_ := Aside0.mk (Kd.R_elder' (by (with_reducible repeat (first | apply Kd.R_alloc | apply Kd.R_drewN | apply Kd.R_drew)); exact (Kd.R_mono (Kd.R_far (p := ⟨gb178, 1, none⟩) (Kd.R_far (p := ⟨gb178, 0, none⟩) (Kd.R_types HO177.out BK178.out (by decide)) (fun _ hk => hk.2) (.string t174)) (fun _ hk => hk.2) (.slice Ao26 t175.length co26)) (fun _ h_ => h_.1))) (Kd.R_base ho0) hb); have n2_ := Aside0.mk (Kd.R_lower (Kd.R_new' (Kd.R_new' ho0 (Kd.R_lt (by (with_reducible repeat (first | apply Kd.R_alloc | apply Kd.R_drewN | apply Kd.R_drew)); exact (Kd.R_mono (Kd.R_far (p := ⟨gb178, 1, none⟩) (Kd.R_far (p := ⟨gb178, 0, none⟩) (Kd.R_types HO173.out BK178.out (by decide)) (fun _ hk => hk.2) (.string t174)) (fun _ hk => hk.2) (.slice Ao26 t175.length co26)) (fun _ h_ => h_.1))))) (Kd.R_lt (by (with_reducible repeat (first | apply Kd.R_alloc | apply Kd.R_drewN | apply Kd.R_drew)); exact (Kd.R_mono (Kd.R_far (p := ⟨gb178, 1, none⟩) (Kd.R_far (p := ⟨gb178, 0, none⟩) (Kd.R_types HO177.out BK178.out (by decide)) (fun _ hk => hk.2) (.string t174)) (fun _ hk => hk.2) (.slice Ao26 t175.length co26)) (fun _ h_ => h_.1))))) (below_size (by repeat (first | (with_reducible first | exact HB.out | apply below_alloc | apply pw_below_drewN | apply below_drew1 | refine below_set ?_ GE167.out | refine below_set ?_ GE178.out) | exact HB.out)))); have n3_ := Aside0.mk (blk_below (g := gb167) (o := .cells #[.string a0_0, .slice A0_1 l0_1.length c0_1] 35 (0, 0)) (by (with_reducible repeat (first | refine blk_drewN ?_ _ | refine blk_drew ?_ | refine blk_alloc ?_ _)); refine blk_far ?_ NB167_178.out _; (with_reducible repeat (first | refine blk_drewN ?_ _ | refine blk_drew ?_ | refine blk_alloc ?_ _)); refine blk_far ?_ NB167_178.out _; (with_reducible repeat (first | refine blk_drewN ?_ _ | refine blk_drew ?_ | refine blk_alloc ?_ _)); exact BK167.out) hb); have n4_ := Aside0.mk (blk_below (g := gb178) (o := .cells #[.string t174, .slice Ao26 t175.length co26] 35 (0, 0)) (by (with_reducible repeat (first | refine blk_drewN ?_ _ | refine blk_drew ?_ | refine blk_alloc ?_ _)); refine blk_put (cs := #[.string t174, .slice none 0 0]) ?_ 1 _ rfl; (with_reducible repeat (first | refine blk_drewN ?_ _ | refine blk_drew ?_ | refine blk_alloc ?_ _)); refine blk_put (cs := #[.string (⟨#[]⟩ : ByteArray), .slice none 0 0]) ?_ 0 _ rfl; (with_reducible repeat (first | refine blk_drewN ?_ _ | refine blk_drew ?_ | refine blk_alloc ?_ _)); exact BK178.out) hb); have n5_ := Aside0.mk (below_step (by repeat (first | (with_reducible first | exact HB.out | apply below_alloc | apply pw_below_drewN | apply below_drew1 | refine below_set ?_ GE167.out | refine below_set ?_ GE178.out) | exact HB.out)) hb); clear HO173; clear HO177; clear BK167; clear BK178; clear HB; have HO173 := n0_; have HO177 := n1_; have HO182 := n2_; have BK167 := n3_; have BK178 := n4_; have HB := n5_; clear n0_ n1_ n2_ n3_ n4_ n5_; (try clear hb); (try clear hb2); (try clear hk); (try clear hi); (try clear ho0)) | ((with_reducible refine gate_dst (N := 10) rfl ?_); (try (refine gate_guard (by rfl) ?_; dsimp only)); refine box_event ?hg (N := 10) ?hd (cs := #[.string (⟨#[]⟩ : ByteArray), .slice none 0 0]) (t := 35) ?hr ?_; (case hd => rfl); (case hg => rfl); (case hr => first | (go_simp; done) | (go_simp; rfl)); intro gb183 hg w29 hbox hb; have n0_ := Aside0.mk (Kd.R_below (by (with_reducible repeat (first | apply Kd.R_alloc | apply Kd.R_drewN | apply Kd.R_drew)); exact HO173.out) hb); have n1_ := Aside0.mk (Kd.R_below (by (with_reducible repeat (first | apply Kd.R_alloc | apply Kd.R_drewN | apply Kd.R_drew)); exact HO177.out) hb); have n2_ := Aside0.mk (Kd.R_below (by (with_reducible repeat (first | apply Kd.R_alloc | apply Kd.R_drewN | apply Kd.R_drew)); exact HO182.out) hb); have n3_ := Aside0.mk (blk_below (g := gb167) (o := .cells #[.string a0_0, .slice A0_1 l0_1.length c0_1] 35 (0, 0)) (by (with_reducible repeat (first | refine blk_drewN ?_ _ | refine blk_drew ?_ | refine blk_alloc ?_ _)); exact BK167.out) hb); have n4_ := Aside0.mk (blk_below (g := gb178) (o := .cells #[.string t174, .slice Ao26 t175.length co26] 35 (0, 0)) (by (with_reducible repeat (first | refine blk_drewN ?_ _ | refine blk_drew ?_ | refine blk_alloc ?_ _)); exact BK178.out) hb); have n5_ := Aside0.mk (below_step (by repeat (first | (with_reducible first | exact HB.out | apply below_alloc | apply pw_below_drewN | apply below_drew1 | refine below_set ?_ GE167.out | refine below_set ?_ GE178.out) | exact HB.out)) hb); have n6_ := Aside0.mk (hbox); have n7_ := Aside0.mk ((by rw [hg]; exact (below_size (by repeat (first | (with_reducible first | exact HB.out | apply below_alloc | apply pw_below_drewN | apply below_drew1 | refine below_set ?_ GE167.out | refine below_set ?_ GE178.out) | exact HB.out))) : w.heap.size ≤ gb183)); have n8_ := Aside0.mk ((by rw [hg]; exact (below_size (by repeat (first | (with_reducible first | exact HB.out | apply below_alloc | apply pw_below_drewN | apply below_drew1 | refine below_set ?_ GE167.out | refine below_set ?_ GE178.out) | exact HB.out))) : w.heap.size ≤ gb183)); have n9_ := Aside0.mk ((by rw [hg]; exact Nat.ne_of_lt (blk_lt (g := gb167) (o := .cells #[.string a0_0, .slice A0_1 l0_1.length c0_1] 35 (0, 0)) (by (with_reducible repeat (first | refine blk_drewN ?_ _ | refine blk_drew ?_ | refine blk_alloc ?_ _)); exact BK167.out)) : gb167 ≠ gb183)); have n10_ := Aside0.mk ((by rw [hg]; exact Nat.ne_of_gt (blk_lt (g := gb167) (o := .cells #[.string a0_0, .slice A0_1 l0_1.length c0_1] 35 (0, 0)) (by (with_reducible repeat (first | refine blk_drewN ?_ _ | refine blk_drew ?_ | refine blk_alloc ?_ _)); exact BK167.out)) : gb183 ≠ gb167)); have n11_ := Aside0.mk ((by rw [hg]; exact Nat.ne_of_lt (blk_lt (g := gb178) (o := .cells #[.string t174, .slice Ao26 t175.length co26] 35 (0, 0)) (by (with_reducible repeat (first | refine blk_drewN ?_ _ | refine blk_drew ?_ | refine blk_alloc ?_ _)); exact BK178.out)) : gb178 ≠ gb183)); have n12_ := Aside0.mk ((by rw [hg]; exact Nat.ne_of_gt (blk_lt (g := gb178) (o := .cells #[.string t174, .slice Ao26 t175.length co26] 35 (0, 0)) (by (with_reducible repeat (first | refine blk_drewN ?_ _ | refine blk_drew ?_ | refine blk_alloc ?_ _)); exact BK178.out)) : gb183 ≠ gb178)); clear HO173; clear HO177; clear HO182; clear BK167; clear BK178; clear HB; have HO173 := n0_; have HO177 := n1_; have HO182 := n2_; have BK167 := n3_; have BK178 := n4_; have HB := n5_; have BK183 := n6_; have GW183 := n7_; have GE183 := n8_; have NB167_183 := n9_; have NB183_167 := n10_; have NB178_183 := n11_; have NB183_178 := n12_; clear n0_ n1_ n2_ n3_ n4_ n5_ n6_ n7_ n8_ n9_ n10_ n11_ n12_; clear hb hbox hg; have hnb30 := NB183_167.out; have hnc30 := NB167_183.out; have hnb31 := NB183_178.out; have hnc31 := NB178_183.out; have hcz32_0 : w29.cell? ⟨gb183, 0, none⟩ = some (.string (⟨#[]⟩ : ByteArray)) := (blk_cell BK183.out 0).trans rfl; have hcz32_1 : w29.cell? ⟨gb183, 1, none⟩ = some (.slice none 0 0) := (blk_cell BK183.out 1).trans rfl; have hfz32_0 := blk_frozen BK183.out 0; have hfz32_1 := blk_frozen BK183.out 1; obtain ⟨Ao33, co33, eo33⟩ := Kd.R_slice HO182.out; subst eo33))
        (try simp only [Act.put, List.setIfInBounds_toArray, List.set_cons_zero, List.set_cons_succ])
        go_cut [49] (fun v49 wc => ∃ (kq : Nat) (x49_17 : Bool), v49 = .bool x49_17 ∧ Aside0 (supercargolaw16_PortAdds.j1 kq x49_17 a0_0 l0_1 t174 t175 t179 t180 = some r) ∧ Aside0 (kq ≤ kj4) ∧ Aside0 (Kd.R k32 32 wc w.heap.size (fun k_ => some k_ ≠ ((.slice Ao33 t180.length co33) : Value).ownBlock) (.slice Ao26 t175.length co26) t175) ∧ Aside0 (Kd.R k32 32 wc w.heap.size (fun k_ => some k_ ≠ ((.slice Ao26 t175.length co26) : Value).ownBlock) (.slice Ao33 t180.length co33) t180) ∧ Aside0 (wc.heap[gb167]? = some (.cells #[.string a0_0, (.slice A0_1 l0_1.length c0_1)] 35 (0, 0))) ∧ Aside0 (wc.heap[gb178]? = some (.cells #[.string t174, (.slice Ao26 t175.length co26)] 35 (0, 0))) ∧ Aside0 (wc.heap[gb183]? = some (.cells #[.string t179, (.slice Ao33 t180.length co33)] 35 (0, 0))) ∧ Aside0 (Below w.heap.size w wc))
        case first =>
          have H := HC18.out
          clear HC18
          replace H := Option.bind_eq_some_iff.mp H
          obtain ⟨t184, A340, H⟩ := H
          replace H : ((port_May.f kj4 a0_0 l0_1).bind fun t185 => (if (t184 != t185) = true then (supercargolaw16_PortAdds.j1 kj4 true a0_0 l0_1 t174 t175 t179 t180) else ((port_May.f kj4 t179 t180).bind fun t186 => ((port_May.f kj4 a0_0 l0_1).bind fun t187 => (supercargolaw16_PortAdds.j1 kj4 (t186 != t187) a0_0 l0_1 t174 t175 t179 t180))))) = some r := H
          have A34 := Aside0.mk A340
          clear A340
          replace H := Option.bind_eq_some_iff.mp H
          obtain ⟨t185, A350, H⟩ := H
          replace H : (if (t184 != t185) = true then (supercargolaw16_PortAdds.j1 kj4 true a0_0 l0_1 t174 t175 t179 t180) else ((port_May.f kj4 t179 t180).bind fun t186 => ((port_May.f kj4 a0_0 l0_1).bind fun t187 => (supercargolaw16_PortAdds.j1 kj4 (t186 != t187) a0_0 l0_1 t174 t175 t179 t180)))) = some r := H
          have A35 := Aside0.mk A350
          clear A350
          by_cases c36 : (t184 != t185) = true
          · rw [if_pos c36] at H
            have c36b0 : (t184 != t185) = true := c36
            (try (have c36b1 : decide (t184 = t185) = false := by simpa using c36))
            (try (have c36b2 : (t184 == t185) = false := by simpa using c36))
            (try (have c36b3 : ¬ (t184 = t185) := by simpa using c36))
            clear c36
            (first | rw [c36b0] | (simp only [i64_w, i32_w]; rw [c36b0]) | skip)
            have H' := Aside0.mk H
            clear H
            try go_wp2
            have n0_ : Aside0 (Kd.R k32 32 ((w29.setCell ⟨gb183, 0, none⟩ (.string t179)).setCell ⟨gb183, 1, none⟩ (.slice Ao33 t180.length co33)) w.heap.size (fun k_ => some k_ ≠ (.slice Ao26 t175.length co26 : Value).ownBlock ∧ some k_ ≠ (.slice Ao33 t180.length co33 : Value).ownBlock) (.slice Ao21 t171.length co21) t171) := ⟨by (with_reducible repeat (first | apply Kd.R_alloc | apply Kd.R_drewN | apply Kd.R_drew)); exact Kd.R_mono (Kd.R_far (p := ⟨gb183, 1, none⟩) (Kd.R_far (p := ⟨gb183, 0, none⟩) (Kd.R_types HO173.out BK183.out (by decide)) (fun _ hk => hk.2) (.string t179)) (fun _ hk => hk.2) (.slice Ao33 t180.length co33)) (fun _ hk => ⟨hk.1.1.2, hk.1.2⟩)⟩
            have n1_ : Aside0 (Kd.R k32 32 ((w29.setCell ⟨gb183, 0, none⟩ (.string t179)).setCell ⟨gb183, 1, none⟩ (.slice Ao33 t180.length co33)) w.heap.size (fun k_ => some k_ ≠ (.slice Ao21 t171.length co21 : Value).ownBlock ∧ some k_ ≠ (.slice Ao33 t180.length co33 : Value).ownBlock) (.slice Ao26 t175.length co26) t175) := ⟨by (with_reducible repeat (first | apply Kd.R_alloc | apply Kd.R_drewN | apply Kd.R_drew)); exact Kd.R_mono (Kd.R_far (p := ⟨gb183, 1, none⟩) (Kd.R_far (p := ⟨gb183, 0, none⟩) (Kd.R_types HO177.out BK183.out (by decide)) (fun _ hk => hk.2) (.string t179)) (fun _ hk => hk.2) (.slice Ao33 t180.length co33)) (fun _ hk => ⟨hk.1.1.2, hk.1.2⟩)⟩
            have n2_ : Aside0 (Kd.R k32 32 ((w29.setCell ⟨gb183, 0, none⟩ (.string t179)).setCell ⟨gb183, 1, none⟩ (.slice Ao33 t180.length co33)) w.heap.size (fun k_ => some k_ ≠ (.slice Ao21 t171.length co21 : Value).ownBlock ∧ some k_ ≠ (.slice Ao26 t175.length co26 : Value).ownBlock) (.slice Ao33 t180.length co33) t180) := ⟨by (with_reducible repeat (first | apply Kd.R_alloc | apply Kd.R_drewN | apply Kd.R_drew)); exact Kd.R_mono (Kd.R_far (p := ⟨gb183, 1, none⟩) (Kd.R_far (p := ⟨gb183, 0, none⟩) (Kd.R_types HO182.out BK183.out (by decide)) (fun _ hk => hk.2) (.string t179)) (fun _ hk => hk.2) (.slice Ao33 t180.length co33)) (fun _ hk => ⟨hk.1.1.2, hk.1.2⟩)⟩
            have n3_ : Aside0 (((w29.setCell ⟨gb183, 0, none⟩ (.string t179)).setCell ⟨gb183, 1, none⟩ (.slice Ao33 t180.length co33)).heap[gb167]? = some (.cells #[.string a0_0, .slice A0_1 l0_1.length c0_1] 35 (0, 0))) := ⟨by (with_reducible repeat (first | refine blk_drewN ?_ _ | refine blk_drew ?_ | refine blk_alloc ?_ _)); refine blk_far ?_ NB167_183.out _; (with_reducible repeat (first | refine blk_drewN ?_ _ | refine blk_drew ?_ | refine blk_alloc ?_ _)); refine blk_far ?_ NB167_183.out _; (with_reducible repeat (first | refine blk_drewN ?_ _ | refine blk_drew ?_ | refine blk_alloc ?_ _)); exact BK167.out⟩
            have n4_ : Aside0 (((w29.setCell ⟨gb183, 0, none⟩ (.string t179)).setCell ⟨gb183, 1, none⟩ (.slice Ao33 t180.length co33)).heap[gb178]? = some (.cells #[.string t174, .slice Ao26 t175.length co26] 35 (0, 0))) := ⟨by (with_reducible repeat (first | refine blk_drewN ?_ _ | refine blk_drew ?_ | refine blk_alloc ?_ _)); refine blk_far ?_ NB178_183.out _; (with_reducible repeat (first | refine blk_drewN ?_ _ | refine blk_drew ?_ | refine blk_alloc ?_ _)); refine blk_far ?_ NB178_183.out _; (with_reducible repeat (first | refine blk_drewN ?_ _ | refine blk_drew ?_ | refine blk_alloc ?_ _)); exact BK178.out⟩
            have n5_ : Aside0 (((w29.setCell ⟨gb183, 0, none⟩ (.string t179)).setCell ⟨gb183, 1, none⟩ (.slice Ao33 t180.length co33)).heap[gb183]? = some (.cells #[.string t179, .slice Ao33 t180.length co33] 35 (0, 0))) := ⟨by (with_reducible repeat (first | refine blk_drewN ?_ _ | refine blk_drew ?_ | refine blk_alloc ?_ _)); refine blk_put (cs := #[.string t179, .slice none 0 0]) ?_ 1 _ rfl; (with_reducible repeat (first | refine blk_drewN ?_ _ | refine blk_drew ?_ | refine blk_alloc ?_ _)); refine blk_put (cs := #[.string (⟨#[]⟩ : ByteArray), .slice none 0 0]) ?_ 0 _ rfl; (with_reducible repeat (first | refine blk_drewN ?_ _ | refine blk_drew ?_ | refine blk_alloc ?_ _)); exact BK183.out⟩
            have n6_ : Aside0 (Below w.heap.size w ((w29.setCell ⟨gb183, 0, none⟩ (.string t179)).setCell ⟨gb183, 1, none⟩ (.slice Ao33 t180.length co33))) := ⟨by repeat (first | (with_reducible first | exact HB.out | apply below_alloc | apply pw_below_drewN | apply below_drew1 | refine below_set ?_ GE167.out | refine below_set ?_ GE178.out | refine below_set ?_ GE183.out) | exact HB.out)⟩
            (try clear HO173)
            (try clear HO177)
            (try clear HO182)
            (try clear BK167)
            (try clear BK178)
            (try clear BK183)
            (try clear HB)
            generalize ((w29.setCell ⟨gb183, 0, none⟩ (.string t179)).setCell ⟨gb183, 1, none⟩ (.slice Ao33 t180.length co33)) = w37 at n0_ n1_ n2_ n3_ n4_ n5_ n6_ ⊢
            have HO173 := n0_
            have HO177 := n1_
            have HO182 := n2_
            have BK167 := n3_
            have BK178 := n4_
            have BK183 := n5_
            have HB := n6_
            clear n0_ n1_ n2_ n3_ n4_ n5_ n6_
            have n0_ := Aside0.mk (Kd.R_drew HO173.out)
            have n1_ := Aside0.mk (Kd.R_drew HO177.out)
            have n2_ := Aside0.mk (Kd.R_drew HO182.out)
            have n3_ := Aside0.mk (blk_drew BK167.out)
            have n4_ := Aside0.mk (blk_drew BK178.out)
            have n5_ := Aside0.mk (blk_drew BK183.out)
            have n6_ := Aside0.mk (below_drew1 HB.out)
            clear HO173
            clear HO177
            clear HO182
            clear BK167
            clear BK178
            clear BK183
            clear HB
            have HO173 := n0_
            have HO177 := n1_
            have HO182 := n2_
            have BK167 := n3_
            have BK178 := n4_
            have BK183 := n5_
            have HB := n6_
            clear n0_ n1_ n2_ n3_ n4_ n5_ n6_
            refine start_ (n := 12) (S := fun w' => w'.cell? ⟨gb178, 0, none⟩ = some (.string t174) ∧ w'.cell? ⟨gb178, 1, none⟩ = some (.slice Ao26 t175.length co26) ∧ w'.cell? ⟨gb167, 0, none⟩ = some (.string a0_0) ∧ w'.cell? ⟨gb167, 1, none⟩ = some (.slice A0_1 l0_1.length c0_1)) (ds := []) #[false, false, false, false, false, false, false, false, false, false, false, false] (by kernel_rfl) rfl rfl ⟨(blk_cell BK178.out 0).trans rfl, (blk_cell BK178.out 1).trans rfl, (blk_cell BK167.out 0).trans rfl, (blk_cell BK167.out 1).trans rfl⟩ (fun hHeld => ?_); refine with_tabW supercargolaw16_PortAdds.tab5 supercargolaw16_PortAdds.bits5 (fun HT_ HW_ => ?_)
            generalize w37.drew = w38 at HO173 HO177 HO182 BK167 BK178 BK183 HB hHeld ⊢
            refine take_ (i := 0) (N := some 38) (v := ?_) (a' := ?_) #[true, false, false, false, false, false, false, false, false, false, false, false] rfl rfl (take_ofW HT_.out HW_.out (by kernel_rfl)) (fun _ _ _ h => h) (Or.inl ⟨by rfl, ?_⟩) hHeld ?_ ?_
            rotate_left
            · rintro w' ⟨s0, s1, s2, s3⟩
              go_simp
              with_reducible rfl
            rotate_left
            · simp only [Act.put, List.setIfInBounds_toArray, List.set_cons_zero, List.set_cons_succ, i64_w, i32_w]
              rfl
            refine take_ (i := 2) (N := some 40) (v := ?_) (a' := ?_) #[true, false, true, false, false, false, false, false, false, false, false, false] rfl rfl (take_ofW HT_.out HW_.out (by kernel_rfl)) (fun _ _ _ h => h) (Or.inl ⟨by rfl, ?_⟩) hHeld ?_ ?_
            rotate_left
            · rintro w' ⟨s0, s1, s2, s3⟩
              go_simp
              with_reducible rfl
            rotate_left
            · simp only [Act.put, List.setIfInBounds_toArray, List.set_cons_zero, List.set_cons_succ, i64_w, i32_w]
              rfl
            refine one_ (i := 1) (N := some 39) #[true, true, true, false, false, false, false, false, false, false, false, false] rfl rfl (one_of HT_.out (by kernel_rfl)) (by decide) (fun K hK => ?_)
            refine goes_ Tryd.func15 (by kernel_rfl) rfl #[.agg #[.string t174, .slice Ao26 t175.length co26]] (by rfl) rfl rfl (by (try simp only [List.map_toArray, List.map_cons, List.map_nil]); first | done | rfl | (simp only [List.length_drop, List.length_take]; rfl)) ?_
            with_reducible refine (port_May.calls kj4 t174 _ _ t175 t184 _ ?side1 ?side2 A34.out).mono ?_
            (case side1 => repeat (first | exact (Kd.R_reads' HO177.out).2.2 | (with_reducible refine Kd.C_alloc ?_ _) | (with_reducible refine Kd.C_drewN ?_ _) | (with_reducible refine Kd.C_drew ?_)))
            (case side2 => exact (Kd.R_reads' HO177.out).2.1)
            rintro e w39 ⟨rfl, hb⟩
            refine ⟨_, rfl, ?_⟩
            have n0_ := Aside0.mk (Kd.R_below (by (with_reducible repeat (first | apply Kd.R_alloc | apply Kd.R_drewN | apply Kd.R_drew)); exact HO173.out) hb)
            have n1_ := Aside0.mk (Kd.R_below (by (with_reducible repeat (first | apply Kd.R_alloc | apply Kd.R_drewN | apply Kd.R_drew)); exact HO177.out) hb)
            have n2_ := Aside0.mk (Kd.R_below (by (with_reducible repeat (first | apply Kd.R_alloc | apply Kd.R_drewN | apply Kd.R_drew)); exact HO182.out) hb)
            have n3_ := Aside0.mk (blk_below (g := gb167) (o := .cells #[.string a0_0, .slice A0_1 l0_1.length c0_1] 35 (0, 0)) (by (with_reducible repeat (first | refine blk_drewN ?_ _ | refine blk_drew ?_ | refine blk_alloc ?_ _)); exact BK167.out) hb)
            have n4_ := Aside0.mk (blk_below (g := gb178) (o := .cells #[.string t174, .slice Ao26 t175.length co26] 35 (0, 0)) (by (with_reducible repeat (first | refine blk_drewN ?_ _ | refine blk_drew ?_ | refine blk_alloc ?_ _)); exact BK178.out) hb)
            have n5_ := Aside0.mk (blk_below (g := gb183) (o := .cells #[.string t179, .slice Ao33 t180.length co33] 35 (0, 0)) (by (with_reducible repeat (first | refine blk_drewN ?_ _ | refine blk_drew ?_ | refine blk_alloc ?_ _)); exact BK183.out) hb)
            have n6_ := Aside0.mk (below_step (by repeat (first | (with_reducible first | exact HB.out | apply below_alloc | apply pw_below_drewN | apply below_drew1 | refine below_set ?_ GE167.out | refine below_set ?_ GE178.out | refine below_set ?_ GE183.out) | exact HB.out)) hb)
            clear HO173
            clear HO177
            clear HO182
            clear BK167
            clear BK178
            clear BK183
            clear HB
            have HO173 := n0_
            have HO177 := n1_
            have HO182 := n2_
            have BK167 := n3_
            have BK178 := n4_
            have BK183 := n5_
            have HB := n6_
            clear n0_ n1_ n2_ n3_ n4_ n5_ n6_
            (try clear hb)
            (try clear hb2)
            (try clear hk)
            (try clear hi)
            refine hK.out _ _ ⟨(blk_cell BK178.out 0).trans rfl, (blk_cell BK178.out 1).trans rfl, (blk_cell BK167.out 0).trans rfl, (blk_cell BK167.out 1).trans rfl⟩ (fun hHeld => ?_)
            clear hK K
            refine norm_ (a' := ?_) ?_ ?_
            rotate_left
            · show Act.put _ (some 39) _ = _
              simp only [Act.put, List.setIfInBounds_toArray, List.set_cons_zero, List.set_cons_succ, i64_w, i32_w]
              rfl
            refine one_ (i := 3) (N := some 41) #[true, true, true, true, false, false, false, false, false, false, false, false] rfl rfl (one_of HT_.out (by kernel_rfl)) (by decide) (fun K hK => ?_)
            refine goes_ Tryd.func15 (by kernel_rfl) rfl #[.agg #[.string a0_0, .slice A0_1 l0_1.length c0_1]] (by rfl) rfl rfl (by (try simp only [List.map_toArray, List.map_cons, List.map_nil]); first | done | rfl | (simp only [List.length_drop, List.length_take]; rfl)) ?_
            with_reducible refine (port_May.calls kj4 a0_0 _ _ l0_1 t185 _ ?side1 ?side2 A35.out).mono ?_
            (case side1 => repeat (first | exact (Kd.C_below HR0_1.out HB.out) | (with_reducible refine Kd.C_alloc ?_ _) | (with_reducible refine Kd.C_drewN ?_ _) | (with_reducible refine Kd.C_drew ?_)))
            (case side2 => exact HC0_1.out)
            rintro e w40 ⟨rfl, hb⟩
            refine ⟨_, rfl, ?_⟩
            have n0_ := Aside0.mk (Kd.R_below (by (with_reducible repeat (first | apply Kd.R_alloc | apply Kd.R_drewN | apply Kd.R_drew)); exact HO173.out) hb)
            have n1_ := Aside0.mk (Kd.R_below (by (with_reducible repeat (first | apply Kd.R_alloc | apply Kd.R_drewN | apply Kd.R_drew)); exact HO177.out) hb)
            have n2_ := Aside0.mk (Kd.R_below (by (with_reducible repeat (first | apply Kd.R_alloc | apply Kd.R_drewN | apply Kd.R_drew)); exact HO182.out) hb)
            have n3_ := Aside0.mk (blk_below (g := gb167) (o := .cells #[.string a0_0, .slice A0_1 l0_1.length c0_1] 35 (0, 0)) (by (with_reducible repeat (first | refine blk_drewN ?_ _ | refine blk_drew ?_ | refine blk_alloc ?_ _)); exact BK167.out) hb)
            have n4_ := Aside0.mk (blk_below (g := gb178) (o := .cells #[.string t174, .slice Ao26 t175.length co26] 35 (0, 0)) (by (with_reducible repeat (first | refine blk_drewN ?_ _ | refine blk_drew ?_ | refine blk_alloc ?_ _)); exact BK178.out) hb)
            have n5_ := Aside0.mk (blk_below (g := gb183) (o := .cells #[.string t179, .slice Ao33 t180.length co33] 35 (0, 0)) (by (with_reducible repeat (first | refine blk_drewN ?_ _ | refine blk_drew ?_ | refine blk_alloc ?_ _)); exact BK183.out) hb)
            have n6_ := Aside0.mk (below_step (by repeat (first | (with_reducible first | exact HB.out | apply below_alloc | apply pw_below_drewN | apply below_drew1 | refine below_set ?_ GE167.out | refine below_set ?_ GE178.out | refine below_set ?_ GE183.out) | exact HB.out)) hb)
            clear HO173
            clear HO177
            clear HO182
            clear BK167
            clear BK178
            clear BK183
            clear HB
            have HO173 := n0_
            have HO177 := n1_
            have HO182 := n2_
            have BK167 := n3_
            have BK178 := n4_
            have BK183 := n5_
            have HB := n6_
            clear n0_ n1_ n2_ n3_ n4_ n5_ n6_
            (try clear hb)
            (try clear hb2)
            (try clear hk)
            (try clear hi)
            refine hK.out _ _ ⟨(blk_cell BK178.out 0).trans rfl, (blk_cell BK178.out 1).trans rfl, (blk_cell BK167.out 0).trans rfl, (blk_cell BK167.out 1).trans rfl⟩ (fun hHeld => ?_)
            clear hK K
            refine norm_ (a' := ?_) ?_ ?_
            rotate_left
            · show Act.put _ (some 41) _ = _
              simp only [Act.put, List.setIfInBounds_toArray, List.set_cons_zero, List.set_cons_succ, i64_w, i32_w]
              rfl
            refine pure_ (i := 4) (N := some 42) (v := ?_) (a' := ?_) #[true, true, true, true, true, false, false, false, false, false, false, false] rfl rfl (any_of HT_.out (by kernel_rfl)) (fun _ _ _ h => h) (Or.inl ⟨by rfl, ?_⟩) ?_ ?_
            rotate_left
            · intro w'
              go_simp
              with_reducible rfl
            rotate_left
            · simp only [Act.put, List.setIfInBounds_toArray, List.set_cons_zero, List.set_cons_succ, i64_w, i32_w]
              rfl
            refine pure_ (i := 5) (N := some 43) (v := ?_) (a' := ?_) #[true, true, true, true, true, true, false, false, false, false, false, false] rfl rfl (any_of HT_.out (by kernel_rfl)) (fun _ _ _ h => h) (Or.inl ⟨by rfl, ?_⟩) ?_ ?_
            rotate_left
            · intro w'
              go_simp
              with_reducible rfl
            rotate_left
            · simp only [Act.put, List.setIfInBounds_toArray, List.set_cons_zero, List.set_cons_succ, i64_w, i32_w]
              rfl
            refine pure_ (i := 6) (N := some 44) (v := undef) (a' := ?_) #[true, true, true, true, true, true, true, false, false, false, false, false] rfl rfl (any_of HT_.out (by kernel_rfl)) (fun _ _ _ h => h) (Or.inr ⟨by rfl, rfl⟩) ?_ ?_
            rotate_left
            · simp only [Act.put, List.setIfInBounds_toArray, List.set_cons_zero, List.set_cons_succ, i64_w, i32_w]
              rfl
            refine pure_ (i := 7) (N := some 45) (v := undef) (a' := ?_) #[true, true, true, true, true, true, true, true, false, false, false, false] rfl rfl (any_of HT_.out (by kernel_rfl)) (fun _ _ _ h => h) (Or.inr ⟨by rfl, rfl⟩) ?_ ?_
            rotate_left
            · simp only [Act.put, List.setIfInBounds_toArray, List.set_cons_zero, List.set_cons_succ, i64_w, i32_w]
              rfl
            refine pure_ (i := 8) (N := some 46) (v := undef) (a' := ?_) #[true, true, true, true, true, true, true, true, true, false, false, false] rfl rfl (any_of HT_.out (by kernel_rfl)) (fun _ _ _ h => h) (Or.inr ⟨by rfl, rfl⟩) ?_ ?_
            rotate_left
            · simp only [Act.put, List.setIfInBounds_toArray, List.set_cons_zero, List.set_cons_succ, i64_w, i32_w]
              rfl
            refine pure_ (i := 9) (N := some 47) (v := undef) (a' := ?_) #[true, true, true, true, true, true, true, true, true, true, false, false] rfl rfl (any_of HT_.out (by kernel_rfl)) (fun _ _ _ h => h) (Or.inr ⟨by rfl, rfl⟩) ?_ ?_
            rotate_left
            · simp only [Act.put, List.setIfInBounds_toArray, List.set_cons_zero, List.set_cons_succ, i64_w, i32_w]
              rfl
            refine pure_ (i := 10) (N := some 48) (v := undef) (a' := ?_) #[true, true, true, true, true, true, true, true, true, true, true, false] rfl rfl (any_of HT_.out (by kernel_rfl)) (fun _ _ _ h => h) (Or.inr ⟨by rfl, rfl⟩) ?_ ?_
            rotate_left
            · simp only [Act.put, List.setIfInBounds_toArray, List.set_cons_zero, List.set_cons_succ, i64_w, i32_w]
              rfl
            refine pure_ (i := 11) (N := some 49) (v := ?_) (a' := ?_) #[true, true, true, true, true, true, true, true, true, true, true, true] rfl rfl (any_of HT_.out (by kernel_rfl)) (fun _ _ _ h => h) (Or.inl ⟨by rfl, ?_⟩) ?_ ?_
            rotate_left
            · intro w'
              go_simp
              with_reducible rfl
            rotate_left
            · simp only [Act.put, List.setIfInBounds_toArray, List.set_cons_zero, List.set_cons_succ, i64_w, i32_w]
              rfl
            refine done_ (done_of HT_.out (by kernel_rfl)) ?_
            try go_wp2
            go_meet
            case rel => exact ⟨_, (true), (by first | rfl | (simp; done) | (simp [*]; done)), H', ⟨by have := HJ4.out; first | omega | exact Nat.le_refl _⟩, ⟨by (with_reducible repeat (first | apply Kd.R_alloc | apply Kd.R_drewN | apply Kd.R_drew)); exact Kd.R_mono HO177.out (fun _ hk => hk.2)⟩, ⟨by (with_reducible repeat (first | apply Kd.R_alloc | apply Kd.R_drewN | apply Kd.R_drew)); exact Kd.R_mono HO182.out (fun _ hk => hk.2)⟩, ⟨by (with_reducible repeat (first | refine blk_drewN ?_ _ | refine blk_drew ?_ | refine blk_alloc ?_ _)); exact BK167.out⟩, ⟨by (with_reducible repeat (first | refine blk_drewN ?_ _ | refine blk_drew ?_ | refine blk_alloc ?_ _)); exact BK178.out⟩, ⟨by (with_reducible repeat (first | refine blk_drewN ?_ _ | refine blk_drew ?_ | refine blk_alloc ?_ _)); exact BK183.out⟩, ⟨by repeat (first | (with_reducible first | exact HB.out | apply below_alloc | apply pw_below_drewN | apply below_drew1 | refine below_set ?_ GE167.out | refine below_set ?_ GE178.out | refine below_set ?_ GE183.out) | exact HB.out)⟩⟩
          · rw [if_neg c36] at H
            have c36b0 : (t184 != t185) = false := by simpa using c36
            (try (have c36b1 : decide (t184 = t185) = true := by simpa using c36))
            (try (have c36b2 : (t184 == t185) = true := by simpa using c36))
            clear c36
            (first | rw [c36b0] | (simp only [i64_w, i32_w]; rw [c36b0]) | skip)
            replace H := Option.bind_eq_some_iff.mp H
            obtain ⟨t186, A410, H⟩ := H
            replace H : ((port_May.f kj4 a0_0 l0_1).bind fun t187 => (supercargolaw16_PortAdds.j1 kj4 (t186 != t187) a0_0 l0_1 t174 t175 t179 t180)) = some r := H
            have A41 := Aside0.mk A410
            clear A410
            replace H := Option.bind_eq_some_iff.mp H
            obtain ⟨t187, A420, H⟩ := H
            replace H : (supercargolaw16_PortAdds.j1 kj4 (t186 != t187) a0_0 l0_1 t174 t175 t179 t180) = some r := H
            have A42 := Aside0.mk A420
            clear A420
            have H' := Aside0.mk H
            clear H
            try go_wp2
            have n0_ : Aside0 (Kd.R k32 32 ((w29.setCell ⟨gb183, 0, none⟩ (.string t179)).setCell ⟨gb183, 1, none⟩ (.slice Ao33 t180.length co33)) w.heap.size (fun k_ => some k_ ≠ (.slice Ao26 t175.length co26 : Value).ownBlock ∧ some k_ ≠ (.slice Ao33 t180.length co33 : Value).ownBlock) (.slice Ao21 t171.length co21) t171) := ⟨by (with_reducible repeat (first | apply Kd.R_alloc | apply Kd.R_drewN | apply Kd.R_drew)); exact Kd.R_mono (Kd.R_far (p := ⟨gb183, 1, none⟩) (Kd.R_far (p := ⟨gb183, 0, none⟩) (Kd.R_types HO173.out BK183.out (by decide)) (fun _ hk => hk.2) (.string t179)) (fun _ hk => hk.2) (.slice Ao33 t180.length co33)) (fun _ hk => ⟨hk.1.1.2, hk.1.2⟩)⟩
            have n1_ : Aside0 (Kd.R k32 32 ((w29.setCell ⟨gb183, 0, none⟩ (.string t179)).setCell ⟨gb183, 1, none⟩ (.slice Ao33 t180.length co33)) w.heap.size (fun k_ => some k_ ≠ (.slice Ao21 t171.length co21 : Value).ownBlock ∧ some k_ ≠ (.slice Ao33 t180.length co33 : Value).ownBlock) (.slice Ao26 t175.length co26) t175) := ⟨by (with_reducible repeat (first | apply Kd.R_alloc | apply Kd.R_drewN | apply Kd.R_drew)); exact Kd.R_mono (Kd.R_far (p := ⟨gb183, 1, none⟩) (Kd.R_far (p := ⟨gb183, 0, none⟩) (Kd.R_types HO177.out BK183.out (by decide)) (fun _ hk => hk.2) (.string t179)) (fun _ hk => hk.2) (.slice Ao33 t180.length co33)) (fun _ hk => ⟨hk.1.1.2, hk.1.2⟩)⟩
            have n2_ : Aside0 (Kd.R k32 32 ((w29.setCell ⟨gb183, 0, none⟩ (.string t179)).setCell ⟨gb183, 1, none⟩ (.slice Ao33 t180.length co33)) w.heap.size (fun k_ => some k_ ≠ (.slice Ao21 t171.length co21 : Value).ownBlock ∧ some k_ ≠ (.slice Ao26 t175.length co26 : Value).ownBlock) (.slice Ao33 t180.length co33) t180) := ⟨by (with_reducible repeat (first | apply Kd.R_alloc | apply Kd.R_drewN | apply Kd.R_drew)); exact Kd.R_mono (Kd.R_far (p := ⟨gb183, 1, none⟩) (Kd.R_far (p := ⟨gb183, 0, none⟩) (Kd.R_types HO182.out BK183.out (by decide)) (fun _ hk => hk.2) (.string t179)) (fun _ hk => hk.2) (.slice Ao33 t180.length co33)) (fun _ hk => ⟨hk.1.1.2, hk.1.2⟩)⟩
            have n3_ : Aside0 (((w29.setCell ⟨gb183, 0, none⟩ (.string t179)).setCell ⟨gb183, 1, none⟩ (.slice Ao33 t180.length co33)).heap[gb167]? = some (.cells #[.string a0_0, .slice A0_1 l0_1.length c0_1] 35 (0, 0))) := ⟨by (with_reducible repeat (first | refine blk_drewN ?_ _ | refine blk_drew ?_ | refine blk_alloc ?_ _)); refine blk_far ?_ NB167_183.out _; (with_reducible repeat (first | refine blk_drewN ?_ _ | refine blk_drew ?_ | refine blk_alloc ?_ _)); refine blk_far ?_ NB167_183.out _; (with_reducible repeat (first | refine blk_drewN ?_ _ | refine blk_drew ?_ | refine blk_alloc ?_ _)); exact BK167.out⟩
            have n4_ : Aside0 (((w29.setCell ⟨gb183, 0, none⟩ (.string t179)).setCell ⟨gb183, 1, none⟩ (.slice Ao33 t180.length co33)).heap[gb178]? = some (.cells #[.string t174, .slice Ao26 t175.length co26] 35 (0, 0))) := ⟨by (with_reducible repeat (first | refine blk_drewN ?_ _ | refine blk_drew ?_ | refine blk_alloc ?_ _)); refine blk_far ?_ NB178_183.out _; (with_reducible repeat (first | refine blk_drewN ?_ _ | refine blk_drew ?_ | refine blk_alloc ?_ _)); refine blk_far ?_ NB178_183.out _; (with_reducible repeat (first | refine blk_drewN ?_ _ | refine blk_drew ?_ | refine blk_alloc ?_ _)); exact BK178.out⟩
            have n5_ : Aside0 (((w29.setCell ⟨gb183, 0, none⟩ (.string t179)).setCell ⟨gb183, 1, none⟩ (.slice Ao33 t180.length co33)).heap[gb183]? = some (.cells #[.string t179, .slice Ao33 t180.length co33] 35 (0, 0))) := ⟨by (with_reducible repeat (first | refine blk_drewN ?_ _ | refine blk_drew ?_ | refine blk_alloc ?_ _)); refine blk_put (cs := #[.string t179, .slice none 0 0]) ?_ 1 _ rfl; (with_reducible repeat (first | refine blk_drewN ?_ _ | refine blk_drew ?_ | refine blk_alloc ?_ _)); refine blk_put (cs := #[.string (⟨#[]⟩ : ByteArray), .slice none 0 0]) ?_ 0 _ rfl; (with_reducible repeat (first | refine blk_drewN ?_ _ | refine blk_drew ?_ | refine blk_alloc ?_ _)); exact BK183.out⟩
            have n6_ : Aside0 (Below w.heap.size w ((w29.setCell ⟨gb183, 0, none⟩ (.string t179)).setCell ⟨gb183, 1, none⟩ (.slice Ao33 t180.length co33))) := ⟨by repeat (first | (with_reducible first | exact HB.out | apply below_alloc | apply pw_below_drewN | apply below_drew1 | refine below_set ?_ GE167.out | refine below_set ?_ GE178.out | refine below_set ?_ GE183.out) | exact HB.out)⟩
            (try clear HO173)
            (try clear HO177)
            (try clear HO182)
            (try clear BK167)
            (try clear BK178)
            (try clear BK183)
            (try clear HB)
            generalize ((w29.setCell ⟨gb183, 0, none⟩ (.string t179)).setCell ⟨gb183, 1, none⟩ (.slice Ao33 t180.length co33)) = w43 at n0_ n1_ n2_ n3_ n4_ n5_ n6_ ⊢
            have HO173 := n0_
            have HO177 := n1_
            have HO182 := n2_
            have BK167 := n3_
            have BK178 := n4_
            have BK183 := n5_
            have HB := n6_
            clear n0_ n1_ n2_ n3_ n4_ n5_ n6_
            have n0_ := Aside0.mk (Kd.R_drew HO173.out)
            have n1_ := Aside0.mk (Kd.R_drew HO177.out)
            have n2_ := Aside0.mk (Kd.R_drew HO182.out)
            have n3_ := Aside0.mk (blk_drew BK167.out)
            have n4_ := Aside0.mk (blk_drew BK178.out)
            have n5_ := Aside0.mk (blk_drew BK183.out)
            have n6_ := Aside0.mk (below_drew1 HB.out)
            clear HO173
            clear HO177
            clear HO182
            clear BK167
            clear BK178
            clear BK183
            clear HB
            have HO173 := n0_
            have HO177 := n1_
            have HO182 := n2_
            have BK167 := n3_
            have BK178 := n4_
            have BK183 := n5_
            have HB := n6_
            clear n0_ n1_ n2_ n3_ n4_ n5_ n6_
            refine start_ (n := 12) (S := fun w' => w'.cell? ⟨gb178, 0, none⟩ = some (.string t174) ∧ w'.cell? ⟨gb178, 1, none⟩ = some (.slice Ao26 t175.length co26) ∧ w'.cell? ⟨gb167, 0, none⟩ = some (.string a0_0) ∧ w'.cell? ⟨gb167, 1, none⟩ = some (.slice A0_1 l0_1.length c0_1) ∧ w'.cell? ⟨gb183, 0, none⟩ = some (.string t179) ∧ w'.cell? ⟨gb183, 1, none⟩ = some (.slice Ao33 t180.length co33)) (ds := []) #[false, false, false, false, false, false, false, false, false, false, false, false] (by kernel_rfl) rfl rfl ⟨(blk_cell BK178.out 0).trans rfl, (blk_cell BK178.out 1).trans rfl, (blk_cell BK167.out 0).trans rfl, (blk_cell BK167.out 1).trans rfl, (blk_cell BK183.out 0).trans rfl, (blk_cell BK183.out 1).trans rfl⟩ (fun hHeld => ?_); refine with_tabW supercargolaw16_PortAdds.tab5 supercargolaw16_PortAdds.bits5 (fun HT_ HW_ => ?_)
            generalize w43.drew = w44 at HO173 HO177 HO182 BK167 BK178 BK183 HB hHeld ⊢
            refine take_ (i := 0) (N := some 38) (v := ?_) (a' := ?_) #[true, false, false, false, false, false, false, false, false, false, false, false] rfl rfl (take_ofW HT_.out HW_.out (by kernel_rfl)) (fun _ _ _ h => h) (Or.inl ⟨by rfl, ?_⟩) hHeld ?_ ?_
            rotate_left
            · rintro w' ⟨s0, s1, s2, s3, s4, s5⟩
              go_simp
              with_reducible rfl
            rotate_left
            · simp only [Act.put, List.setIfInBounds_toArray, List.set_cons_zero, List.set_cons_succ, i64_w, i32_w]
              rfl
            refine take_ (i := 2) (N := some 40) (v := ?_) (a' := ?_) #[true, false, true, false, false, false, false, false, false, false, false, false] rfl rfl (take_ofW HT_.out HW_.out (by kernel_rfl)) (fun _ _ _ h => h) (Or.inl ⟨by rfl, ?_⟩) hHeld ?_ ?_
            rotate_left
            · rintro w' ⟨s0, s1, s2, s3, s4, s5⟩
              go_simp
              with_reducible rfl
            rotate_left
            · simp only [Act.put, List.setIfInBounds_toArray, List.set_cons_zero, List.set_cons_succ, i64_w, i32_w]
              rfl
            refine one_ (i := 1) (N := some 39) #[true, true, true, false, false, false, false, false, false, false, false, false] rfl rfl (one_of HT_.out (by kernel_rfl)) (by decide) (fun K hK => ?_)
            refine goes_ Tryd.func15 (by kernel_rfl) rfl #[.agg #[.string t174, .slice Ao26 t175.length co26]] (by rfl) rfl rfl (by (try simp only [List.map_toArray, List.map_cons, List.map_nil]); first | done | rfl | (simp only [List.length_drop, List.length_take]; rfl)) ?_
            with_reducible refine (port_May.calls kj4 t174 _ _ t175 t184 _ ?side1 ?side2 A34.out).mono ?_
            (case side1 => repeat (first | exact (Kd.R_reads' HO177.out).2.2 | (with_reducible refine Kd.C_alloc ?_ _) | (with_reducible refine Kd.C_drewN ?_ _) | (with_reducible refine Kd.C_drew ?_)))
            (case side2 => exact (Kd.R_reads' HO177.out).2.1)
            rintro e w45 ⟨rfl, hb⟩
            refine ⟨_, rfl, ?_⟩
            have n0_ := Aside0.mk (Kd.R_below (by (with_reducible repeat (first | apply Kd.R_alloc | apply Kd.R_drewN | apply Kd.R_drew)); exact HO173.out) hb)
            have n1_ := Aside0.mk (Kd.R_below (by (with_reducible repeat (first | apply Kd.R_alloc | apply Kd.R_drewN | apply Kd.R_drew)); exact HO177.out) hb)
            have n2_ := Aside0.mk (Kd.R_below (by (with_reducible repeat (first | apply Kd.R_alloc | apply Kd.R_drewN | apply Kd.R_drew)); exact HO182.out) hb)
            have n3_ := Aside0.mk (blk_below (g := gb167) (o := .cells #[.string a0_0, .slice A0_1 l0_1.length c0_1] 35 (0, 0)) (by (with_reducible repeat (first | refine blk_drewN ?_ _ | refine blk_drew ?_ | refine blk_alloc ?_ _)); exact BK167.out) hb)
            have n4_ := Aside0.mk (blk_below (g := gb178) (o := .cells #[.string t174, .slice Ao26 t175.length co26] 35 (0, 0)) (by (with_reducible repeat (first | refine blk_drewN ?_ _ | refine blk_drew ?_ | refine blk_alloc ?_ _)); exact BK178.out) hb)
            have n5_ := Aside0.mk (blk_below (g := gb183) (o := .cells #[.string t179, .slice Ao33 t180.length co33] 35 (0, 0)) (by (with_reducible repeat (first | refine blk_drewN ?_ _ | refine blk_drew ?_ | refine blk_alloc ?_ _)); exact BK183.out) hb)
            have n6_ := Aside0.mk (below_step (by repeat (first | (with_reducible first | exact HB.out | apply below_alloc | apply pw_below_drewN | apply below_drew1 | refine below_set ?_ GE167.out | refine below_set ?_ GE178.out | refine below_set ?_ GE183.out) | exact HB.out)) hb)
            clear HO173
            clear HO177
            clear HO182
            clear BK167
            clear BK178
            clear BK183
            clear HB
            have HO173 := n0_
            have HO177 := n1_
            have HO182 := n2_
            have BK167 := n3_
            have BK178 := n4_
            have BK183 := n5_
            have HB := n6_
            clear n0_ n1_ n2_ n3_ n4_ n5_ n6_
            (try clear hb)
            (try clear hb2)
            (try clear hk)
            (try clear hi)
            refine hK.out _ _ ⟨(blk_cell BK178.out 0).trans rfl, (blk_cell BK178.out 1).trans rfl, (blk_cell BK167.out 0).trans rfl, (blk_cell BK167.out 1).trans rfl, (blk_cell BK183.out 0).trans rfl, (blk_cell BK183.out 1).trans rfl⟩ (fun hHeld => ?_)
            clear hK K
            refine norm_ (a' := ?_) ?_ ?_
            rotate_left
            · show Act.put _ (some 39) _ = _
              simp only [Act.put, List.setIfInBounds_toArray, List.set_cons_zero, List.set_cons_succ, i64_w, i32_w]
              rfl
            refine one_ (i := 3) (N := some 41) #[true, true, true, true, false, false, false, false, false, false, false, false] rfl rfl (one_of HT_.out (by kernel_rfl)) (by decide) (fun K hK => ?_)
            refine goes_ Tryd.func15 (by kernel_rfl) rfl #[.agg #[.string a0_0, .slice A0_1 l0_1.length c0_1]] (by rfl) rfl rfl (by (try simp only [List.map_toArray, List.map_cons, List.map_nil]); first | done | rfl | (simp only [List.length_drop, List.length_take]; rfl)) ?_
            with_reducible refine (port_May.calls kj4 a0_0 _ _ l0_1 t185 _ ?side1 ?side2 A35.out).mono ?_
            (case side1 => repeat (first | exact (Kd.C_below HR0_1.out HB.out) | (with_reducible refine Kd.C_alloc ?_ _) | (with_reducible refine Kd.C_drewN ?_ _) | (with_reducible refine Kd.C_drew ?_)))
            (case side2 => exact HC0_1.out)
            rintro e w46 ⟨rfl, hb⟩
            refine ⟨_, rfl, ?_⟩
            have n0_ := Aside0.mk (Kd.R_below (by (with_reducible repeat (first | apply Kd.R_alloc | apply Kd.R_drewN | apply Kd.R_drew)); exact HO173.out) hb)
            have n1_ := Aside0.mk (Kd.R_below (by (with_reducible repeat (first | apply Kd.R_alloc | apply Kd.R_drewN | apply Kd.R_drew)); exact HO177.out) hb)
            have n2_ := Aside0.mk (Kd.R_below (by (with_reducible repeat (first | apply Kd.R_alloc | apply Kd.R_drewN | apply Kd.R_drew)); exact HO182.out) hb)
            have n3_ := Aside0.mk (blk_below (g := gb167) (o := .cells #[.string a0_0, .slice A0_1 l0_1.length c0_1] 35 (0, 0)) (by (with_reducible repeat (first | refine blk_drewN ?_ _ | refine blk_drew ?_ | refine blk_alloc ?_ _)); exact BK167.out) hb)
            have n4_ := Aside0.mk (blk_below (g := gb178) (o := .cells #[.string t174, .slice Ao26 t175.length co26] 35 (0, 0)) (by (with_reducible repeat (first | refine blk_drewN ?_ _ | refine blk_drew ?_ | refine blk_alloc ?_ _)); exact BK178.out) hb)
            have n5_ := Aside0.mk (blk_below (g := gb183) (o := .cells #[.string t179, .slice Ao33 t180.length co33] 35 (0, 0)) (by (with_reducible repeat (first | refine blk_drewN ?_ _ | refine blk_drew ?_ | refine blk_alloc ?_ _)); exact BK183.out) hb)
            have n6_ := Aside0.mk (below_step (by repeat (first | (with_reducible first | exact HB.out | apply below_alloc | apply pw_below_drewN | apply below_drew1 | refine below_set ?_ GE167.out | refine below_set ?_ GE178.out | refine below_set ?_ GE183.out) | exact HB.out)) hb)
            clear HO173
            clear HO177
            clear HO182
            clear BK167
            clear BK178
            clear BK183
            clear HB
            have HO173 := n0_
            have HO177 := n1_
            have HO182 := n2_
            have BK167 := n3_
            have BK178 := n4_
            have BK183 := n5_
            have HB := n6_
            clear n0_ n1_ n2_ n3_ n4_ n5_ n6_
            (try clear hb)
            (try clear hb2)
            (try clear hk)
            (try clear hi)
            refine hK.out _ _ ⟨(blk_cell BK178.out 0).trans rfl, (blk_cell BK178.out 1).trans rfl, (blk_cell BK167.out 0).trans rfl, (blk_cell BK167.out 1).trans rfl, (blk_cell BK183.out 0).trans rfl, (blk_cell BK183.out 1).trans rfl⟩ (fun hHeld => ?_)
            clear hK K
            refine norm_ (a' := ?_) ?_ ?_
            rotate_left
            · show Act.put _ (some 41) _ = _
              simp only [Act.put, List.setIfInBounds_toArray, List.set_cons_zero, List.set_cons_succ, i64_w, i32_w]
              rfl
            refine pure_ (i := 4) (N := some 42) (v := ?_) (a' := ?_) #[true, true, true, true, true, false, false, false, false, false, false, false] rfl rfl (any_of HT_.out (by kernel_rfl)) (fun _ _ _ h => h) (Or.inl ⟨by rfl, ?_⟩) ?_ ?_
            rotate_left
            · intro w'
              go_simp
              with_reducible rfl
            rotate_left
            · simp only [Act.put, List.setIfInBounds_toArray, List.set_cons_zero, List.set_cons_succ, i64_w, i32_w]
              rfl
            refine pure_ (i := 5) (N := some 43) (v := ?_) (a' := ?_) #[true, true, true, true, true, true, false, false, false, false, false, false] rfl rfl (any_of HT_.out (by kernel_rfl)) (fun _ _ _ h => h) (Or.inl ⟨by rfl, ?_⟩) ?_ ?_
            rotate_left
            · intro w'
              go_simp
              with_reducible rfl
            rotate_left
            · simp only [Act.put, List.setIfInBounds_toArray, List.set_cons_zero, List.set_cons_succ, i64_w, i32_w]
              rfl
            refine take_ (i := 6) (N := some 44) (v := ?_) (a' := ?_) #[true, true, true, true, true, true, true, false, false, false, false, false] rfl rfl (take_ofW HT_.out HW_.out (by kernel_rfl)) (fun _ _ _ h => h) (Or.inl ⟨by rfl, ?_⟩) hHeld ?_ ?_
            rotate_left
            · rintro w' ⟨s0, s1, s2, s3, s4, s5⟩
              go_simp
              with_reducible rfl
            rotate_left
            · simp only [Act.put, List.setIfInBounds_toArray, List.set_cons_zero, List.set_cons_succ, i64_w, i32_w]
              rfl
            refine take_ (i := 8) (N := some 46) (v := ?_) (a' := ?_) #[true, true, true, true, true, true, true, false, true, false, false, false] rfl rfl (take_ofW HT_.out HW_.out (by kernel_rfl)) (fun _ _ _ h => h) (Or.inl ⟨by rfl, ?_⟩) hHeld ?_ ?_
            rotate_left
            · rintro w' ⟨s0, s1, s2, s3, s4, s5⟩
              go_simp
              with_reducible rfl
            rotate_left
            · simp only [Act.put, List.setIfInBounds_toArray, List.set_cons_zero, List.set_cons_succ, i64_w, i32_w]
              rfl
            refine one_ (i := 7) (N := some 45) #[true, true, true, true, true, true, true, true, true, false, false, false] rfl rfl (one_of HT_.out (by kernel_rfl)) (by decide) (fun K hK => ?_)
            refine goes_ Tryd.func15 (by kernel_rfl) rfl #[.agg #[.string t179, .slice Ao33 t180.length co33]] (by rfl) rfl rfl (by (try simp only [List.map_toArray, List.map_cons, List.map_nil]); first | done | rfl | (simp only [List.length_drop, List.length_take]; rfl)) ?_
            with_reducible refine (port_May.calls kj4 t179 _ _ t180 t186 _ ?side1 ?side2 A41.out).mono ?_
            (case side1 => repeat (first | exact (Kd.R_reads' HO182.out).2.2 | (with_reducible refine Kd.C_alloc ?_ _) | (with_reducible refine Kd.C_drewN ?_ _) | (with_reducible refine Kd.C_drew ?_)))
            (case side2 => exact (Kd.R_reads' HO182.out).2.1)
            rintro e w47 ⟨rfl, hb⟩
            refine ⟨_, rfl, ?_⟩
            have n0_ := Aside0.mk (Kd.R_below (by (with_reducible repeat (first | apply Kd.R_alloc | apply Kd.R_drewN | apply Kd.R_drew)); exact HO173.out) hb)
            have n1_ := Aside0.mk (Kd.R_below (by (with_reducible repeat (first | apply Kd.R_alloc | apply Kd.R_drewN | apply Kd.R_drew)); exact HO177.out) hb)
            have n2_ := Aside0.mk (Kd.R_below (by (with_reducible repeat (first | apply Kd.R_alloc | apply Kd.R_drewN | apply Kd.R_drew)); exact HO182.out) hb)
            have n3_ := Aside0.mk (blk_below (g := gb167) (o := .cells #[.string a0_0, .slice A0_1 l0_1.length c0_1] 35 (0, 0)) (by (with_reducible repeat (first | refine blk_drewN ?_ _ | refine blk_drew ?_ | refine blk_alloc ?_ _)); exact BK167.out) hb)
            have n4_ := Aside0.mk (blk_below (g := gb178) (o := .cells #[.string t174, .slice Ao26 t175.length co26] 35 (0, 0)) (by (with_reducible repeat (first | refine blk_drewN ?_ _ | refine blk_drew ?_ | refine blk_alloc ?_ _)); exact BK178.out) hb)
            have n5_ := Aside0.mk (blk_below (g := gb183) (o := .cells #[.string t179, .slice Ao33 t180.length co33] 35 (0, 0)) (by (with_reducible repeat (first | refine blk_drewN ?_ _ | refine blk_drew ?_ | refine blk_alloc ?_ _)); exact BK183.out) hb)
            have n6_ := Aside0.mk (below_step (by repeat (first | (with_reducible first | exact HB.out | apply below_alloc | apply pw_below_drewN | apply below_drew1 | refine below_set ?_ GE167.out | refine below_set ?_ GE178.out | refine below_set ?_ GE183.out) | exact HB.out)) hb)
            clear HO173
            clear HO177
            clear HO182
            clear BK167
            clear BK178
            clear BK183
            clear HB
            have HO173 := n0_
            have HO177 := n1_
            have HO182 := n2_
            have BK167 := n3_
            have BK178 := n4_
            have BK183 := n5_
            have HB := n6_
            clear n0_ n1_ n2_ n3_ n4_ n5_ n6_
            (try clear hb)
            (try clear hb2)
            (try clear hk)
            (try clear hi)
            refine hK.out _ _ ⟨(blk_cell BK178.out 0).trans rfl, (blk_cell BK178.out 1).trans rfl, (blk_cell BK167.out 0).trans rfl, (blk_cell BK167.out 1).trans rfl, (blk_cell BK183.out 0).trans rfl, (blk_cell BK183.out 1).trans rfl⟩ (fun hHeld => ?_)
            clear hK K
            refine norm_ (a' := ?_) ?_ ?_
            rotate_left
            · show Act.put _ (some 45) _ = _
              simp only [Act.put, List.setIfInBounds_toArray, List.set_cons_zero, List.set_cons_succ, i64_w, i32_w]
              rfl
            refine one_ (i := 9) (N := some 47) #[true, true, true, true, true, true, true, true, true, true, false, false] rfl rfl (one_of HT_.out (by kernel_rfl)) (by decide) (fun K hK => ?_)
            refine goes_ Tryd.func15 (by kernel_rfl) rfl #[.agg #[.string a0_0, .slice A0_1 l0_1.length c0_1]] (by rfl) rfl rfl (by (try simp only [List.map_toArray, List.map_cons, List.map_nil]); first | done | rfl | (simp only [List.length_drop, List.length_take]; rfl)) ?_
            with_reducible refine (port_May.calls kj4 a0_0 _ _ l0_1 t187 _ ?side1 ?side2 A42.out).mono ?_
            (case side1 => repeat (first | exact (Kd.C_below HR0_1.out HB.out) | (with_reducible refine Kd.C_alloc ?_ _) | (with_reducible refine Kd.C_drewN ?_ _) | (with_reducible refine Kd.C_drew ?_)))
            (case side2 => exact HC0_1.out)
            rintro e w48 ⟨rfl, hb⟩
            refine ⟨_, rfl, ?_⟩
            have n0_ := Aside0.mk (Kd.R_below (by (with_reducible repeat (first | apply Kd.R_alloc | apply Kd.R_drewN | apply Kd.R_drew)); exact HO173.out) hb)
            have n1_ := Aside0.mk (Kd.R_below (by (with_reducible repeat (first | apply Kd.R_alloc | apply Kd.R_drewN | apply Kd.R_drew)); exact HO177.out) hb)
            have n2_ := Aside0.mk (Kd.R_below (by (with_reducible repeat (first | apply Kd.R_alloc | apply Kd.R_drewN | apply Kd.R_drew)); exact HO182.out) hb)
            have n3_ := Aside0.mk (blk_below (g := gb167) (o := .cells #[.string a0_0, .slice A0_1 l0_1.length c0_1] 35 (0, 0)) (by (with_reducible repeat (first | refine blk_drewN ?_ _ | refine blk_drew ?_ | refine blk_alloc ?_ _)); exact BK167.out) hb)
            have n4_ := Aside0.mk (blk_below (g := gb178) (o := .cells #[.string t174, .slice Ao26 t175.length co26] 35 (0, 0)) (by (with_reducible repeat (first | refine blk_drewN ?_ _ | refine blk_drew ?_ | refine blk_alloc ?_ _)); exact BK178.out) hb)
            have n5_ := Aside0.mk (blk_below (g := gb183) (o := .cells #[.string t179, .slice Ao33 t180.length co33] 35 (0, 0)) (by (with_reducible repeat (first | refine blk_drewN ?_ _ | refine blk_drew ?_ | refine blk_alloc ?_ _)); exact BK183.out) hb)
            have n6_ := Aside0.mk (below_step (by repeat (first | (with_reducible first | exact HB.out | apply below_alloc | apply pw_below_drewN | apply below_drew1 | refine below_set ?_ GE167.out | refine below_set ?_ GE178.out | refine below_set ?_ GE183.out) | exact HB.out)) hb)
            clear HO173
            clear HO177
            clear HO182
            clear BK167
            clear BK178
            clear BK183
            clear HB
            have HO173 := n0_
            have HO177 := n1_
            have HO182 := n2_
            have BK167 := n3_
            have BK178 := n4_
            have BK183 := n5_
            have HB := n6_
            clear n0_ n1_ n2_ n3_ n4_ n5_ n6_
            (try clear hb)
            (try clear hb2)
            (try clear hk)
            (try clear hi)
            refine hK.out _ _ ⟨(blk_cell BK178.out 0).trans rfl, (blk_cell BK178.out 1).trans rfl, (blk_cell BK167.out 0).trans rfl, (blk_cell BK167.out 1).trans rfl, (blk_cell BK183.out 0).trans rfl, (blk_cell BK183.out 1).trans rfl⟩ (fun hHeld => ?_)
            clear hK K
            refine norm_ (a' := ?_) ?_ ?_
            rotate_left
            · show Act.put _ (some 47) _ = _
              simp only [Act.put, List.setIfInBounds_toArray, List.set_cons_zero, List.set_cons_succ, i64_w, i32_w]
              rfl
            refine pure_ (i := 10) (N := some 48) (v := ?_) (a' := ?_) #[true, true, true, true, true, true, true, true, true, true, true, false] rfl rfl (any_of HT_.out (by kernel_rfl)) (fun _ _ _ h => h) (Or.inl ⟨by rfl, ?_⟩) ?_ ?_
            rotate_left
            · intro w'
              go_simp
              with_reducible rfl
            rotate_left
            · simp only [Act.put, List.setIfInBounds_toArray, List.set_cons_zero, List.set_cons_succ, i64_w, i32_w]
              rfl
            refine pure_ (i := 11) (N := some 49) (v := ?_) (a' := ?_) #[true, true, true, true, true, true, true, true, true, true, true, true] rfl rfl (any_of HT_.out (by kernel_rfl)) (fun _ _ _ h => h) (Or.inl ⟨by rfl, ?_⟩) ?_ ?_
            rotate_left
            · intro w'
              go_simp
              with_reducible rfl
            rotate_left
            · simp only [Act.put, List.setIfInBounds_toArray, List.set_cons_zero, List.set_cons_succ, i64_w, i32_w]
              rfl
            refine done_ (done_of HT_.out (by kernel_rfl)) ?_
            try go_wp2
            go_meet
            case rel => exact ⟨_, ((t186 != t187)), (by first | rfl | (simp; done) | (simp [*]; done)), H', ⟨by have := HJ4.out; first | omega | exact Nat.le_refl _⟩, ⟨by (with_reducible repeat (first | apply Kd.R_alloc | apply Kd.R_drewN | apply Kd.R_drew)); exact Kd.R_mono HO177.out (fun _ hk => hk.2)⟩, ⟨by (with_reducible repeat (first | apply Kd.R_alloc | apply Kd.R_drewN | apply Kd.R_drew)); exact Kd.R_mono HO182.out (fun _ hk => hk.2)⟩, ⟨by (with_reducible repeat (first | refine blk_drewN ?_ _ | refine blk_drew ?_ | refine blk_alloc ?_ _)); exact BK167.out⟩, ⟨by (with_reducible repeat (first | refine blk_drewN ?_ _ | refine blk_drew ?_ | refine blk_alloc ?_ _)); exact BK178.out⟩, ⟨by (with_reducible repeat (first | refine blk_drewN ?_ _ | refine blk_drew ?_ | refine blk_alloc ?_ _)); exact BK183.out⟩, ⟨by repeat (first | (with_reducible first | exact HB.out | apply below_alloc | apply pw_below_drewN | apply below_drew1 | refine below_set ?_ GE167.out | refine below_set ?_ GE178.out | refine below_set ?_ GE183.out) | exact HB.out)⟩⟩
        case rest =>
          clear HC18
          try clear c1
          try clear c2
          try clear p2
          try clear c3
          try clear c6
          try clear p6
          try clear c7
          try clear c8
          try clear c12
          try clear c15
          try clear c24
          try clear c30
          try clear c31
          try clear c36
          try clear c36b0
          try clear c36b1
          try clear c36b2
          try clear hcz10_0
          try clear hcz10_1
          try clear hcz19_0
          try clear hcz19_1
          try clear hcz25_0
          try clear hcz25_1
          try clear hcz27_0
          try clear hcz27_1
          try clear hcz32_0
          try clear hcz32_1
          try clear hfz10_0
          try clear hfz10_1
          try clear hfz19_0
          try clear hfz19_1
          try clear hfz25_0
          try clear hfz25_1
          try clear hfz27_0
          try clear hfz27_1
          try clear hfz32_0
          try clear hfz32_1
          try clear p2
          obtain ⟨kq, x49_17, rfl, HA, HJ17, HO_179001, HO_184001, BK167, BK178, BK183, HB⟩ := hcut
          cases kq with
          | zero => exact absurd HA.out (by simp [supercargolaw16_PortAdds.j1])
          | succ kj17 =>
            have H := HA.out
            clear HA
            simp only [supercargolaw16_PortAdds.j1] at H
            by_cases c49 : x49_17 = true
            · subst c49
              have H1 : (some false) = some r := by rw [if_pos rfl] at H; exact H
              clear H
              have H := H1
              clear H1
              obtain rfl := Option.some.inj H
              go_wp2
              go_ret
              exact ⟨by first | rfl | (simp [errW_none, errW_some] <;> rfl) | (simp [*, errW_none, errW_some] <;> rfl), by repeat (first | (with_reducible first | exact HB.out | apply below_alloc | apply pw_below_drewN | apply below_drew1 | refine below_set ?_ GE167.out | refine below_set ?_ GE178.out | refine below_set ?_ GE183.out) | exact HB.out)⟩
            · replace c49 := Bool.eq_false_iff.mpr c49
              subst c49
              have H1 : (supercargolaw16_PortAdds.l0 kj17 (l0_1.length : Int) 0 a0_0 l0_1 t174 t175 t179 t180) = some r := by rw [if_neg (show ¬ (false = true) by decide)] at H; exact H
              clear H
              have H := H1
              clear H1
              have H' := Aside0.mk H
              clear H
              have hnb50 := NB167_178.out
              have hnc50 := NB178_167.out
              have hnb51 := NB167_183.out
              have hnc51 := NB183_167.out
              have hcz52_0 : wc.cell? ⟨gb167, 0, none⟩ = some (.string a0_0) := (blk_cell BK167.out 0).trans rfl
              have hcz52_1 : wc.cell? ⟨gb167, 1, none⟩ = some (.slice A0_1 l0_1.length c0_1) := (blk_cell BK167.out 1).trans rfl
              have hfz52_0 := blk_frozen BK167.out 0
              have hfz52_1 := blk_frozen BK167.out 1
              go_wp2
              go_loopg [53] kj17 (fun kq v53 w' => ∃ (x53_3 : Int), v53 = .int .i64 x53_3 ∧ Aside0 (supercargolaw16_PortAdds.l0 kq (l0_1.length : Int) x53_3 a0_0 l0_1 t174 t175 t179 t180 = some r) ∧ Aside0 (kq ≤ kj17) ∧ Aside0 (Kd.R k32 32 w' w.heap.size (fun k_ => some k_ ≠ ((.slice Ao33 t180.length co33) : Value).ownBlock) (.slice Ao26 t175.length co26) t175) ∧ Aside0 (Kd.R k32 32 w' w.heap.size (fun k_ => some k_ ≠ ((.slice Ao26 t175.length co26) : Value).ownBlock) (.slice Ao33 t180.length co33) t180) ∧ Aside0 (w'.heap[gb167]? = some (.cells #[.string a0_0, (.slice A0_1 l0_1.length c0_1)] 35 (0, 0))) ∧ Aside0 (w'.heap[gb178]? = some (.cells #[.string t174, (.slice Ao26 t175.length co26)] 35 (0, 0))) ∧ Aside0 (w'.heap[gb183]? = some (.cells #[.string t179, (.slice Ao33 t180.length co33)] 35 (0, 0))) ∧ Aside0 (Below w.heap.size w w'))
              case atStart => exact ⟨(0), (by first | rfl | (simp; done) | (simp [*]; done)), H', ⟨Nat.le_refl _⟩, ⟨by (with_reducible repeat (first | apply Kd.R_alloc | apply Kd.R_drewN | apply Kd.R_drew)); exact HO_179001.out⟩, ⟨by (with_reducible repeat (first | apply Kd.R_alloc | apply Kd.R_drewN | apply Kd.R_drew)); exact HO_184001.out⟩, ⟨by (with_reducible repeat (first | refine blk_drewN ?_ _ | refine blk_drew ?_ | refine blk_alloc ?_ _)); exact BK167.out⟩, ⟨by (with_reducible repeat (first | refine blk_drewN ?_ _ | refine blk_drew ?_ | refine blk_alloc ?_ _)); exact BK178.out⟩, ⟨by (with_reducible repeat (first | refine blk_drewN ?_ _ | refine blk_drew ?_ | refine blk_alloc ?_ _)); exact BK183.out⟩, ⟨by repeat (first | (with_reducible first | exact HB.out | apply below_alloc | apply pw_below_drewN | apply below_drew1 | refine below_set ?_ GE167.out | refine below_set ?_ GE178.out | refine below_set ?_ GE183.out) | exact HB.out)⟩⟩
              case round =>
                clear H'
                try clear c1
                try clear c2
                try clear p2
                try clear c3
                try clear c4
                try clear c5
                try clear c6
                try clear p6
                try clear c7
                try clear c8
                try clear c12
                try clear c15
                try clear c24
                try clear c30
                try clear c31
                try clear c36
                try clear c36b0
                try clear c36b1
                try clear c36b2
                try clear c49
                try clear c50
                try clear c51
                try clear hcz10_0
                try clear hcz10_1
                try clear hcz19_0
                try clear hcz19_1
                try clear hcz25_0
                try clear hcz25_1
                try clear hcz27_0
                try clear hcz27_1
                try clear hcz32_0
                try clear hcz32_1
                try clear hcz52_0
                try clear hcz52_1
                try clear hfz10_0
                try clear hfz10_1
                try clear hfz19_0
                try clear hfz19_1
                try clear hfz25_0
                try clear hfz25_1
                try clear hfz27_0
                try clear hfz27_1
                try clear hfz32_0
                try clear hfz32_1
                try clear hfz52_0
                try clear hfz52_1
                try clear p2
                try clear p6
                obtain ⟨x53_3, rfl, HA, HK3, HO_179001, HO_184001, BK167, BK178, BK183, HB⟩ := hrel
                cases gk with
                | zero => exact absurd HA.out (by simp [supercargolaw16_PortAdds.l0])
                | succ k3 =>
                  have H := HA.out
                  clear HA
                  simp only [supercargolaw16_PortAdds.l0] at H
                  by_cases c53 : x53_3 < (l0_1.length : Int)
                  · rw [if_pos c53] at H
                    have c53b0 : decide (x53_3 < (l0_1.length : Int)) = true := decide_eq_true c53
                    clear c53
                    by_cases c54 : 0 ≤ x53_3
                    · rw [if_pos c54] at H
                      have c54b0 : decide (0 ≤ x53_3) = true := decide_eq_true c54
                      clear c54
                      by_cases c55 : x53_3 < (l0_1.length : Int)
                      · rw [if_pos c55] at H
                        have c55b0 : decide (x53_3 < (l0_1.length : Int)) = true := decide_eq_true c55
                        clear c55
                        by_cases c56 : ((rd_T32 l0_1 x53_3).f3) > 1047976
                        · rw [if_pos c56] at H
                          have c56b0 : decide (1047976 < ((rd_T32 l0_1 x53_3).f3)) = true := decide_eq_true c56
                          clear c56
                          obtain rfl := Option.some.inj H
                          have hnb57 := NB167_178.out
                          have hnc57 := NB178_167.out
                          have hnb58 := NB167_183.out
                          have hnc58 := NB183_167.out
                          have hcz59_0 : wr.cell? ⟨gb167, 0, none⟩ = some (.string a0_0) := (blk_cell BK167.out 0).trans rfl
                          have hcz59_1 : wr.cell? ⟨gb167, 1, none⟩ = some (.slice A0_1 l0_1.length c0_1) := (blk_cell BK167.out 1).trans rfl
                          have hfz59_0 := blk_frozen BK167.out 0
                          have hfz59_1 := blk_frozen BK167.out 1
                          have p189 : 0 ≤ (x53_3 : Int) := of_decide_eq_true (by first | (with_reducible assumption) | assumption)
                          have q189 : x53_3 < (l0_1.length : Int) := of_decide_eq_true (by first | (with_reducible assumption) | assumption)
                          obtain ⟨ad189, e189, hx189_0, hx189_1, hx189_2, hx189_3⟩ := at_T32 HR0_1.out x53_3 p189 q189
                          cases e189
                          replace hx189_0 := (HB.out.cell (World.block_lt_of_cell? w _ hx189_0)).trans hx189_0
                          replace hx189_1 := (HB.out.cell (World.block_lt_of_cell? w _ hx189_1)).trans hx189_1
                          replace hx189_2 := (HB.out.cell (World.block_lt_of_cell? w _ hx189_2)).trans hx189_2
                          replace hx189_3 := (HB.out.cell (World.block_lt_of_cell? w _ hx189_3)).trans hx189_3
                          replace p189 := eq_true p189
                          replace q189 := eq_true q189
                          go_wp2
                          go_ret
                          exact ⟨by first | rfl | (simp [errW_none, errW_some] <;> rfl) | (simp [*, errW_none, errW_some] <;> rfl), by repeat (first | (with_reducible first | exact HB.out | apply below_alloc | apply pw_below_drewN | apply below_drew1 | refine below_set ?_ GE167.out | refine below_set ?_ GE178.out | refine below_set ?_ GE183.out) | exact HB.out)⟩
                        · rw [if_neg c56] at H
                          have c56b0 : decide (1047976 < ((rd_T32 l0_1 x53_3).f3)) = false := decide_eq_false c56
                          clear c56
                          by_cases c60 : ((rd_T32 l0_1 x53_3).f3) < 0
                          · rw [if_pos c60] at H
                            have c60b0 : decide (((rd_T32 l0_1 x53_3).f3) < 0) = true := decide_eq_true c60
                            clear c60
                            obtain rfl := Option.some.inj H
                            have hnb61 := NB167_178.out
                            have hnc61 := NB178_167.out
                            have hnb62 := NB167_183.out
                            have hnc62 := NB183_167.out
                            have hcz63_0 : wr.cell? ⟨gb167, 0, none⟩ = some (.string a0_0) := (blk_cell BK167.out 0).trans rfl
                            have hcz63_1 : wr.cell? ⟨gb167, 1, none⟩ = some (.slice A0_1 l0_1.length c0_1) := (blk_cell BK167.out 1).trans rfl
                            have hfz63_0 := blk_frozen BK167.out 0
                            have hfz63_1 := blk_frozen BK167.out 1
                            have p189 : 0 ≤ (x53_3 : Int) := of_decide_eq_true (by first | (with_reducible assumption) | assumption)
                            have q189 : x53_3 < (l0_1.length : Int) := of_decide_eq_true (by first | (with_reducible assumption) | assumption)
                            obtain ⟨ad189, e189, hx189_0, hx189_1, hx189_2, hx189_3⟩ := at_T32 HR0_1.out x53_3 p189 q189
                            cases e189
                            replace hx189_0 := (HB.out.cell (World.block_lt_of_cell? w _ hx189_0)).trans hx189_0
                            replace hx189_1 := (HB.out.cell (World.block_lt_of_cell? w _ hx189_1)).trans hx189_1
                            replace hx189_2 := (HB.out.cell (World.block_lt_of_cell? w _ hx189_2)).trans hx189_2
                            replace hx189_3 := (HB.out.cell (World.block_lt_of_cell? w _ hx189_3)).trans hx189_3
                            replace p189 := eq_true p189
                            replace q189 := eq_true q189
                            have p190 : 0 ≤ (x53_3 : Int) := of_decide_eq_true (by first | (with_reducible assumption) | assumption)
                            have q190 : x53_3 < (l0_1.length : Int) := of_decide_eq_true (by first | (with_reducible assumption) | assumption)
                            obtain ⟨ad190, e190, hx190_0, hx190_1, hx190_2, hx190_3⟩ := at_T32 HR0_1.out x53_3 p190 q190
                            obtain rfl : ad189 = ad190 := (by injection e190)
                            replace hx190_0 := (HB.out.cell (World.block_lt_of_cell? w _ hx190_0)).trans hx190_0
                            replace hx190_1 := (HB.out.cell (World.block_lt_of_cell? w _ hx190_1)).trans hx190_1
                            replace hx190_2 := (HB.out.cell (World.block_lt_of_cell? w _ hx190_2)).trans hx190_2
                            replace hx190_3 := (HB.out.cell (World.block_lt_of_cell? w _ hx190_3)).trans hx190_3
                            replace p190 := eq_true p190
                            replace q190 := eq_true q190
                            go_wp2
                            go_ret
                            exact ⟨by first | rfl | (simp [errW_none, errW_some] <;> rfl) | (simp [*, errW_none, errW_some] <;> rfl), by repeat (first | (with_reducible first | exact HB.out | apply below_alloc | apply pw_below_drewN | apply below_drew1 | refine below_set ?_ GE167.out | refine below_set ?_ GE178.out | refine below_set ?_ GE183.out) | exact HB.out)⟩
                          · rw [if_neg c60] at H
                            have c60b0 : decide (((rd_T32 l0_1 x53_3).f3) < 0) = false := decide_eq_false c60
                            clear c60
                            have H' := Aside0.mk H
                            clear H
                            have hnb64 := NB167_178.out
                            have hnc64 := NB178_167.out
                            have hnb65 := NB167_183.out
                            have hnc65 := NB183_167.out
                            have hcz66_0 : wr.cell? ⟨gb167, 0, none⟩ = some (.string a0_0) := (blk_cell BK167.out 0).trans rfl
                            have hcz66_1 : wr.cell? ⟨gb167, 1, none⟩ = some (.slice A0_1 l0_1.length c0_1) := (blk_cell BK167.out 1).trans rfl
                            have hfz66_0 := blk_frozen BK167.out 0
                            have hfz66_1 := blk_frozen BK167.out 1
                            have p189 : 0 ≤ (x53_3 : Int) := of_decide_eq_true (by first | (with_reducible assumption) | assumption)
                            have q189 : x53_3 < (l0_1.length : Int) := of_decide_eq_true (by first | (with_reducible assumption) | assumption)
                            obtain ⟨ad189, e189, hx189_0, hx189_1, hx189_2, hx189_3⟩ := at_T32 HR0_1.out x53_3 p189 q189
                            cases e189
                            replace hx189_0 := (HB.out.cell (World.block_lt_of_cell? w _ hx189_0)).trans hx189_0
                            replace hx189_1 := (HB.out.cell (World.block_lt_of_cell? w _ hx189_1)).trans hx189_1
                            replace hx189_2 := (HB.out.cell (World.block_lt_of_cell? w _ hx189_2)).trans hx189_2
                            replace hx189_3 := (HB.out.cell (World.block_lt_of_cell? w _ hx189_3)).trans hx189_3
                            replace p189 := eq_true p189
                            replace q189 := eq_true q189
                            have p190 : 0 ≤ (x53_3 : Int) := of_decide_eq_true (by first | (with_reducible assumption) | assumption)
                            have q190 : x53_3 < (l0_1.length : Int) := of_decide_eq_true (by first | (with_reducible assumption) | assumption)
                            obtain ⟨ad190, e190, hx190_0, hx190_1, hx190_2, hx190_3⟩ := at_T32 HR0_1.out x53_3 p190 q190
                            obtain rfl : ad189 = ad190 := (by injection e190)
                            replace hx190_0 := (HB.out.cell (World.block_lt_of_cell? w _ hx190_0)).trans hx190_0
                            replace hx190_1 := (HB.out.cell (World.block_lt_of_cell? w _ hx190_1)).trans hx190_1
                            replace hx190_2 := (HB.out.cell (World.block_lt_of_cell? w _ hx190_2)).trans hx190_2
                            replace hx190_3 := (HB.out.cell (World.block_lt_of_cell? w _ hx190_3)).trans hx190_3
                            replace p190 := eq_true p190
                            replace q190 := eq_true q190
                            go_wp2
                            go_roundg k3
                            case measure => have := HJ4.out; have := HJ17.out; have := HK3.out; omega
                            case rel => exact ⟨(wrap64 (x53_3 + 1)), (by first | rfl | (simp; done) | (simp [*]; done)), H', ⟨by have := HJ4.out; have := HJ17.out; have := HK3.out; omega⟩, ⟨by (with_reducible repeat (first | apply Kd.R_alloc | apply Kd.R_drewN | apply Kd.R_drew)); exact HO_179001.out⟩, ⟨by (with_reducible repeat (first | apply Kd.R_alloc | apply Kd.R_drewN | apply Kd.R_drew)); exact HO_184001.out⟩, ⟨by (with_reducible repeat (first | refine blk_drewN ?_ _ | refine blk_drew ?_ | refine blk_alloc ?_ _)); exact BK167.out⟩, ⟨by (with_reducible repeat (first | refine blk_drewN ?_ _ | refine blk_drew ?_ | refine blk_alloc ?_ _)); exact BK178.out⟩, ⟨by (with_reducible repeat (first | refine blk_drewN ?_ _ | refine blk_drew ?_ | refine blk_alloc ?_ _)); exact BK183.out⟩, ⟨by repeat (first | (with_reducible first | exact HB.out | apply below_alloc | apply pw_below_drewN | apply below_drew1 | refine below_set ?_ GE167.out | refine below_set ?_ GE178.out | refine below_set ?_ GE183.out) | exact HB.out)⟩⟩
                      · rw [if_neg c55] at H
                        exact absurd H (by simp)
                    · rw [if_neg c54] at H
                      exact absurd H (by simp)
                  · rw [if_neg c53] at H
                    have c53b0 : decide (x53_3 < (l0_1.length : Int)) = false := decide_eq_false c53
                    clear c53
                    replace H := Option.bind_eq_some_iff.mp H
                    obtain ⟨t188, A670, H⟩ := H
                    replace H : (some t188) = some r := H
                    have A67 := Aside0.mk A670
                    clear A670
                    obtain rfl := Option.some.inj H
                    have hnb68 := NB178_167.out
                    have hnc68 := NB167_178.out
                    have hnb69 := NB178_183.out
                    have hnc69 := NB183_178.out
                    have hcz70_0 : wr.cell? ⟨gb178, 0, none⟩ = some (.string t174) := (blk_cell BK178.out 0).trans rfl
                    have hcz70_1 : wr.cell? ⟨gb178, 1, none⟩ = some (.slice Ao26 t175.length co26) := (blk_cell BK178.out 1).trans rfl
                    have hfz70_0 := blk_frozen BK178.out 0
                    have hfz70_1 := blk_frozen BK178.out 1
                    have hnb71 := NB183_167.out
                    have hnc71 := NB167_183.out
                    have hcz72_0 : wr.cell? ⟨gb183, 0, none⟩ = some (.string t179) := (blk_cell BK183.out 0).trans rfl
                    have hcz72_1 : wr.cell? ⟨gb183, 1, none⟩ = some (.slice Ao33 t180.length co33) := (blk_cell BK183.out 1).trans rfl
                    have hfz72_0 := blk_frozen BK183.out 0
                    have hfz72_1 := blk_frozen BK183.out 1
                    go_wp2_with (first | ((with_reducible refine gate_callee (f := 13) rfl ?_); refine goesL_ (some 75) rfl rfl Tryd.func13 (by kernel_rfl) rfl #[.agg #[.string t174, .slice Ao26 t175.length co26], .agg #[.string t179, .slice Ao33 t180.length co33]] rfl (by (try simp only [List.map_toArray, List.map_cons, List.map_nil]); first | done | rfl | (simp only [List.length_drop, List.length_take]; rfl)) ?_; (with_reducible refine (supercargoref16_Same.calls k3 t174 _ _ t175 t179 _ _ t180 t188 _ ?side1 ?side2 ?side3 ?side4 A67.out).mono ?_); (case side1 => repeat (first | exact (Kd.R_reads' HO_179001.out).2.2 | (with_reducible refine Kd.C_alloc ?_ _) | (with_reducible refine Kd.C_drewN ?_ _) | (with_reducible refine Kd.C_drew ?_))); (case side2 => exact (Kd.R_reads' HO_179001.out).2.1); (case side3 => repeat (first | exact (Kd.R_reads' HO_184001.out).2.2 | (with_reducible refine Kd.C_alloc ?_ _) | (with_reducible refine Kd.C_drewN ?_ _) | (with_reducible refine Kd.C_drew ?_))); (case side4 => exact (Kd.R_reads' HO_184001.out).2.1); rintro e w73 ⟨rfl, hb⟩; refine ⟨_, rfl, ?_⟩; have n0_ := Aside0.mk (Kd.R_below (by (with_reducible repeat (first | apply Kd.R_alloc | apply Kd.R_drewN | apply Kd.R_drew)); exact HO_179001.out) hb); have n1_ := Aside0.mk (Kd.R_below (by (with_reducible repeat (first | apply Kd.R_alloc | apply Kd.R_drewN | apply Kd.R_drew)); exact HO_184001.out) hb); have n2_ := Aside0.mk (blk_below (g := gb167) (o := .cells #[.string a0_0, .slice A0_1 l0_1.length c0_1] 35 (0, 0)) (by (with_reducible repeat (first | refine blk_drewN ?_ _ | refine blk_drew ?_ | refine blk_alloc ?_ _)); exact BK167.out) hb); have n3_ := Aside0.mk (blk_below (g := gb178) (o := .cells #[.string t174, .slice Ao26 t175.length co26] 35 (0, 0)) (by (with_reducible repeat (first | refine blk_drewN ?_ _ | refine blk_drew ?_ | refine blk_alloc ?_ _)); exact BK178.out) hb); have n4_ := Aside0.mk (blk_below (g := gb183) (o := .cells #[.string t179, .slice Ao33 t180.length co33] 35 (0, 0)) (by (with_reducible repeat (first | refine blk_drewN ?_ _ | refine blk_drew ?_ | refine blk_alloc ?_ _)); exact BK183.out) hb); have n5_ := Aside0.mk (below_step (by repeat (first | (with_reducible first | exact HB.out | apply below_alloc | apply pw_below_drewN | apply below_drew1 | refine below_set ?_ GE167.out | refine below_set ?_ GE178.out | refine below_set ?_ GE183.out) | exact HB.out)) hb); clear HO_179001; clear HO_184001; clear BK167; clear BK178; clear BK183; clear HB; have HO_179001 := n0_; have HO_184001 := n1_; have BK167 := n2_; have BK178 := n3_; have BK183 := n4_; have HB := n5_; clear n0_ n1_ n2_ n3_ n4_ n5_; (try clear hb); (try clear hb2); (try clear hk); (try clear hi)))
                    go_ret
                    exact ⟨by first | rfl | (simp [errW_none, errW_some] <;> rfl) | (simp [*, errW_none, errW_some] <;> rfl), by repeat (first | (with_reducible first | exact HB.out | apply below_alloc | apply pw_below_drewN | apply below_drew1 | refine below_set ?_ GE167.out | refine below_set ?_ GE178.out | refine below_set ?_ GE183.out) | exact HB.out)⟩

end Go.Proofs.YtbojieeildhlcaaDoor.G
