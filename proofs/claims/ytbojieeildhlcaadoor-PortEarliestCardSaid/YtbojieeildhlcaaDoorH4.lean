-- Printed by a program of this session's (wip/lab) after the kit's print: Lean checks it.
import Derived.Test.YtbojieeildhlcaaDoorGx0
import Derived.Test.YtbojieeildhlcaaDoorGx1
import Derived.Test.YtbojieeildhlcaaDoorH8
import Derived.Test.YtbojieeildhlcaaDoorExt
namespace Go.Proofs.YtbojieeildhlcaaDoor.G
open Go.Proofs.YtbojieeildhlcaaDoor.Ext
open Go.RowKit Go.Proofs.YtbojieeildhlcaaDoorW.PrintWords Go.Proofs.YtbojieeildhlcaaDoorW.PrintLast Go.Proofs.YtbojieeildhlcaaDoorW.PrintMore
attribute [local go_sem] max2_int min2_int max_two min_two max_three min_three max_four min_four   -- for this text's walks alone
set_option linter.unusedVariables false
set_option linter.unusedSimpArgs false

/-! ### supercargolaw16_PortSooner: function 4 -/
mutual
def supercargolaw16_PortSooner.j0 : Nat → List (S35) → Int → ByteArray → ByteArray → Int → Int → Int → Int → Bool → Option (Bool)
  | 0, _, _, _, _, _, _, _, _, _ => none
  | k + 1, x0, x1, x2, x3, x4, x5, x6, x7, x51 => if x51 = true then ((awake.f).bind fun t194 => (some t194)) else ((port_Best.f x0 x2 x3 x4 x5).bind fun bt195 => ((port_Best.f x0 x2 x3 (wrap64 (x4 - (wrap64 (x6)))) x5).bind fun bt200 => ((port_Best.f x0 x2 x3 x4 (mx 0 (wrap64 (x5 - (wrap64 (x7)))))).bind fun bt205 => (if (wrap64 ((x0.length : Int) + 1)) = 0 then (none) else (if 0 ≤ (Int.tmod (wrap64 (x1)) (wrap64 ((x0.length : Int) + 1))) then (if (Int.tmod (wrap64 (x1)) (wrap64 ((x0.length : Int) + 1))) ≤ (x0.length : Int) then ((port_Best.f (x0.take ((Int.tmod (wrap64 (x1)) (wrap64 ((x0.length : Int) + 1))) : Int).toNat) x2 x3 x4 x5).bind fun bt214 => (if bt195.2.2 = true then (if bt200.2.2 = true then (if bt200.2.1 > bt195.2.1 then (supercargolaw16_PortSooner.j1 k bt195.2.1 bt195.2.2 bt214.2.1 bt214.2.2 true) else (if bt205.2.2 = true then (supercargolaw16_PortSooner.j1 k bt195.2.1 bt195.2.2 bt214.2.1 bt214.2.2 (decide (bt205.2.1 > bt195.2.1))) else (supercargolaw16_PortSooner.j1 k bt195.2.1 bt195.2.2 bt214.2.1 bt214.2.2 true))) else (supercargolaw16_PortSooner.j1 k bt195.2.1 bt195.2.2 bt214.2.1 bt214.2.2 true)) else (supercargolaw16_PortSooner.j1 k bt195.2.1 bt195.2.2 bt214.2.1 bt214.2.2 false))) else (none)) else (none))))))
def supercargolaw16_PortSooner.j1 : Nat → Int → Bool → Int → Bool → Bool → Option (Bool)
  | 0, _, _, _, _, _ => none
  | k + 1, x18, x19, x27, x28, x125 => if x125 = true then (some false) else (if x28 = true then (if x19 = true then (some (decide (x18 ≤ x27))) else (some false)) else (some true))
end
def supercargolaw16_PortSooner.f (k : Nat) (l0 : List (S35)) (a1 : Int) (a2 : ByteArray) (a3 : ByteArray) (a4 : Int) (a5 : Int) (a6 : Int) (a7 : Int) : Option (Bool) := (awake.f).bind fun t192 => (if t192 = true then ((supercargolaw16_few.f k l0).bind fun t193 => (if t193 = true then (if a4 < (-1000) then (supercargolaw16_PortSooner.j0 k l0 a1 a2 a3 a4 a5 a6 a7 true) else (if a4 > 1048576 then (supercargolaw16_PortSooner.j0 k l0 a1 a2 a3 a4 a5 a6 a7 true) else (if a5 < 0 then (supercargolaw16_PortSooner.j0 k l0 a1 a2 a3 a4 a5 a6 a7 true) else (supercargolaw16_PortSooner.j0 k l0 a1 a2 a3 a4 a5 a6 a7 (decide (a5 > 1048576)))))) else (supercargolaw16_PortSooner.j0 k l0 a1 a2 a3 a4 a5 a6 a7 true))) else (supercargolaw16_PortSooner.j0 k l0 a1 a2 a3 a4 a5 a6 a7 true))
set_option maxHeartbeats 8000000 in
set_option maxRecDepth 100000 in
theorem supercargolaw16_PortSooner.calls (k : Nat) (A0 : Option Addr) (c0 : Nat) (l0 : List (S35)) (a1 : Int) (a2 : ByteArray) (a3 : ByteArray) (a4 : Int) (a5 : Int) (a6 : Int) (a7 : Int) (r : Bool) (w : World) (hr0 : Kd.C k35 w A0 l0.length l0) (hc0 : l0.length ≤ c0) (h : supercargolaw16_PortSooner.f k l0 a1 a2 a3 a4 a5 a6 a7 = some r) :
    Calls Tryd.prog 4 #[.slice A0 l0.length c0, .int .u8 a1, .string a2, .string a3, .int .i64 a4, .int .i64 a5, .int .u8 a6, .int .u8 a7] w fun e w' => e = .returned (.bool r) ∧ Below w.heap.size w w' := by
  have HR0 := Aside0.mk hr0
  have HC0 := Aside0.mk hc0
  clear hr0 hc0
  have HB := Aside0.mk (Below.refl w.heap.size w)
  have H : ((awake.f).bind fun t192 => (if t192 = true then ((supercargolaw16_few.f k l0).bind fun t193 => (if t193 = true then (if a4 < (-1000) then (supercargolaw16_PortSooner.j0 k l0 a1 a2 a3 a4 a5 a6 a7 true) else (if a4 > 1048576 then (supercargolaw16_PortSooner.j0 k l0 a1 a2 a3 a4 a5 a6 a7 true) else (if a5 < 0 then (supercargolaw16_PortSooner.j0 k l0 a1 a2 a3 a4 a5 a6 a7 true) else (supercargolaw16_PortSooner.j0 k l0 a1 a2 a3 a4 a5 a6 a7 (decide (a5 > 1048576)))))) else (supercargolaw16_PortSooner.j0 k l0 a1 a2 a3 a4 a5 a6 a7 true))) else (supercargolaw16_PortSooner.j0 k l0 a1 a2 a3 a4 a5 a6 a7 true))) = some r := h
  clear h
  have HC9 := Aside0.mk H
  clear H
  go_enter Tryd.func4, Tryd.ntmps4
  go_upto_region 1 with (fail)
  go_cut [51] (fun v51 wc => ∃ (kq : Nat) (x51_8 : Bool), v51 = .bool x51_8 ∧ Aside0 (supercargolaw16_PortSooner.j0 kq l0 a1 a2 a3 a4 a5 a6 a7 x51_8 = some r) ∧ Aside0 (kq ≤ k) ∧ Aside0 (Below w.heap.size w wc))
  case first =>
    have H := HC9.out
    clear HC9
    replace H := Option.bind_eq_some_iff.mp H
    obtain ⟨t192, A100, H⟩ := H
    replace H : (if t192 = true then ((supercargolaw16_few.f k l0).bind fun t193 => (if t193 = true then (if a4 < (-1000) then (supercargolaw16_PortSooner.j0 k l0 a1 a2 a3 a4 a5 a6 a7 true) else (if a4 > 1048576 then (supercargolaw16_PortSooner.j0 k l0 a1 a2 a3 a4 a5 a6 a7 true) else (if a5 < 0 then (supercargolaw16_PortSooner.j0 k l0 a1 a2 a3 a4 a5 a6 a7 true) else (supercargolaw16_PortSooner.j0 k l0 a1 a2 a3 a4 a5 a6 a7 (decide (a5 > 1048576)))))) else (supercargolaw16_PortSooner.j0 k l0 a1 a2 a3 a4 a5 a6 a7 true))) else (supercargolaw16_PortSooner.j0 k l0 a1 a2 a3 a4 a5 a6 a7 true)) = some r := H
    have A10 := Aside0.mk A100
    clear A100
    by_cases c11 : t192 = true
    · subst c11
      have H1 : ((supercargolaw16_few.f k l0).bind fun t193 => (if t193 = true then (if a4 < (-1000) then (supercargolaw16_PortSooner.j0 k l0 a1 a2 a3 a4 a5 a6 a7 true) else (if a4 > 1048576 then (supercargolaw16_PortSooner.j0 k l0 a1 a2 a3 a4 a5 a6 a7 true) else (if a5 < 0 then (supercargolaw16_PortSooner.j0 k l0 a1 a2 a3 a4 a5 a6 a7 true) else (supercargolaw16_PortSooner.j0 k l0 a1 a2 a3 a4 a5 a6 a7 (decide (a5 > 1048576)))))) else (supercargolaw16_PortSooner.j0 k l0 a1 a2 a3 a4 a5 a6 a7 true))) = some r := by rw [if_pos rfl] at H; exact H
      clear H
      have H := H1
      clear H1
      replace H := Option.bind_eq_some_iff.mp H
      obtain ⟨t193, A120, H⟩ := H
      replace H : (if t193 = true then (if a4 < (-1000) then (supercargolaw16_PortSooner.j0 k l0 a1 a2 a3 a4 a5 a6 a7 true) else (if a4 > 1048576 then (supercargolaw16_PortSooner.j0 k l0 a1 a2 a3 a4 a5 a6 a7 true) else (if a5 < 0 then (supercargolaw16_PortSooner.j0 k l0 a1 a2 a3 a4 a5 a6 a7 true) else (supercargolaw16_PortSooner.j0 k l0 a1 a2 a3 a4 a5 a6 a7 (decide (a5 > 1048576)))))) else (supercargolaw16_PortSooner.j0 k l0 a1 a2 a3 a4 a5 a6 a7 true)) = some r := H
      have A12 := Aside0.mk A120
      clear A120
      by_cases c13 : t193 = true
      · subst c13
        have H1 : (if a4 < (-1000) then (supercargolaw16_PortSooner.j0 k l0 a1 a2 a3 a4 a5 a6 a7 true) else (if a4 > 1048576 then (supercargolaw16_PortSooner.j0 k l0 a1 a2 a3 a4 a5 a6 a7 true) else (if a5 < 0 then (supercargolaw16_PortSooner.j0 k l0 a1 a2 a3 a4 a5 a6 a7 true) else (supercargolaw16_PortSooner.j0 k l0 a1 a2 a3 a4 a5 a6 a7 (decide (a5 > 1048576)))))) = some r := by rw [if_pos rfl] at H; exact H
        clear H
        have H := H1
        clear H1
        by_cases c14 : a4 < (-1000)
        · rw [if_pos c14] at H
          have c14b0 : decide (a4 < (-1000)) = true := decide_eq_true c14
          clear c14
          (first | rw [c14b0] | (simp only [i64_w, i32_w]; rw [c14b0]) | skip)
          have H' := Aside0.mk H
          clear H
          go_wp2_with (first | ((with_reducible refine gate_callee (f := 7) rfl ?_); refine goesL_ (some 29) rfl rfl Tryd.func7 (by kernel_rfl) rfl #[] rfl (by (try simp only [List.map_toArray, List.map_cons, List.map_nil]); first | done | rfl | (simp only [List.length_drop, List.length_take]; rfl)) ?_; (with_reducible refine (awake.calls  true _ A10.out).mono ?_); rintro e w15 ⟨rfl, hb⟩; refine ⟨_, rfl, ?_⟩; have n0_ := Aside0.mk (below_step (by repeat (first | (with_reducible first | exact HB.out | apply below_alloc | apply pw_below_drewN | apply below_drew1) | exact HB.out)) hb); clear HB; have HB := n0_; clear n0_; (try clear hb); (try clear hb2); (try clear hk); (try clear hi)) | (go_at_call 8; (with_reducible refine (supercargolaw16_few.calls k _ _ l0 true _ ?side1 ?side2 A12.out).mono ?_); (case side1 => repeat (first | exact (Kd.C_below HR0.out HB.out) | (with_reducible refine Kd.C_alloc ?_ _) | (with_reducible refine Kd.C_drewN ?_ _) | (with_reducible refine Kd.C_drew ?_))); (case side2 => exact HC0.out); rintro e w' ⟨rfl, ⟨nd, rfl⟩⟩))
          go_meet
          case rel => exact ⟨_, (true), (by first | rfl | (simp; done) | (simp [*]; done)), H', ⟨by first | omega | exact Nat.le_refl _⟩, ⟨by repeat (first | (with_reducible first | exact HB.out | apply below_alloc | apply pw_below_drewN | apply below_drew1) | exact HB.out)⟩⟩
        · rw [if_neg c14] at H
          have c14b0 : decide (a4 < (-1000)) = false := decide_eq_false c14
          clear c14
          (first | rw [c14b0] | (simp only [i64_w, i32_w]; rw [c14b0]) | skip)
          by_cases c16 : a4 > 1048576
          · rw [if_pos c16] at H
            have c16b0 : decide (1048576 < a4) = true := decide_eq_true c16
            clear c16
            have H' := Aside0.mk H
            clear H
            go_wp2_with (first | ((with_reducible refine gate_callee (f := 7) rfl ?_); refine goesL_ (some 29) rfl rfl Tryd.func7 (by kernel_rfl) rfl #[] rfl (by (try simp only [List.map_toArray, List.map_cons, List.map_nil]); first | done | rfl | (simp only [List.length_drop, List.length_take]; rfl)) ?_; (with_reducible refine (awake.calls  true _ A10.out).mono ?_); rintro e w17 ⟨rfl, hb⟩; refine ⟨_, rfl, ?_⟩; have n0_ := Aside0.mk (below_step (by repeat (first | (with_reducible first | exact HB.out | apply below_alloc | apply pw_below_drewN | apply below_drew1) | exact HB.out)) hb); clear HB; have HB := n0_; clear n0_; (try clear hb); (try clear hb2); (try clear hk); (try clear hi)) | (go_at_call 8; (with_reducible refine (supercargolaw16_few.calls k _ _ l0 true _ ?side1 ?side2 A12.out).mono ?_); (case side1 => repeat (first | exact (Kd.C_below HR0.out HB.out) | (with_reducible refine Kd.C_alloc ?_ _) | (with_reducible refine Kd.C_drewN ?_ _) | (with_reducible refine Kd.C_drew ?_))); (case side2 => exact HC0.out); rintro e w' ⟨rfl, ⟨nd, rfl⟩⟩))
            go_meet
            case rel => exact ⟨_, (true), (by first | rfl | (simp; done) | (simp [*]; done)), H', ⟨by first | omega | exact Nat.le_refl _⟩, ⟨by repeat (first | (with_reducible first | exact HB.out | apply below_alloc | apply pw_below_drewN | apply below_drew1) | exact HB.out)⟩⟩
          · rw [if_neg c16] at H
            have c16b0 : decide (1048576 < a4) = false := decide_eq_false c16
            clear c16
            by_cases c18 : a5 < 0
            · rw [if_pos c18] at H
              have c18b0 : decide (a5 < 0) = true := decide_eq_true c18
              clear c18
              have H' := Aside0.mk H
              clear H
              go_wp2_with (first | ((with_reducible refine gate_callee (f := 7) rfl ?_); refine goesL_ (some 29) rfl rfl Tryd.func7 (by kernel_rfl) rfl #[] rfl (by (try simp only [List.map_toArray, List.map_cons, List.map_nil]); first | done | rfl | (simp only [List.length_drop, List.length_take]; rfl)) ?_; (with_reducible refine (awake.calls  true _ A10.out).mono ?_); rintro e w19 ⟨rfl, hb⟩; refine ⟨_, rfl, ?_⟩; have n0_ := Aside0.mk (below_step (by repeat (first | (with_reducible first | exact HB.out | apply below_alloc | apply pw_below_drewN | apply below_drew1) | exact HB.out)) hb); clear HB; have HB := n0_; clear n0_; (try clear hb); (try clear hb2); (try clear hk); (try clear hi)) | (go_at_call 8; (with_reducible refine (supercargolaw16_few.calls k _ _ l0 true _ ?side1 ?side2 A12.out).mono ?_); (case side1 => repeat (first | exact (Kd.C_below HR0.out HB.out) | (with_reducible refine Kd.C_alloc ?_ _) | (with_reducible refine Kd.C_drewN ?_ _) | (with_reducible refine Kd.C_drew ?_))); (case side2 => exact HC0.out); rintro e w' ⟨rfl, ⟨nd, rfl⟩⟩))
              go_meet
              case rel => exact ⟨_, (true), (by first | rfl | (simp; done) | (simp [*]; done)), H', ⟨by first | omega | exact Nat.le_refl _⟩, ⟨by repeat (first | (with_reducible first | exact HB.out | apply below_alloc | apply pw_below_drewN | apply below_drew1) | exact HB.out)⟩⟩
            · rw [if_neg c18] at H
              have c18b0 : decide (a5 < 0) = false := decide_eq_false c18
              clear c18
              have H' := Aside0.mk H
              clear H
              go_wp2_with (first | ((with_reducible refine gate_callee (f := 7) rfl ?_); refine goesL_ (some 29) rfl rfl Tryd.func7 (by kernel_rfl) rfl #[] rfl (by (try simp only [List.map_toArray, List.map_cons, List.map_nil]); first | done | rfl | (simp only [List.length_drop, List.length_take]; rfl)) ?_; (with_reducible refine (awake.calls  true _ A10.out).mono ?_); rintro e w20 ⟨rfl, hb⟩; refine ⟨_, rfl, ?_⟩; have n0_ := Aside0.mk (below_step (by repeat (first | (with_reducible first | exact HB.out | apply below_alloc | apply pw_below_drewN | apply below_drew1) | exact HB.out)) hb); clear HB; have HB := n0_; clear n0_; (try clear hb); (try clear hb2); (try clear hk); (try clear hi)) | (go_at_call 8; (with_reducible refine (supercargolaw16_few.calls k _ _ l0 true _ ?side1 ?side2 A12.out).mono ?_); (case side1 => repeat (first | exact (Kd.C_below HR0.out HB.out) | (with_reducible refine Kd.C_alloc ?_ _) | (with_reducible refine Kd.C_drewN ?_ _) | (with_reducible refine Kd.C_drew ?_))); (case side2 => exact HC0.out); rintro e w' ⟨rfl, ⟨nd, rfl⟩⟩))
              go_meet
              case rel => exact ⟨_, (decide (a5 > 1048576)), (by first | rfl | (simp; done) | (simp [*]; done)), H', ⟨by first | omega | exact Nat.le_refl _⟩, ⟨by repeat (first | (with_reducible first | exact HB.out | apply below_alloc | apply pw_below_drewN | apply below_drew1) | exact HB.out)⟩⟩
      · replace c13 := Bool.eq_false_iff.mpr c13
        subst c13
        have H1 : (supercargolaw16_PortSooner.j0 k l0 a1 a2 a3 a4 a5 a6 a7 true) = some r := by rw [if_neg (show ¬ (false = true) by decide)] at H; exact H
        clear H
        have H := H1
        clear H1
        have H' := Aside0.mk H
        clear H
        go_wp2_with (first | ((with_reducible refine gate_callee (f := 7) rfl ?_); refine goesL_ (some 29) rfl rfl Tryd.func7 (by kernel_rfl) rfl #[] rfl (by (try simp only [List.map_toArray, List.map_cons, List.map_nil]); first | done | rfl | (simp only [List.length_drop, List.length_take]; rfl)) ?_; (with_reducible refine (awake.calls  true _ A10.out).mono ?_); rintro e w21 ⟨rfl, hb⟩; refine ⟨_, rfl, ?_⟩; have n0_ := Aside0.mk (below_step (by repeat (first | (with_reducible first | exact HB.out | apply below_alloc | apply pw_below_drewN | apply below_drew1) | exact HB.out)) hb); clear HB; have HB := n0_; clear n0_; (try clear hb); (try clear hb2); (try clear hk); (try clear hi)) | (go_at_call 8; (with_reducible refine (supercargolaw16_few.calls k _ _ l0 false _ ?side1 ?side2 A12.out).mono ?_); (case side1 => repeat (first | exact (Kd.C_below HR0.out HB.out) | (with_reducible refine Kd.C_alloc ?_ _) | (with_reducible refine Kd.C_drewN ?_ _) | (with_reducible refine Kd.C_drew ?_))); (case side2 => exact HC0.out); rintro e w' ⟨rfl, ⟨nd, rfl⟩⟩))
        go_meet
        case rel => exact ⟨_, (true), (by first | rfl | (simp; done) | (simp [*]; done)), H', ⟨by first | omega | exact Nat.le_refl _⟩, ⟨by repeat (first | (with_reducible first | exact HB.out | apply below_alloc | apply pw_below_drewN | apply below_drew1) | exact HB.out)⟩⟩
    · replace c11 := Bool.eq_false_iff.mpr c11
      subst c11
      have H1 : (supercargolaw16_PortSooner.j0 k l0 a1 a2 a3 a4 a5 a6 a7 true) = some r := by rw [if_neg (show ¬ (false = true) by decide)] at H; exact H
      clear H
      have H := H1
      clear H1
      have H' := Aside0.mk H
      clear H
      go_wp2_with (first | ((with_reducible refine gate_callee (f := 7) rfl ?_); refine goesL_ (some 29) rfl rfl Tryd.func7 (by kernel_rfl) rfl #[] rfl (by (try simp only [List.map_toArray, List.map_cons, List.map_nil]); first | done | rfl | (simp only [List.length_drop, List.length_take]; rfl)) ?_; (with_reducible refine (awake.calls  false _ A10.out).mono ?_); rintro e w22 ⟨rfl, hb⟩; refine ⟨_, rfl, ?_⟩; have n0_ := Aside0.mk (below_step (by repeat (first | (with_reducible first | exact HB.out | apply below_alloc | apply pw_below_drewN | apply below_drew1) | exact HB.out)) hb); clear HB; have HB := n0_; clear n0_; (try clear hb); (try clear hb2); (try clear hk); (try clear hi)))
      go_meet
      case rel => exact ⟨_, (true), (by first | rfl | (simp; done) | (simp [*]; done)), H', ⟨by first | omega | exact Nat.le_refl _⟩, ⟨by repeat (first | (with_reducible first | exact HB.out | apply below_alloc | apply pw_below_drewN | apply below_drew1) | exact HB.out)⟩⟩
  case rest =>
    clear HC9
    try clear c1
    try clear p2
    try clear c4
    try clear c7
    try clear c11
    try clear c13
    try clear c14
    try clear c14b0
    try clear c16
    try clear c16b0
    try clear c18
    try clear c18b0
    obtain ⟨kq, x51_8, rfl, HA, HJ8, HB⟩ := hcut
    cases kq with
    | zero => exact absurd HA.out (by simp [supercargolaw16_PortSooner.j0])
    | succ kj8 =>
      have H := HA.out
      clear HA
      simp only [supercargolaw16_PortSooner.j0] at H
      by_cases c23 : x51_8 = true
      · subst c23
        have H1 : ((awake.f).bind fun t194 => (some t194)) = some r := by rw [if_pos rfl] at H; exact H
        clear H
        have H := H1
        clear H1
        replace H := Option.bind_eq_some_iff.mp H
        obtain ⟨t194, A240, H⟩ := H
        replace H : (some t194) = some r := H
        have A24 := Aside0.mk A240
        clear A240
        obtain rfl := Option.some.inj H
        go_wp2_with (first | ((with_reducible refine gate_callee (f := 7) rfl ?_); refine goesL_ (some 52) rfl rfl Tryd.func7 (by kernel_rfl) rfl #[] rfl (by (try simp only [List.map_toArray, List.map_cons, List.map_nil]); first | done | rfl | (simp only [List.length_drop, List.length_take]; rfl)) ?_; (with_reducible refine (awake.calls  t194 _ A24.out).mono ?_); rintro e w25 ⟨rfl, hb⟩; refine ⟨_, rfl, ?_⟩; have n0_ := Aside0.mk (below_step (by repeat (first | (with_reducible first | exact HB.out | apply below_alloc | apply pw_below_drewN | apply below_drew1) | exact HB.out)) hb); clear HB; have HB := n0_; clear n0_; (try clear hb); (try clear hb2); (try clear hk); (try clear hi)))
        go_ret
        exact ⟨by first | rfl | (simp [errW_none, errW_some] <;> rfl) | (simp [*, errW_none, errW_some] <;> rfl), by repeat (first | (with_reducible first | exact HB.out | apply below_alloc | apply pw_below_drewN | apply below_drew1) | exact HB.out)⟩
      · replace c23 := Bool.eq_false_iff.mpr c23
        subst c23
        have H1 : ((port_Best.f l0 a2 a3 a4 a5).bind fun bt195 => ((port_Best.f l0 a2 a3 (wrap64 (a4 - (wrap64 (a6)))) a5).bind fun bt200 => ((port_Best.f l0 a2 a3 a4 (mx 0 (wrap64 (a5 - (wrap64 (a7)))))).bind fun bt205 => (if (wrap64 ((l0.length : Int) + 1)) = 0 then (none) else (if 0 ≤ (Int.tmod (wrap64 (a1)) (wrap64 ((l0.length : Int) + 1))) then (if (Int.tmod (wrap64 (a1)) (wrap64 ((l0.length : Int) + 1))) ≤ (l0.length : Int) then ((port_Best.f (l0.take ((Int.tmod (wrap64 (a1)) (wrap64 ((l0.length : Int) + 1))) : Int).toNat) a2 a3 a4 a5).bind fun bt214 => (if bt195.2.2 = true then (if bt200.2.2 = true then (if bt200.2.1 > bt195.2.1 then (supercargolaw16_PortSooner.j1 kj8 bt195.2.1 bt195.2.2 bt214.2.1 bt214.2.2 true) else (if bt205.2.2 = true then (supercargolaw16_PortSooner.j1 kj8 bt195.2.1 bt195.2.2 bt214.2.1 bt214.2.2 (decide (bt205.2.1 > bt195.2.1))) else (supercargolaw16_PortSooner.j1 kj8 bt195.2.1 bt195.2.2 bt214.2.1 bt214.2.2 true))) else (supercargolaw16_PortSooner.j1 kj8 bt195.2.1 bt195.2.2 bt214.2.1 bt214.2.2 true)) else (supercargolaw16_PortSooner.j1 kj8 bt195.2.1 bt195.2.2 bt214.2.1 bt214.2.2 false))) else (none)) else (none)))))) = some r := by rw [if_neg (show ¬ (false = true) by decide)] at H; exact H
        clear H
        have H := H1
        clear H1
        replace H := Option.bind_eq_some_iff.mp H
        obtain ⟨⟨t195, t196, t197⟩, A260, H⟩ := H
        replace H : ((port_Best.f l0 a2 a3 (wrap64 (a4 - (wrap64 (a6)))) a5).bind fun bt200 => ((port_Best.f l0 a2 a3 a4 (mx 0 (wrap64 (a5 - (wrap64 (a7)))))).bind fun bt205 => (if (wrap64 ((l0.length : Int) + 1)) = 0 then (none) else (if 0 ≤ (Int.tmod (wrap64 (a1)) (wrap64 ((l0.length : Int) + 1))) then (if (Int.tmod (wrap64 (a1)) (wrap64 ((l0.length : Int) + 1))) ≤ (l0.length : Int) then ((port_Best.f (l0.take ((Int.tmod (wrap64 (a1)) (wrap64 ((l0.length : Int) + 1))) : Int).toNat) a2 a3 a4 a5).bind fun bt214 => (if t197 = true then (if bt200.2.2 = true then (if bt200.2.1 > t196 then (supercargolaw16_PortSooner.j1 kj8 t196 t197 bt214.2.1 bt214.2.2 true) else (if bt205.2.2 = true then (supercargolaw16_PortSooner.j1 kj8 t196 t197 bt214.2.1 bt214.2.2 (decide (bt205.2.1 > t196))) else (supercargolaw16_PortSooner.j1 kj8 t196 t197 bt214.2.1 bt214.2.2 true))) else (supercargolaw16_PortSooner.j1 kj8 t196 t197 bt214.2.1 bt214.2.2 true)) else (supercargolaw16_PortSooner.j1 kj8 t196 t197 bt214.2.1 bt214.2.2 false))) else (none)) else (none))))) = some r := H
        have A26 := Aside0.mk A260
        clear A260
        replace H := Option.bind_eq_some_iff.mp H
        obtain ⟨⟨t200, t201, t202⟩, A270, H⟩ := H
        replace H : ((port_Best.f l0 a2 a3 a4 (mx 0 (wrap64 (a5 - (wrap64 (a7)))))).bind fun bt205 => (if (wrap64 ((l0.length : Int) + 1)) = 0 then (none) else (if 0 ≤ (Int.tmod (wrap64 (a1)) (wrap64 ((l0.length : Int) + 1))) then (if (Int.tmod (wrap64 (a1)) (wrap64 ((l0.length : Int) + 1))) ≤ (l0.length : Int) then ((port_Best.f (l0.take ((Int.tmod (wrap64 (a1)) (wrap64 ((l0.length : Int) + 1))) : Int).toNat) a2 a3 a4 a5).bind fun bt214 => (if t197 = true then (if t202 = true then (if t201 > t196 then (supercargolaw16_PortSooner.j1 kj8 t196 t197 bt214.2.1 bt214.2.2 true) else (if bt205.2.2 = true then (supercargolaw16_PortSooner.j1 kj8 t196 t197 bt214.2.1 bt214.2.2 (decide (bt205.2.1 > t196))) else (supercargolaw16_PortSooner.j1 kj8 t196 t197 bt214.2.1 bt214.2.2 true))) else (supercargolaw16_PortSooner.j1 kj8 t196 t197 bt214.2.1 bt214.2.2 true)) else (supercargolaw16_PortSooner.j1 kj8 t196 t197 bt214.2.1 bt214.2.2 false))) else (none)) else (none)))) = some r := H
        have A27 := Aside0.mk A270
        clear A270
        obtain ⟨ji28, hji28⟩ : ∃ j_ : Int, (mx 0 (wrap64 (a5 - (wrap64 (a7))))) = j_ := ⟨_, rfl⟩
        replace H : ((port_Best.f l0 a2 a3 a4 (ji28)).bind fun bt205 => (if (wrap64 ((l0.length : Int) + 1)) = 0 then (none) else (if 0 ≤ (Int.tmod (wrap64 (a1)) (wrap64 ((l0.length : Int) + 1))) then (if (Int.tmod (wrap64 (a1)) (wrap64 ((l0.length : Int) + 1))) ≤ (l0.length : Int) then ((port_Best.f (l0.take ((Int.tmod (wrap64 (a1)) (wrap64 ((l0.length : Int) + 1))) : Int).toNat) a2 a3 a4 a5).bind fun bt214 => (if t197 = true then (if t202 = true then (if t201 > t196 then (supercargolaw16_PortSooner.j1 kj8 t196 t197 bt214.2.1 bt214.2.2 true) else (if bt205.2.2 = true then (supercargolaw16_PortSooner.j1 kj8 t196 t197 bt214.2.1 bt214.2.2 (decide (bt205.2.1 > t196))) else (supercargolaw16_PortSooner.j1 kj8 t196 t197 bt214.2.1 bt214.2.2 true))) else (supercargolaw16_PortSooner.j1 kj8 t196 t197 bt214.2.1 bt214.2.2 true)) else (supercargolaw16_PortSooner.j1 kj8 t196 t197 bt214.2.1 bt214.2.2 false))) else (none)) else (none)))) = some r := by first | (rw [hji28] at H; exact H) | (simp only [hji28] at H ⊢; exact H)
        (try rw [hji28] at A26)
        (try rw [hji28] at A27)
        have hji28_ : (if 0 < (wrap64 (a5 - (wrap64 (a7)))) then (wrap64 (a5 - (wrap64 (a7)))) else 0) = ji28 := hji28
        replace H := Option.bind_eq_some_iff.mp H
        obtain ⟨⟨t205, t206, t207⟩, A290, H⟩ := H
        replace H : (if (wrap64 ((l0.length : Int) + 1)) = 0 then (none) else (if 0 ≤ (Int.tmod (wrap64 (a1)) (wrap64 ((l0.length : Int) + 1))) then (if (Int.tmod (wrap64 (a1)) (wrap64 ((l0.length : Int) + 1))) ≤ (l0.length : Int) then ((port_Best.f (l0.take ((Int.tmod (wrap64 (a1)) (wrap64 ((l0.length : Int) + 1))) : Int).toNat) a2 a3 a4 a5).bind fun bt214 => (if t197 = true then (if t202 = true then (if t201 > t196 then (supercargolaw16_PortSooner.j1 kj8 t196 t197 bt214.2.1 bt214.2.2 true) else (if t207 = true then (supercargolaw16_PortSooner.j1 kj8 t196 t197 bt214.2.1 bt214.2.2 (decide (t206 > t196))) else (supercargolaw16_PortSooner.j1 kj8 t196 t197 bt214.2.1 bt214.2.2 true))) else (supercargolaw16_PortSooner.j1 kj8 t196 t197 bt214.2.1 bt214.2.2 true)) else (supercargolaw16_PortSooner.j1 kj8 t196 t197 bt214.2.1 bt214.2.2 false))) else (none)) else (none))) = some r := H
        have A29 := Aside0.mk A290
        clear A290
        by_cases c30 : (wrap64 ((l0.length : Int) + 1)) = 0
        · rw [if_pos c30] at H
          exact absurd H (by simp)
        · rw [if_neg c30] at H
          have c30b0 : ((wrap64 ((l0.length : Int) + 1)) == 0) = false := beq_eq_false_iff_ne.mpr c30
          have c30b1 : ((wrap64 ((l0.length : Int) + 1)) != 0) = true := bne_iff_ne.mpr c30
          obtain ⟨ji31, hji31⟩ : ∃ j_ : Int, (Int.tmod (wrap64 (a1)) (wrap64 ((l0.length : Int) + 1))) = j_ := ⟨_, rfl⟩
          replace H : (if 0 ≤ (ji31) then (if (ji31) ≤ (l0.length : Int) then ((port_Best.f (l0.take ((ji31) : Int).toNat) a2 a3 a4 a5).bind fun bt214 => (if t197 = true then (if t202 = true then (if t201 > t196 then (supercargolaw16_PortSooner.j1 kj8 t196 t197 bt214.2.1 bt214.2.2 true) else (if t207 = true then (supercargolaw16_PortSooner.j1 kj8 t196 t197 bt214.2.1 bt214.2.2 (decide (t206 > t196))) else (supercargolaw16_PortSooner.j1 kj8 t196 t197 bt214.2.1 bt214.2.2 true))) else (supercargolaw16_PortSooner.j1 kj8 t196 t197 bt214.2.1 bt214.2.2 true)) else (supercargolaw16_PortSooner.j1 kj8 t196 t197 bt214.2.1 bt214.2.2 false))) else (none)) else (none)) = some r := by first | (rw [hji31] at H; exact H) | (simp only [hji31] at H ⊢; exact H)
          (try rw [hji31] at A26)
          (try rw [hji31] at A27)
          (try rw [hji31] at A29)
          by_cases c32 : 0 ≤ (ji31)
          · rw [if_pos c32] at H
            have c32b0 := eq_true c32
            have c32b1 : decide (0 ≤ (ji31)) = true := decide_eq_true c32
            clear c32
            by_cases c33 : (ji31) ≤ (l0.length : Int)
            · rw [if_pos c33] at H
              have c33b0 := eq_true c33
              have c33b1 : decide ((ji31) ≤ (l0.length : Int)) = true := decide_eq_true c33
              clear c33
              obtain ⟨y210, hy210⟩ : ∃ y_ : List (S35), y_ = (l0.take ((ji31) : Int).toNat) := ⟨_, rfl⟩
              replace H : ((port_Best.f y210 a2 a3 a4 a5).bind fun bt214 => (if t197 = true then (if t202 = true then (if t201 > t196 then (supercargolaw16_PortSooner.j1 kj8 t196 t197 bt214.2.1 bt214.2.2 true) else (if t207 = true then (supercargolaw16_PortSooner.j1 kj8 t196 t197 bt214.2.1 bt214.2.2 (decide (t206 > t196))) else (supercargolaw16_PortSooner.j1 kj8 t196 t197 bt214.2.1 bt214.2.2 true))) else (supercargolaw16_PortSooner.j1 kj8 t196 t197 bt214.2.1 bt214.2.2 true)) else (supercargolaw16_PortSooner.j1 kj8 t196 t197 bt214.2.1 bt214.2.2 false))) = some r := by first | (rw [hy210]; with_reducible exact H) | (have H2_ := (Option.bind_some _ _).symm.trans H; rw [hy210]; with_reducible exact H2_) | (have H2_ := (Option.bind_some _ _).symm.trans H; with_reducible exact H2_) | with_reducible exact H | (rw [hy210]; exact H) | exact H
              have Ny210 := Aside0.mk hy210
              clear hy210
              replace H := Option.bind_eq_some_iff.mp H
              obtain ⟨⟨t214, t215, t216⟩, A340, H⟩ := H
              replace H : (if t197 = true then (if t202 = true then (if t201 > t196 then (supercargolaw16_PortSooner.j1 kj8 t196 t197 t215 t216 true) else (if t207 = true then (supercargolaw16_PortSooner.j1 kj8 t196 t197 t215 t216 (decide (t206 > t196))) else (supercargolaw16_PortSooner.j1 kj8 t196 t197 t215 t216 true))) else (supercargolaw16_PortSooner.j1 kj8 t196 t197 t215 t216 true)) else (supercargolaw16_PortSooner.j1 kj8 t196 t197 t215 t216 false)) = some r := H
              have A34 := Aside0.mk A340
              clear A340
              have HC35 := Aside0.mk H
              clear H
              go_upto_region 7 with (first | ((with_reducible refine gate_callee (f := 9) rfl ?_); refine goesL_ (some 59) rfl rfl Tryd.func9 (by kernel_rfl) rfl #[.slice A0 l0.length c0, .string a2, .string a3, .int .i64 a4, .int .i64 a5] rfl (by (try simp only [List.map_toArray, List.map_cons, List.map_nil]); first | done | rfl | (simp only [List.length_drop, List.length_take]; rfl)) ?_; (with_reducible refine (port_Best.calls _ _ l0 a2 a3 a4 a5 t195 t196 t197 _ ?side1 ?side2 A26.out).mono ?_); (case side1 => repeat (first | exact (Kd.C_below HR0.out HB.out) | (with_reducible refine Kd.C_alloc ?_ _) | (with_reducible refine Kd.C_drewN ?_ _) | (with_reducible refine Kd.C_drew ?_))); (case side2 => exact HC0.out); rintro e w36 ⟨v198, rfl, ho0, hb⟩; refine ⟨_, rfl, ?_⟩; have n0_ := Aside0.mk (Kd.R_lower ho0 (below_size (by repeat (first | (with_reducible first | exact HB.out | apply below_alloc | apply pw_below_drewN | apply below_drew1) | exact HB.out)))); have n1_ := Aside0.mk (below_step (by repeat (first | (with_reducible first | exact HB.out | apply below_alloc | apply pw_below_drewN | apply below_drew1) | exact HB.out)) hb); clear HB; have HO199 := n0_; have HB := n1_; clear n0_ n1_; (try clear hb); (try clear hb2); (try clear hk); (try clear hi); (try clear ho0)) | ((with_reducible refine gate_callee (f := 9) rfl ?_); refine goesL_ (some 72) rfl rfl Tryd.func9 (by kernel_rfl) rfl #[.slice A0 l0.length c0, .string a2, .string a3, .int .i64 (wrap64 (a4 - (wrap64 (a6)))), .int .i64 a5] rfl (by (try simp only [List.map_toArray, List.map_cons, List.map_nil]); first | done | rfl | (simp only [List.length_drop, List.length_take]; rfl)) ?_; (with_reducible refine (port_Best.calls _ _ l0 a2 a3 (wrap64 (a4 - (wrap64 (a6)))) a5 t200 t201 t202 _ ?side1 ?side2 A27.out).mono ?_); (case side1 => repeat (first | exact (Kd.C_below HR0.out HB.out) | (with_reducible refine Kd.C_alloc ?_ _) | (with_reducible refine Kd.C_drewN ?_ _) | (with_reducible refine Kd.C_drew ?_))); (case side2 => exact HC0.out); rintro e w37 ⟨v203, rfl, ho0, hb⟩; refine ⟨_, rfl, ?_⟩; have n0_ := Aside0.mk (Kd.R_elder' (by (with_reducible repeat (first | apply Kd.R_alloc | apply Kd.R_drewN | apply Kd.R_drew)); exact HO199.out) (Kd.R_base ho0) hb); have n1_ := Aside0.mk (Kd.R_lower (Kd.R_new' ho0 (Kd.R_lt (by (with_reducible repeat (first | apply Kd.R_alloc | apply Kd.R_drewN | apply Kd.R_drew)); exact HO199.out))) (below_size (by repeat (first | (with_reducible first | exact HB.out | apply below_alloc | apply pw_below_drewN | apply below_drew1) | exact HB.out)))); have n2_ := Aside0.mk (below_step (by repeat (first | (with_reducible first | exact HB.out | apply below_alloc | apply pw_below_drewN | apply below_drew1) | exact HB.out)) hb); clear HO199; clear HB; have HO199 := n0_; have HO204 := n1_; have HB := n2_; clear n0_ n1_ n2_; (try clear hb); (try clear hb2); (try clear hk); (try clear hi); (try clear ho0)) | ((with_reducible refine gate_callee (f := 9) rfl ?_); refine goesL_ (some 86) rfl rfl Tryd.func9 (by kernel_rfl) rfl #[.slice A0 l0.length c0, .string a2, .string a3, .int .i64 a4, .int .i64 ji28] rfl (by (try simp only [List.map_toArray, List.map_cons, List.map_nil]); first | done | (simp only [hji28]; rfl) | rfl | (simp only [List.length_drop, List.length_take]; rfl)) ?_; (with_reducible refine (port_Best.calls _ _ l0 a2 a3 a4 ji28 t205 t206 t207 _ ?side1 ?side2 A29.out).mono ?_); (case side1 => repeat (first | exact (Kd.C_below HR0.out HB.out) | (with_reducible refine Kd.C_alloc ?_ _) | (with_reducible refine Kd.C_drewN ?_ _) | (with_reducible refine Kd.C_drew ?_))); (case side2 => exact HC0.out); rintro e w38 ⟨v208, rfl, ho0, hb⟩; refine ⟨_, rfl, ?_⟩; have n0_ := Aside0.mk (Kd.R_elder' (by (with_reducible repeat (first | apply Kd.R_alloc | apply Kd.R_drewN | apply Kd.R_drew)); exact HO199.out) (Kd.R_base ho0) hb); have n1_ := Aside0.mk (Kd.R_elder' (by (with_reducible repeat (first | apply Kd.R_alloc | apply Kd.R_drewN | apply Kd.R_drew)); exact HO204.out) (Kd.R_base ho0) hb); have n2_ := Aside0.mk (Kd.R_lower (Kd.R_new' (Kd.R_new' ho0 (Kd.R_lt (by (with_reducible repeat (first | apply Kd.R_alloc | apply Kd.R_drewN | apply Kd.R_drew)); exact HO199.out))) (Kd.R_lt (by (with_reducible repeat (first | apply Kd.R_alloc | apply Kd.R_drewN | apply Kd.R_drew)); exact HO204.out))) (below_size (by repeat (first | (with_reducible first | exact HB.out | apply below_alloc | apply pw_below_drewN | apply below_drew1) | exact HB.out)))); have n3_ := Aside0.mk (below_step (by repeat (first | (with_reducible first | exact HB.out | apply below_alloc | apply pw_below_drewN | apply below_drew1) | exact HB.out)) hb); clear HO199; clear HO204; clear HB; have HO199 := n0_; have HO204 := n1_; have HO209 := n2_; have HB := n3_; clear n0_ n1_ n2_ n3_; (try clear hb); (try clear hb2); (try clear hk); (try clear hi); (try clear ho0); have q39 : ((ji31) : Int) ≤ ((l0.length : Int) : Int) := of_decide_eq_true (by first | (with_reducible assumption) | assumption); obtain ⟨i039, hi039, _, hsz39, _⟩ := info_parts info35; have hroom39 : l0.length ≤ c0 := HC0.out; have hC39 : Kd.C k35 _ A0 l0.length l0 := HR0.out; have hcut39 := cut_to (P := Tryd.prog) 22 35 .i64 Tryd.underlying22 hi039 A0 l0.length c0 (ji31) (of_decide_eq_true (by first | (with_reducible assumption) | assumption)) q39 hroom39; have hr39 := Kd.C_take (m := ((ji31) : Int).toNat) hC39 (by omega); have hy39 : y210.length = ((ji31) : Int).toNat := (by rw [Ny210.out, List.length_take]; omega); rw [← Ny210.out] at hr39; rw [← hy39] at hcut39; have HR213 := Aside0.mk hr39; have HC213 := Aside0.mk (show y210.length ≤ c0 from by omega); clear hr39 hC39 hroom39 hi039 hsz39; have KY39 := Aside0.mk hy39; clear hy39; replace q39 := eq_true q39) | ((with_reducible refine gate_callee (f := 9) rfl ?_); refine goesL_ (some 103) rfl rfl Tryd.func9 (by kernel_rfl) rfl #[.slice A0 y210.length c0, .string a2, .string a3, .int .i64 a4, .int .i64 a5] rfl (by (try simp only [List.map_toArray, List.map_cons, List.map_nil]); first | done | rfl | (simp only [List.length_drop, List.length_take]; rfl)) ?_; (with_reducible refine (port_Best.calls _ _ y210 a2 a3 a4 a5 t214 t215 t216 _ ?side1 ?side2 A34.out).mono ?_); (case side1 => repeat (first | exact (Kd.C_below HR213.out HB.out) | (with_reducible refine Kd.C_alloc ?_ _) | (with_reducible refine Kd.C_drewN ?_ _) | (with_reducible refine Kd.C_drew ?_))); (case side2 => exact HC213.out); rintro e w40 ⟨v217, rfl, ho0, hb⟩; refine ⟨_, rfl, ?_⟩; have n0_ := Aside0.mk (Kd.R_elder' (by (with_reducible repeat (first | apply Kd.R_alloc | apply Kd.R_drewN | apply Kd.R_drew)); exact HO199.out) (Kd.R_base ho0) hb); have n1_ := Aside0.mk (Kd.R_elder' (by (with_reducible repeat (first | apply Kd.R_alloc | apply Kd.R_drewN | apply Kd.R_drew)); exact HO204.out) (Kd.R_base ho0) hb); have n2_ := Aside0.mk (Kd.R_elder' (by (with_reducible repeat (first | apply Kd.R_alloc | apply Kd.R_drewN | apply Kd.R_drew)); exact HO209.out) (Kd.R_base ho0) hb); have n3_ := Aside0.mk (Kd.R_lower (Kd.R_new' (Kd.R_new' (Kd.R_new' ho0 (Kd.R_lt (by (with_reducible repeat (first | apply Kd.R_alloc | apply Kd.R_drewN | apply Kd.R_drew)); exact HO199.out))) (Kd.R_lt (by (with_reducible repeat (first | apply Kd.R_alloc | apply Kd.R_drewN | apply Kd.R_drew)); exact HO204.out))) (Kd.R_lt (by (with_reducible repeat (first | apply Kd.R_alloc | apply Kd.R_drewN | apply Kd.R_drew)); exact HO209.out))) (below_size (by repeat (first | (with_reducible first | exact HB.out | apply below_alloc | apply pw_below_drewN | apply below_drew1) | exact HB.out)))); have n4_ := Aside0.mk (below_step (by repeat (first | (with_reducible first | exact HB.out | apply below_alloc | apply pw_below_drewN | apply below_drew1) | exact HB.out)) hb); clear HO199; clear HO204; clear HO209; clear HB; have HO199 := n0_; have HO204 := n1_; have HO209 := n2_; have HO218 := n3_; have HB := n4_; clear n0_ n1_ n2_ n3_ n4_; (try clear hb); (try clear hb2); (try clear hk); (try clear hi); (try clear ho0)))
              (try simp only [Act.put, List.setIfInBounds_toArray, List.set_cons_zero, List.set_cons_succ])
              go_cut [125] (fun v125 wc => ∃ (kq : Nat) (x125_34 : Bool), v125 = .bool x125_34 ∧ Aside0 (supercargolaw16_PortSooner.j1 kq t196 t197 t215 t216 x125_34 = some r) ∧ Aside0 (kq ≤ kj8) ∧ Aside0 (Below w.heap.size w wc))
              case first =>
                have H := HC35.out
                clear HC35
                by_cases c41 : t197 = true
                · subst c41
                  have H1 : (if t202 = true then (if t201 > t196 then (supercargolaw16_PortSooner.j1 kj8 t196 true t215 t216 true) else (if t207 = true then (supercargolaw16_PortSooner.j1 kj8 t196 true t215 t216 (decide (t206 > t196))) else (supercargolaw16_PortSooner.j1 kj8 t196 true t215 t216 true))) else (supercargolaw16_PortSooner.j1 kj8 t196 true t215 t216 true)) = some r := by rw [if_pos rfl] at H; exact H
                  clear H
                  have H := H1
                  clear H1
                  by_cases c42 : t202 = true
                  · subst c42
                    have H1 : (if t201 > t196 then (supercargolaw16_PortSooner.j1 kj8 t196 true t215 t216 true) else (if t207 = true then (supercargolaw16_PortSooner.j1 kj8 t196 true t215 t216 (decide (t206 > t196))) else (supercargolaw16_PortSooner.j1 kj8 t196 true t215 t216 true))) = some r := by rw [if_pos rfl] at H; exact H
                    clear H
                    have H := H1
                    clear H1
                    by_cases c43 : t201 > t196
                    · rw [if_pos c43] at H
                      have c43b0 : decide (t196 < t201) = true := decide_eq_true c43
                      clear c43
                      (first | rw [c43b0] | (simp only [i64_w, i32_w]; rw [c43b0]) | skip)
                      have H' := Aside0.mk H
                      clear H
                      go_wp2
                      go_meet
                      case rel => exact ⟨_, (true), (by first | rfl | (simp; done) | (simp [*]; done)), H', ⟨by have := HJ8.out; first | omega | exact Nat.le_refl _⟩, ⟨by repeat (first | (with_reducible first | exact HB.out | apply below_alloc | apply pw_below_drewN | apply below_drew1) | exact HB.out)⟩⟩
                    · rw [if_neg c43] at H
                      have c43b0 : decide (t196 < t201) = false := decide_eq_false c43
                      clear c43
                      (first | rw [c43b0] | (simp only [i64_w, i32_w]; rw [c43b0]) | skip)
                      by_cases c44 : t207 = true
                      · subst c44
                        have H1 : (supercargolaw16_PortSooner.j1 kj8 t196 true t215 t216 (decide (t206 > t196))) = some r := by rw [if_pos rfl] at H; exact H
                        clear H
                        have H := H1
                        clear H1
                        have H' := Aside0.mk H
                        clear H
                        go_wp2
                        go_meet
                        case rel => exact ⟨_, (decide (t206 > t196)), (by first | rfl | (simp; done) | (simp [*]; done)), H', ⟨by have := HJ8.out; first | omega | exact Nat.le_refl _⟩, ⟨by repeat (first | (with_reducible first | exact HB.out | apply below_alloc | apply pw_below_drewN | apply below_drew1) | exact HB.out)⟩⟩
                      · replace c44 := Bool.eq_false_iff.mpr c44
                        subst c44
                        have H1 : (supercargolaw16_PortSooner.j1 kj8 t196 true t215 t216 true) = some r := by rw [if_neg (show ¬ (false = true) by decide)] at H; exact H
                        clear H
                        have H := H1
                        clear H1
                        have H' := Aside0.mk H
                        clear H
                        go_wp2
                        go_meet
                        case rel => exact ⟨_, (true), (by first | rfl | (simp; done) | (simp [*]; done)), H', ⟨by have := HJ8.out; first | omega | exact Nat.le_refl _⟩, ⟨by repeat (first | (with_reducible first | exact HB.out | apply below_alloc | apply pw_below_drewN | apply below_drew1) | exact HB.out)⟩⟩
                  · replace c42 := Bool.eq_false_iff.mpr c42
                    subst c42
                    have H1 : (supercargolaw16_PortSooner.j1 kj8 t196 true t215 t216 true) = some r := by rw [if_neg (show ¬ (false = true) by decide)] at H; exact H
                    clear H
                    have H := H1
                    clear H1
                    have H' := Aside0.mk H
                    clear H
                    go_wp2
                    go_meet
                    case rel => exact ⟨_, (true), (by first | rfl | (simp; done) | (simp [*]; done)), H', ⟨by have := HJ8.out; first | omega | exact Nat.le_refl _⟩, ⟨by repeat (first | (with_reducible first | exact HB.out | apply below_alloc | apply pw_below_drewN | apply below_drew1) | exact HB.out)⟩⟩
                · replace c41 := Bool.eq_false_iff.mpr c41
                  subst c41
                  have H1 : (supercargolaw16_PortSooner.j1 kj8 t196 false t215 t216 false) = some r := by rw [if_neg (show ¬ (false = true) by decide)] at H; exact H
                  clear H
                  have H := H1
                  clear H1
                  have H' := Aside0.mk H
                  clear H
                  go_wp2
                  go_meet
                  case rel => exact ⟨_, (false), (by first | rfl | (simp; done) | (simp [*]; done)), H', ⟨by have := HJ8.out; first | omega | exact Nat.le_refl _⟩, ⟨by repeat (first | (with_reducible first | exact HB.out | apply below_alloc | apply pw_below_drewN | apply below_drew1) | exact HB.out)⟩⟩
              case rest =>
                clear HC35
                try clear c1
                try clear c2
                try clear p2
                try clear c3
                try clear q3
                try clear c4
                try clear p6
                try clear c7
                try clear c9
                try clear c11
                try clear c13
                try clear c14
                try clear c14b0
                try clear c16
                try clear c16b0
                try clear c18
                try clear c18b0
                try clear c23
                try clear c30
                try clear c30b0
                try clear c30b1
                try clear c32
                try clear c32b0
                try clear c32b1
                try clear c33
                try clear c33b0
                try clear c33b1
                try clear q39
                try clear c41
                try clear c42
                try clear c43
                try clear c43b0
                try clear c44
                try clear p2
                try clear q39
                obtain ⟨kq, x125_34, rfl, HA, HJ34, HB⟩ := hcut
                cases kq with
                | zero => exact absurd HA.out (by simp [supercargolaw16_PortSooner.j1])
                | succ kj34 =>
                  have H := HA.out
                  clear HA
                  simp only [supercargolaw16_PortSooner.j1] at H
                  by_cases c45 : x125_34 = true
                  · subst c45
                    have H1 : (some false) = some r := by rw [if_pos rfl] at H; exact H
                    clear H
                    have H := H1
                    clear H1
                    obtain rfl := Option.some.inj H
                    go_wp2
                    go_ret
                    exact ⟨by first | rfl | (simp [errW_none, errW_some] <;> rfl) | (simp only [← hji28, ← hji31]; first | rfl | (simp [errW_none, errW_some] <;> rfl)) | (simp [*, errW_none, errW_some] <;> rfl), by repeat (first | (with_reducible first | exact HB.out | apply below_alloc | apply pw_below_drewN | apply below_drew1) | exact HB.out)⟩
                  · replace c45 := Bool.eq_false_iff.mpr c45
                    subst c45
                    have H1 : (if t216 = true then (if t197 = true then (some (decide (t196 ≤ t215))) else (some false)) else (some true)) = some r := by rw [if_neg (show ¬ (false = true) by decide)] at H; exact H
                    clear H
                    have H := H1
                    clear H1
                    by_cases c46 : t216 = true
                    · subst c46
                      have H1 : (if t197 = true then (some (decide (t196 ≤ t215))) else (some false)) = some r := by rw [if_pos rfl] at H; exact H
                      clear H
                      have H := H1
                      clear H1
                      by_cases c47 : t197 = true
                      · subst c47
                        have H1 : (some (decide (t196 ≤ t215))) = some r := by rw [if_pos rfl] at H; exact H
                        clear H
                        have H := H1
                        clear H1
                        obtain rfl := Option.some.inj H
                        go_wp2
                        go_ret
                        exact ⟨by first | rfl | (simp [errW_none, errW_some] <;> rfl) | (simp only [← hji28, ← hji31]; first | rfl | (simp [errW_none, errW_some] <;> rfl)) | (simp [*, errW_none, errW_some] <;> rfl), by repeat (first | (with_reducible first | exact HB.out | apply below_alloc | apply pw_below_drewN | apply below_drew1) | exact HB.out)⟩
                      · replace c47 := Bool.eq_false_iff.mpr c47
                        subst c47
                        have H1 : (some false) = some r := by rw [if_neg (show ¬ (false = true) by decide)] at H; exact H
                        clear H
                        have H := H1
                        clear H1
                        obtain rfl := Option.some.inj H
                        go_wp2
                        go_ret
                        exact ⟨by first | rfl | (simp [errW_none, errW_some] <;> rfl) | (simp only [← hji28, ← hji31]; first | rfl | (simp [errW_none, errW_some] <;> rfl)) | (simp [*, errW_none, errW_some] <;> rfl), by repeat (first | (with_reducible first | exact HB.out | apply below_alloc | apply pw_below_drewN | apply below_drew1) | exact HB.out)⟩
                    · replace c46 := Bool.eq_false_iff.mpr c46
                      subst c46
                      have H1 : (some true) = some r := by rw [if_neg (show ¬ (false = true) by decide)] at H; exact H
                      clear H
                      have H := H1
                      clear H1
                      obtain rfl := Option.some.inj H
                      go_wp2
                      go_ret
                      exact ⟨by first | rfl | (simp [errW_none, errW_some] <;> rfl) | (simp only [← hji28, ← hji31]; first | rfl | (simp [errW_none, errW_some] <;> rfl)) | (simp [*, errW_none, errW_some] <;> rfl), by repeat (first | (with_reducible first | exact HB.out | apply below_alloc | apply pw_below_drewN | apply below_drew1) | exact HB.out)⟩
            · rw [if_neg c33] at H
              exact absurd H (by simp)
          · rw [if_neg c32] at H
            exact absurd H (by simp)

end Go.Proofs.YtbojieeildhlcaaDoor.G
