-- Printed by a program of this session's (wip/lab) after the kit's print: Lean checks it.
import Derived.Test.YtamgmceogjgijaaDoorGx0
import Derived.Test.YtamgmceogjgijaaDoorGx2
import Derived.Test.YtamgmceogjgijaaDoorExt
namespace Go.Proofs.YtamgmceogjgijaaDoor.G
open Go.Proofs.YtamgmceogjgijaaDoor.Ext
open Go.RowKit Go.Proofs.YtamgmceogjgijaaDoorW.PrintWords Go.Proofs.YtamgmceogjgijaaDoorW.PrintLast Go.Proofs.YtamgmceogjgijaaDoorW.PrintMore
attribute [local go_sem] max2_int min2_int max_two min_two max_three min_three max_four min_four   -- for this text's walks alone
set_option linter.unusedVariables false
set_option linter.unusedSimpArgs false

/-! ### supercargolaw27_TokenPlaces: function 5 -/
mutual
def supercargolaw27_TokenPlaces.l0 : Nat → ByteArray → List (S31) → Int → Int → Option (Bool)
  | 0, _, _, _, _ => none
  | k + 1, x0, x3, x6, x7 => if x7 < (x3.length : Int) then (if 0 ≤ x7 then (if ((rd_T31 x3 x7).f0) = 3 then (supercargolaw27_TokenPlaces.j1 k x0 x3 x6 x7 (wrap64 ((((rd_T31 x3 x7).f2).size : Int) + 2))) else (supercargolaw27_TokenPlaces.j1 k x0 x3 x6 x7 (((rd_T31 x3 x7).f2).size : Int))) else (none)) else (some true)
def supercargolaw27_TokenPlaces.j1 : Nat → ByteArray → List (S31) → Int → Int → Int → Option (Bool)
  | 0, _, _, _, _, _ => none
  | k + 1, x0, x3, x6, x7, x8 => if 0 ≤ x7 then (if x7 < (x3.length : Int) then (if ((rd_T31 x3 x7).f1) < x6 then (supercargolaw27_TokenPlaces.j2 k x0 x3 x6 x7 x8 true) else (if (wrap64 (((rd_T31 x3 x7).f1) + x8)) > (x0.size : Int) then (supercargolaw27_TokenPlaces.j2 k x0 x3 x6 x7 x8 true) else (supercargolaw27_TokenPlaces.j2 k x0 x3 x6 x7 x8 (decide (x8 < 1))))) else (none)) else (none)
def supercargolaw27_TokenPlaces.j2 : Nat → ByteArray → List (S31) → Int → Int → Int → Bool → Option (Bool)
  | 0, _, _, _, _, _, _ => none
  | k + 1, x0, x3, x6, x7, x8, x66 => if x66 = true then (some false) else (supercargolaw27_TokenPlaces.l1 k x0 x3 x7 x8 x6)
def supercargolaw27_TokenPlaces.l1 : Nat → ByteArray → List (S31) → Int → Int → Int → Option (Bool)
  | 0, _, _, _, _, _ => none
  | k + 1, x0, x3, x7, x8, x9 => if 0 ≤ x7 then (if x7 < (x3.length : Int) then (if x9 < ((rd_T31 x3 x7).f1) then (if 0 ≤ x9 then (if x9 < (x0.size : Int) then (if (bt x0 x9) = 32 then (supercargolaw27_TokenPlaces.l1 k x0 x3 x7 x8 (wrap64 (x9 + 1))) else (if (bt x0 x9) = 10 then (supercargolaw27_TokenPlaces.l1 k x0 x3 x7 x8 (wrap64 (x9 + 1))) else (some false))) else (none)) else (none)) else (if 0 ≤ ((rd_T31 x3 x7).f1) then (if ((rd_T31 x3 x7).f1) ≤ (wrap64 (((rd_T31 x3 x7).f1) + x8)) then (if (wrap64 (((rd_T31 x3 x7).f1) + x8)) ≤ (x0.size : Int) then (if ((rd_T31 x3 x7).f0) = 3 then (if 1 + ((rd_T31 x3 x7).f2).size ≤ 9223372036854775807 then (if ((⟨#[34]⟩ : ByteArray) ++ ((rd_T31 x3 x7).f2)).size + 1 ≤ 9223372036854775807 then (if (x0.extract (((rd_T31 x3 x7).f1) : Int).toNat ((wrap64 (((rd_T31 x3 x7).f1) + x8)) : Int).toNat).toList = (((⟨#[34]⟩ : ByteArray) ++ ((rd_T31 x3 x7).f2)) ++ (⟨#[34]⟩ : ByteArray)).toList then (supercargolaw27_TokenPlaces.l0 k x0 x3 (wrap64 (((rd_T31 x3 x7).f1) + x8)) (wrap64 (x7 + 1))) else (some false)) else (none)) else (none)) else (if (x0.extract (((rd_T31 x3 x7).f1) : Int).toNat ((wrap64 (((rd_T31 x3 x7).f1) + x8)) : Int).toNat).toList = ((rd_T31 x3 x7).f2).toList then (supercargolaw27_TokenPlaces.l0 k x0 x3 (wrap64 (((rd_T31 x3 x7).f1) + x8)) (wrap64 (x7 + 1))) else (some false))) else (none)) else (none)) else (none))) else (none)) else (none)
end
def supercargolaw27_TokenPlaces.f (k : Nat) (a0 : ByteArray) : Option (Bool) := (supercargolaw27_awake.f k).bind fun t216 => (if t216 = true then (if (a0.size : Int) > 3000 then (some true) else ((token_Scan.f k a0).bind fun bt217 => (if bt217.2.2 = 0 then (supercargolaw27_TokenPlaces.l0 k a0 bt217.1 0 0) else (some true)))) else (some false))
theorem supercargolaw27_TokenPlaces.mono_l : ∀ k, (∀ y0 y1 y2 y3, LeO (supercargolaw27_TokenPlaces.l0 k y0 y1 y2 y3) (supercargolaw27_TokenPlaces.l0 (k + 1) y0 y1 y2 y3)) ∧ (∀ y0 y1 y2 y3 y4, LeO (supercargolaw27_TokenPlaces.j1 k y0 y1 y2 y3 y4) (supercargolaw27_TokenPlaces.j1 (k + 1) y0 y1 y2 y3 y4)) ∧ (∀ y0 y1 y2 y3 y4 y5, LeO (supercargolaw27_TokenPlaces.j2 k y0 y1 y2 y3 y4 y5) (supercargolaw27_TokenPlaces.j2 (k + 1) y0 y1 y2 y3 y4 y5)) ∧ (∀ y0 y1 y2 y3 y4, LeO (supercargolaw27_TokenPlaces.l1 k y0 y1 y2 y3 y4) (supercargolaw27_TokenPlaces.l1 (k + 1) y0 y1 y2 y3 y4))
  | 0 => ⟨fun _ _ _ _ r h => by simp [supercargolaw27_TokenPlaces.l0] at h, fun _ _ _ _ _ r h => by simp [supercargolaw27_TokenPlaces.j1] at h, fun _ _ _ _ _ _ r h => by simp [supercargolaw27_TokenPlaces.j2] at h, fun _ _ _ _ _ r h => by simp [supercargolaw27_TokenPlaces.l1] at h⟩
  | k + 1 => by
    obtain ⟨ih0, ih1, ih2, ih3⟩ := supercargolaw27_TokenPlaces.mono_l k
    refine ⟨?_, ?_, ?_, ?_⟩
    · intro y0 y1 y2 y3
      unfold supercargolaw27_TokenPlaces.l0
      repeat' first
      | (with_reducible exact ih0 _ _ _ _)
      | (with_reducible exact ih1 _ _ _ _ _)
      | (with_reducible exact ih2 _ _ _ _ _ _)
      | (with_reducible exact ih3 _ _ _ _ _)
      | (with_reducible exact supercargolaw27_awake.mono _)
      | (with_reducible exact token_Scan.mono _ _)
      | (with_reducible exact LeO.refl _)
      | (with_reducible exact LeO.none _)
      | (with_reducible refine LeO.ite ?_ ?_)
      | (with_reducible refine LeO.bind ?_ (fun _ => ?_))
      | exact ih0 _ _ _ _
      | exact ih1 _ _ _ _ _
      | exact ih2 _ _ _ _ _ _
      | exact ih3 _ _ _ _ _
      | exact supercargolaw27_awake.mono _
      | exact token_Scan.mono _ _
      | exact LeO.none _
      | refine LeO.ite ?_ ?_
      | refine LeO.bind ?_ (fun _ => ?_)
    · intro y0 y1 y2 y3 y4
      unfold supercargolaw27_TokenPlaces.j1
      repeat' first
      | (with_reducible exact ih0 _ _ _ _)
      | (with_reducible exact ih1 _ _ _ _ _)
      | (with_reducible exact ih2 _ _ _ _ _ _)
      | (with_reducible exact ih3 _ _ _ _ _)
      | (with_reducible exact supercargolaw27_awake.mono _)
      | (with_reducible exact token_Scan.mono _ _)
      | (with_reducible exact LeO.refl _)
      | (with_reducible exact LeO.none _)
      | (with_reducible refine LeO.ite ?_ ?_)
      | (with_reducible refine LeO.bind ?_ (fun _ => ?_))
      | exact ih0 _ _ _ _
      | exact ih1 _ _ _ _ _
      | exact ih2 _ _ _ _ _ _
      | exact ih3 _ _ _ _ _
      | exact supercargolaw27_awake.mono _
      | exact token_Scan.mono _ _
      | exact LeO.none _
      | refine LeO.ite ?_ ?_
      | refine LeO.bind ?_ (fun _ => ?_)
    · intro y0 y1 y2 y3 y4 y5
      unfold supercargolaw27_TokenPlaces.j2
      repeat' first
      | (with_reducible exact ih0 _ _ _ _)
      | (with_reducible exact ih1 _ _ _ _ _)
      | (with_reducible exact ih2 _ _ _ _ _ _)
      | (with_reducible exact ih3 _ _ _ _ _)
      | (with_reducible exact supercargolaw27_awake.mono _)
      | (with_reducible exact token_Scan.mono _ _)
      | (with_reducible exact LeO.refl _)
      | (with_reducible exact LeO.none _)
      | (with_reducible refine LeO.ite ?_ ?_)
      | (with_reducible refine LeO.bind ?_ (fun _ => ?_))
      | exact ih0 _ _ _ _
      | exact ih1 _ _ _ _ _
      | exact ih2 _ _ _ _ _ _
      | exact ih3 _ _ _ _ _
      | exact supercargolaw27_awake.mono _
      | exact token_Scan.mono _ _
      | exact LeO.none _
      | refine LeO.ite ?_ ?_
      | refine LeO.bind ?_ (fun _ => ?_)
    · intro y0 y1 y2 y3 y4
      unfold supercargolaw27_TokenPlaces.l1
      repeat' first
      | (with_reducible exact ih0 _ _ _ _)
      | (with_reducible exact ih1 _ _ _ _ _)
      | (with_reducible exact ih2 _ _ _ _ _ _)
      | (with_reducible exact ih3 _ _ _ _ _)
      | (with_reducible exact supercargolaw27_awake.mono _)
      | (with_reducible exact token_Scan.mono _ _)
      | (with_reducible exact LeO.refl _)
      | (with_reducible exact LeO.none _)
      | (with_reducible refine LeO.ite ?_ ?_)
      | (with_reducible refine LeO.bind ?_ (fun _ => ?_))
      | exact ih0 _ _ _ _
      | exact ih1 _ _ _ _ _
      | exact ih2 _ _ _ _ _ _
      | exact ih3 _ _ _ _ _
      | exact supercargolaw27_awake.mono _
      | exact token_Scan.mono _ _
      | exact LeO.none _
      | refine LeO.ite ?_ ?_
      | refine LeO.bind ?_ (fun _ => ?_)
theorem supercargolaw27_TokenPlaces.mono : ∀ a0 k, LeO (supercargolaw27_TokenPlaces.f k a0) (supercargolaw27_TokenPlaces.f (k + 1) a0) := by
  intro a0 k
  obtain ⟨ih0, ih1, ih2, ih3⟩ := supercargolaw27_TokenPlaces.mono_l k
  unfold supercargolaw27_TokenPlaces.f
  repeat' first
      | (with_reducible exact ih0 _ _ _ _)
      | (with_reducible exact ih1 _ _ _ _ _)
      | (with_reducible exact ih2 _ _ _ _ _ _)
      | (with_reducible exact ih3 _ _ _ _ _)
      | (with_reducible exact supercargolaw27_awake.mono _)
      | (with_reducible exact token_Scan.mono _ _)
      | (with_reducible exact LeO.refl _)
      | (with_reducible exact LeO.none _)
      | (with_reducible refine LeO.ite ?_ ?_)
      | (with_reducible refine LeO.bind ?_ (fun _ => ?_))
      | exact ih0 _ _ _ _
      | exact ih1 _ _ _ _ _
      | exact ih2 _ _ _ _ _ _
      | exact ih3 _ _ _ _ _
      | exact supercargolaw27_awake.mono _
      | exact token_Scan.mono _ _
      | exact LeO.none _
      | refine LeO.ite ?_ ?_
      | refine LeO.bind ?_ (fun _ => ?_)
set_option maxHeartbeats 8000000 in
set_option maxRecDepth 100000 in
theorem supercargolaw27_TokenPlaces.calls (k : Nat) (a0 : ByteArray) (r : Bool) (w : World) (hG : Gl w) (h : supercargolaw27_TokenPlaces.f k a0 = some r) :
    Calls Tryd.prog 5 #[.string a0] w fun e w' => e = .returned (.bool r) ∧ Below w.heap.size w w' := by
  have HB := Aside0.mk (Below.refl w.heap.size w)
  have H : ((supercargolaw27_awake.f k).bind fun t216 => (if t216 = true then (if (a0.size : Int) > 3000 then (some true) else ((token_Scan.f k a0).bind fun bt217 => (if bt217.2.2 = 0 then (supercargolaw27_TokenPlaces.l0 k a0 bt217.1 0 0) else (some true)))) else (some false))) = some r := h
  clear h
  replace H := Option.bind_eq_some_iff.mp H
  obtain ⟨t216, A20, H⟩ := H
  replace H : (if t216 = true then (if (a0.size : Int) > 3000 then (some true) else ((token_Scan.f k a0).bind fun bt217 => (if bt217.2.2 = 0 then (supercargolaw27_TokenPlaces.l0 k a0 bt217.1 0 0) else (some true)))) else (some false)) = some r := H
  have A2 := Aside0.mk A20
  clear A20
  by_cases c3 : t216 = true
  · subst c3
    have H1 : (if (a0.size : Int) > 3000 then (some true) else ((token_Scan.f k a0).bind fun bt217 => (if bt217.2.2 = 0 then (supercargolaw27_TokenPlaces.l0 k a0 bt217.1 0 0) else (some true)))) = some r := by rw [if_pos rfl] at H; exact H
    clear H
    have H := H1
    clear H1
    by_cases c4 : (a0.size : Int) > 3000
    · rw [if_pos c4] at H
      have c4b0 : decide (3000 < (a0.size : Int)) = true := decide_eq_true c4
      have c4b1 : decide (3000 < a0.size) = true := decide_eq_true (by omega)
      clear c4
      obtain rfl := Option.some.inj H
      go_enter Tryd.func5, Tryd.ntmps5
      go_wp2_with (first | ((with_reducible refine gate_callee (f := 10) rfl ?_); refine goesL_ (some 11) rfl rfl Tryd.func10 (by kernel_rfl) rfl #[] rfl (by (try simp only [List.map_toArray, List.map_cons, List.map_nil]); first | done | rfl | (simp only [List.length_drop, List.length_take]; rfl)) ?_; (with_reducible refine (supercargolaw27_awake.calls k  true _ ?side1 A2.out).mono ?_); (case side1 => exact Gl.below hG (by repeat (first | (with_reducible first | exact HB.out | apply below_alloc | apply pw_below_drewN | apply below_drew1) | exact HB.out))); rintro e w5 ⟨rfl, hb⟩; refine ⟨_, rfl, ?_⟩; have n0_ := Aside0.mk (below_step (by repeat (first | (with_reducible first | exact HB.out | apply below_alloc | apply pw_below_drewN | apply below_drew1) | exact HB.out)) hb); clear HB; have HB := n0_; clear n0_; (try clear hb); (try clear hb2); (try clear hk); (try clear hi)))
      go_ret
      exact ⟨by first | rfl | (simp [errW_none, errW_some] <;> rfl) | (simp [*, errW_none, errW_some] <;> rfl), by repeat (first | (with_reducible first | exact HB.out | apply below_alloc | apply pw_below_drewN | apply below_drew1) | exact HB.out)⟩
    · rw [if_neg c4] at H
      have c4b0 : decide (3000 < (a0.size : Int)) = false := decide_eq_false c4
      have c4b1 : decide (3000 < a0.size) = false := decide_eq_false (by omega)
      clear c4
      replace H := Option.bind_eq_some_iff.mp H
      obtain ⟨⟨t217, t218, t219⟩, A60, H⟩ := H
      replace H : (if t219 = 0 then (supercargolaw27_TokenPlaces.l0 k a0 t217 0 0) else (some true)) = some r := H
      have A6 := Aside0.mk A60
      clear A60
      by_cases c7 : t219 = 0
      · rw [if_pos c7] at H
        have c7b0 : (t219 == 0) = true := beq_iff_eq.mpr c7
        have c7b1 : (t219 != 0) = false := bne_eq_false_iff_eq.mpr c7
        clear c7
        have H' := Aside0.mk H
        clear H
        go_enter Tryd.func5, Tryd.ntmps5
        go_wp2_with (first | ((with_reducible refine gate_callee (f := 10) rfl ?_); refine goesL_ (some 11) rfl rfl Tryd.func10 (by kernel_rfl) rfl #[] rfl (by (try simp only [List.map_toArray, List.map_cons, List.map_nil]); first | done | rfl | (simp only [List.length_drop, List.length_take]; rfl)) ?_; (with_reducible refine (supercargolaw27_awake.calls k  true _ ?side1 A2.out).mono ?_); (case side1 => exact Gl.below hG (by repeat (first | (with_reducible first | exact HB.out | apply below_alloc | apply pw_below_drewN | apply below_drew1) | exact HB.out))); rintro e w8 ⟨rfl, hb⟩; refine ⟨_, rfl, ?_⟩; have n0_ := Aside0.mk (below_step (by repeat (first | (with_reducible first | exact HB.out | apply below_alloc | apply pw_below_drewN | apply below_drew1) | exact HB.out)) hb); clear HB; have HB := n0_; clear n0_; (try clear hb); (try clear hb2); (try clear hk); (try clear hi)) | ((with_reducible refine gate_callee (f := 11) rfl ?_); refine goesL_ (some 18) rfl rfl Tryd.func11 (by kernel_rfl) rfl #[.string a0] rfl (by (try simp only [List.map_toArray, List.map_cons, List.map_nil]); first | done | rfl | (simp only [List.length_drop, List.length_take]; rfl)) ?_; (with_reducible refine (token_Scan.calls k a0 t217 t218 t219 _ ?side1 A6.out).mono ?_); (case side1 => exact Gl.below hG (by repeat (first | (with_reducible first | exact HB.out | apply below_alloc | apply pw_below_drewN | apply below_drew1) | exact HB.out))); rintro e w9 ⟨v220, rfl, ho0, hb⟩; refine ⟨_, rfl, ?_⟩; have n0_ := Aside0.mk (Kd.R_lower ho0 (below_size (by repeat (first | (with_reducible first | exact HB.out | apply below_alloc | apply pw_below_drewN | apply below_drew1) | exact HB.out)))); have n1_ := Aside0.mk (below_step (by repeat (first | (with_reducible first | exact HB.out | apply below_alloc | apply pw_below_drewN | apply below_drew1) | exact HB.out)) hb); clear HB; have HO221 := n0_; have HB := n1_; clear n0_ n1_; (try clear hb); (try clear hb2); (try clear hk); (try clear hi); (try clear ho0)))
        go_loopg [6, 7] k (fun kq v6 v7 w' => ∃ (x6_1 : Int) (x7_1 : Int), v6 = .int .i64 x6_1 ∧ v7 = .int .i64 x7_1 ∧ Aside0 (supercargolaw27_TokenPlaces.l0 kq a0 t217 x6_1 x7_1 = some r) ∧ Aside0 (kq ≤ k) ∧ Aside0 (Kd.R k31 31 w' w.heap.size (fun _ => True) v220 t217) ∧ Aside0 (Below w.heap.size w w'))
        case atStart => exact ⟨(0), (0), (by first | rfl | (simp; done) | (simp [*]; done)), (by first | rfl | (simp; done) | (simp [*]; done)), H', ⟨Nat.le_refl _⟩, ⟨by (with_reducible repeat (first | apply Kd.R_alloc | apply Kd.R_drewN | apply Kd.R_drew)); exact HO221.out⟩, ⟨by repeat (first | (with_reducible first | exact HB.out | apply below_alloc | apply pw_below_drewN | apply below_drew1) | exact HB.out)⟩⟩
        case round =>
          clear H'
          try clear c1
          try clear p2
          try clear c3
          try clear c4
          try clear c4b0
          try clear c4b1
          try clear c5
          try clear c7
          try clear c7b0
          try clear c7b1
          obtain ⟨x6_1, x7_1, rfl, rfl, HA, HK1, HO_3, HB⟩ := hrel
          cases gk with
          | zero => exact absurd HA.out (by simp [supercargolaw27_TokenPlaces.l0])
          | succ k1 =>
            have H := HA.out
            clear HA
            simp only [supercargolaw27_TokenPlaces.l0] at H
            by_cases c10 : x7_1 < (t217.length : Int)
            · rw [if_pos c10] at H
              have c10b0 : decide (x7_1 < (t217.length : Int)) = true := decide_eq_true c10
              clear c10
              by_cases c11 : 0 ≤ x7_1
              · rw [if_pos c11] at H
                have c11b0 : decide (0 ≤ x7_1) = true := decide_eq_true c11
                clear c11
                have HC12 := Aside0.mk H
                clear H
                obtain ⟨Ao13, co13, eo13⟩ := Kd.R_slice HO_3.out
                subst eo13
                have p222 : 0 ≤ (x7_1 : Int) := of_decide_eq_true (by first | (with_reducible assumption) | assumption)
                have q222 : x7_1 < (t217.length : Int) := of_decide_eq_true (by first | (with_reducible assumption) | assumption)
                obtain ⟨ad222, e222, hx222_0, hx222_1, hx222_2⟩ := at_T31 (Kd.R_reads' HO_3.out).2.2 x7_1 p222 q222
                cases e222
                replace p222 := eq_true p222
                replace q222 := eq_true q222
                have p223 : 0 ≤ (x7_1 : Int) := of_decide_eq_true (by first | (with_reducible assumption) | assumption)
                have q223 : x7_1 < (t217.length : Int) := of_decide_eq_true (by first | (with_reducible assumption) | assumption)
                obtain ⟨ad223, e223, hx223_0, hx223_1, hx223_2⟩ := at_T31 (Kd.R_reads' HO_3.out).2.2 x7_1 p223 q223
                obtain rfl : ad222 = ad223 := (by injection e223)
                replace p223 := eq_true p223
                replace q223 := eq_true q223
                go_upto_if 41 with (fail)
                go_cut [8] (fun v8 wc => ∃ (kq : Nat) (x8_11 : Int), v8 = .int .i64 x8_11 ∧ Aside0 (supercargolaw27_TokenPlaces.j1 kq a0 t217 x6_1 x7_1 x8_11 = some r) ∧ Aside0 (kq ≤ k1) ∧ Aside0 (Kd.R k31 31 wc w.heap.size (fun _ => True) (.slice (some ad222) t217.length co13) t217) ∧ Aside0 (Below w.heap.size w wc))
                case first =>
                  have H := HC12.out
                  clear HC12
                  by_cases c14 : ((rd_T31 t217 x7_1).f0) = 3
                  · rw [if_pos c14] at H
                    have c14b0 : (((rd_T31 t217 x7_1).f0) == 3) = true := beq_iff_eq.mpr c14
                    have c14b1 : (((rd_T31 t217 x7_1).f0) != 3) = false := bne_eq_false_iff_eq.mpr c14
                    clear c14
                    (first | rw [c14b0] | (simp only [i64_w, i32_w]; rw [c14b0]) | skip)
                    have H' := Aside0.mk H
                    clear H
                    go_wp2
                    go_meet
                    case rel => exact ⟨_, (wrap64 ((((rd_T31 t217 x7_1).f2).size : Int) + 2)), (by first | rfl | (simp; done) | (simp [*]; done)), H', ⟨by have := HK1.out; first | omega | exact Nat.le_refl _⟩, ⟨by (with_reducible repeat (first | apply Kd.R_alloc | apply Kd.R_drewN | apply Kd.R_drew)); exact HO_3.out⟩, ⟨by repeat (first | (with_reducible first | exact HB.out | apply below_alloc | apply pw_below_drewN | apply below_drew1) | exact HB.out)⟩⟩
                  · rw [if_neg c14] at H
                    have c14b0 : (((rd_T31 t217 x7_1).f0) == 3) = false := beq_eq_false_iff_ne.mpr c14
                    have c14b1 : (((rd_T31 t217 x7_1).f0) != 3) = true := bne_iff_ne.mpr c14
                    (first | rw [c14b0] | (simp only [i64_w, i32_w]; rw [c14b0]) | skip)
                    have H' := Aside0.mk H
                    clear H
                    go_wp2
                    go_meet
                    case rel => exact ⟨_, ((((rd_T31 t217 x7_1).f2).size : Int)), (by first | rfl | (simp; done) | (simp [*]; done)), H', ⟨by have := HK1.out; first | omega | exact Nat.le_refl _⟩, ⟨by (with_reducible repeat (first | apply Kd.R_alloc | apply Kd.R_drewN | apply Kd.R_drew)); exact HO_3.out⟩, ⟨by repeat (first | (with_reducible first | exact HB.out | apply below_alloc | apply pw_below_drewN | apply below_drew1) | exact HB.out)⟩⟩
                case rest =>
                  clear HC12
                  try clear c1
                  try clear p2
                  try clear q2
                  try clear hx2
                  try clear c3
                  try clear c4
                  try clear c4b0
                  try clear c4b1
                  try clear c5
                  try clear p6
                  try clear c7
                  try clear c7b0
                  try clear c7b1
                  try clear c10
                  try clear c10b0
                  try clear c11
                  try clear c11b0
                  try clear c14
                  try clear c14b0
                  try clear c14b1
                  try clear hx222_0
                  try clear hx222_1
                  try clear hx222_2
                  try clear hx223_0
                  try clear hx223_1
                  try clear hx223_2
                  try clear p2
                  try clear p222
                  try clear p223
                  try clear q222
                  try clear q223
                  obtain ⟨kq, x8_11, rfl, HA, HJ11, HO_3, HB⟩ := hcut
                  cases kq with
                  | zero => exact absurd HA.out (by simp [supercargolaw27_TokenPlaces.j1])
                  | succ kj11 =>
                    have H := HA.out
                    clear HA
                    simp only [supercargolaw27_TokenPlaces.j1] at H
                    have HC15 := Aside0.mk H
                    clear H
                    go_upto_region 15 with (fail)
                    go_cut [66] (fun v66 wc => ∃ (kq : Nat) (x66_14 : Bool), v66 = .bool x66_14 ∧ Aside0 (supercargolaw27_TokenPlaces.j2 kq a0 t217 x6_1 x7_1 x8_11 x66_14 = some r) ∧ Aside0 (kq ≤ kj11) ∧ Aside0 (Kd.R k31 31 wc w.heap.size (fun _ => True) (.slice (some ad222) t217.length co13) t217) ∧ Aside0 (Below w.heap.size w wc))
                    case first =>
                      have H := HC15.out
                      clear HC15
                      by_cases c16 : 0 ≤ x7_1
                      · rw [if_pos c16] at H
                        have c16b0 : decide (0 ≤ x7_1) = true := decide_eq_true c16
                        clear c16
                        (first | rw [c16b0] | (simp only [i64_w, i32_w]; rw [c16b0]) | skip)
                        by_cases c17 : x7_1 < (t217.length : Int)
                        · rw [if_pos c17] at H
                          have c17b0 : decide (x7_1 < (t217.length : Int)) = true := decide_eq_true c17
                          clear c17
                          by_cases c18 : ((rd_T31 t217 x7_1).f1) < x6_1
                          · rw [if_pos c18] at H
                            have c18b0 : decide (((rd_T31 t217 x7_1).f1) < x6_1) = true := decide_eq_true c18
                            clear c18
                            have H' := Aside0.mk H
                            clear H
                            have p224 : 0 ≤ (x7_1 : Int) := of_decide_eq_true (by first | (with_reducible assumption) | assumption)
                            have q224 : x7_1 < (t217.length : Int) := of_decide_eq_true (by first | (with_reducible assumption) | assumption)
                            obtain ⟨ad224, e224, hx224_0, hx224_1, hx224_2⟩ := at_T31 (Kd.R_reads' HO_3.out).2.2 x7_1 p224 q224
                            obtain rfl : ad222 = ad224 := (by injection e224)
                            replace p224 := eq_true p224
                            replace q224 := eq_true q224
                            go_wp2
                            go_meet
                            case rel => exact ⟨_, (true), (by first | rfl | (simp; done) | (simp [*]; done)), H', ⟨by have := HK1.out; have := HJ11.out; first | omega | exact Nat.le_refl _⟩, ⟨by (with_reducible repeat (first | apply Kd.R_alloc | apply Kd.R_drewN | apply Kd.R_drew)); exact HO_3.out⟩, ⟨by repeat (first | (with_reducible first | exact HB.out | apply below_alloc | apply pw_below_drewN | apply below_drew1) | exact HB.out)⟩⟩
                          · rw [if_neg c18] at H
                            have c18b0 : decide (((rd_T31 t217 x7_1).f1) < x6_1) = false := decide_eq_false c18
                            clear c18
                            by_cases c19 : (wrap64 (((rd_T31 t217 x7_1).f1) + x8_11)) > (a0.size : Int)
                            · rw [if_pos c19] at H
                              have c19b0 : decide ((a0.size : Int) < (wrap64 (((rd_T31 t217 x7_1).f1) + x8_11))) = true := decide_eq_true c19
                              clear c19
                              have H' := Aside0.mk H
                              clear H
                              have p224 : 0 ≤ (x7_1 : Int) := of_decide_eq_true (by first | (with_reducible assumption) | assumption)
                              have q224 : x7_1 < (t217.length : Int) := of_decide_eq_true (by first | (with_reducible assumption) | assumption)
                              obtain ⟨ad224, e224, hx224_0, hx224_1, hx224_2⟩ := at_T31 (Kd.R_reads' HO_3.out).2.2 x7_1 p224 q224
                              obtain rfl : ad222 = ad224 := (by injection e224)
                              replace p224 := eq_true p224
                              replace q224 := eq_true q224
                              have p225 : 0 ≤ (x7_1 : Int) := of_decide_eq_true (by first | (with_reducible assumption) | assumption)
                              have q225 : x7_1 < (t217.length : Int) := of_decide_eq_true (by first | (with_reducible assumption) | assumption)
                              obtain ⟨ad225, e225, hx225_0, hx225_1, hx225_2⟩ := at_T31 (Kd.R_reads' HO_3.out).2.2 x7_1 p225 q225
                              obtain rfl : ad222 = ad225 := (by injection e225)
                              replace p225 := eq_true p225
                              replace q225 := eq_true q225
                              go_wp2
                              go_meet
                              case rel => exact ⟨_, (true), (by first | rfl | (simp; done) | (simp [*]; done)), H', ⟨by have := HK1.out; have := HJ11.out; first | omega | exact Nat.le_refl _⟩, ⟨by (with_reducible repeat (first | apply Kd.R_alloc | apply Kd.R_drewN | apply Kd.R_drew)); exact HO_3.out⟩, ⟨by repeat (first | (with_reducible first | exact HB.out | apply below_alloc | apply pw_below_drewN | apply below_drew1) | exact HB.out)⟩⟩
                            · rw [if_neg c19] at H
                              have c19b0 : decide ((a0.size : Int) < (wrap64 (((rd_T31 t217 x7_1).f1) + x8_11))) = false := decide_eq_false c19
                              clear c19
                              have H' := Aside0.mk H
                              clear H
                              have p224 : 0 ≤ (x7_1 : Int) := of_decide_eq_true (by first | (with_reducible assumption) | assumption)
                              have q224 : x7_1 < (t217.length : Int) := of_decide_eq_true (by first | (with_reducible assumption) | assumption)
                              obtain ⟨ad224, e224, hx224_0, hx224_1, hx224_2⟩ := at_T31 (Kd.R_reads' HO_3.out).2.2 x7_1 p224 q224
                              obtain rfl : ad222 = ad224 := (by injection e224)
                              replace p224 := eq_true p224
                              replace q224 := eq_true q224
                              have p225 : 0 ≤ (x7_1 : Int) := of_decide_eq_true (by first | (with_reducible assumption) | assumption)
                              have q225 : x7_1 < (t217.length : Int) := of_decide_eq_true (by first | (with_reducible assumption) | assumption)
                              obtain ⟨ad225, e225, hx225_0, hx225_1, hx225_2⟩ := at_T31 (Kd.R_reads' HO_3.out).2.2 x7_1 p225 q225
                              obtain rfl : ad222 = ad225 := (by injection e225)
                              replace p225 := eq_true p225
                              replace q225 := eq_true q225
                              go_wp2
                              go_meet
                              case rel => exact ⟨_, (decide (x8_11 < 1)), (by first | rfl | (simp; done) | (simp [*]; done)), H', ⟨by have := HK1.out; have := HJ11.out; first | omega | exact Nat.le_refl _⟩, ⟨by (with_reducible repeat (first | apply Kd.R_alloc | apply Kd.R_drewN | apply Kd.R_drew)); exact HO_3.out⟩, ⟨by repeat (first | (with_reducible first | exact HB.out | apply below_alloc | apply pw_below_drewN | apply below_drew1) | exact HB.out)⟩⟩
                        · rw [if_neg c17] at H
                          exact absurd H (by simp)
                      · rw [if_neg c16] at H
                        exact absurd H (by simp)
                    case rest =>
                      clear HC15
                      try clear c1
                      try clear p2
                      try clear q2
                      try clear hx2
                      try clear c3
                      try clear c4
                      try clear c4b0
                      try clear c4b1
                      try clear c5
                      try clear p6
                      try clear c7
                      try clear c7b0
                      try clear c7b1
                      try clear c10
                      try clear c10b0
                      try clear c11
                      try clear c11b0
                      try clear c14
                      try clear c14b0
                      try clear c14b1
                      try clear c16
                      try clear c16b0
                      try clear c17
                      try clear c17b0
                      try clear c18
                      try clear c18b0
                      try clear c19
                      try clear c19b0
                      try clear hx222_0
                      try clear hx222_1
                      try clear hx222_2
                      try clear hx223_0
                      try clear hx223_1
                      try clear hx223_2
                      try clear hx224_0
                      try clear hx224_1
                      try clear hx224_2
                      try clear hx225_0
                      try clear hx225_1
                      try clear hx225_2
                      try clear p2
                      try clear p222
                      try clear p223
                      try clear p224
                      try clear p225
                      try clear p6
                      try clear q2
                      try clear q222
                      try clear q223
                      try clear q224
                      try clear q225
                      obtain ⟨kq, x66_14, rfl, HA, HJ14, HO_3, HB⟩ := hcut
                      cases kq with
                      | zero => exact absurd HA.out (by simp [supercargolaw27_TokenPlaces.j2])
                      | succ kj14 =>
                        have H := HA.out
                        clear HA
                        simp only [supercargolaw27_TokenPlaces.j2] at H
                        by_cases c20 : x66_14 = true
                        · subst c20
                          have H1 : (some false) = some r := by rw [if_pos rfl] at H; exact H
                          clear H
                          have H := H1
                          clear H1
                          obtain rfl := Option.some.inj H
                          go_wp2
                          go_ret
                          exact ⟨by first | rfl | (simp [errW_none, errW_some] <;> rfl) | (simp [*, errW_none, errW_some] <;> rfl), by repeat (first | (with_reducible first | exact HB.out | apply below_alloc | apply pw_below_drewN | apply below_drew1) | exact HB.out)⟩
                        · replace c20 := Bool.eq_false_iff.mpr c20
                          subst c20
                          have H1 : (supercargolaw27_TokenPlaces.l1 kj14 a0 t217 x7_1 x8_11 x6_1) = some r := by rw [if_neg (show ¬ (false = true) by decide)] at H; exact H
                          clear H
                          have H := H1
                          clear H1
                          have H' := Aside0.mk H
                          clear H
                          go_wp2
                          go_loopg [9] kj14 (fun kq v9 w' => ∃ (x9_4 : Int), v9 = .int .i64 x9_4 ∧ Aside0 (supercargolaw27_TokenPlaces.l1 kq a0 t217 x7_1 x8_11 x9_4 = some r) ∧ Aside0 (kq ≤ kj14) ∧ Aside0 (Kd.R k31 31 w' w.heap.size (fun _ => True) (.slice (some ad222) t217.length co13) t217) ∧ Aside0 (Below w.heap.size w w'))
                          case atStart => exact ⟨(x6_1), (by first | rfl | (simp; done) | (simp [*]; done)), H', ⟨Nat.le_refl _⟩, ⟨by (with_reducible repeat (first | apply Kd.R_alloc | apply Kd.R_drewN | apply Kd.R_drew)); exact HO_3.out⟩, ⟨by repeat (first | (with_reducible first | exact HB.out | apply below_alloc | apply pw_below_drewN | apply below_drew1) | exact HB.out)⟩⟩
                          case round =>
                            clear H'
                            try clear c1
                            try clear c2
                            try clear p2
                            try clear q2
                            try clear hx2
                            try clear c3
                            try clear c4
                            try clear c4b0
                            try clear c4b1
                            try clear c5
                            try clear p6
                            try clear c7
                            try clear c7b0
                            try clear c7b1
                            try clear c10
                            try clear c10b0
                            try clear c11
                            try clear c11b0
                            try clear c14
                            try clear c14b0
                            try clear c14b1
                            try clear c16
                            try clear c16b0
                            try clear c17
                            try clear c17b0
                            try clear c18
                            try clear c18b0
                            try clear c19
                            try clear c19b0
                            try clear c20
                            try clear hx222_0
                            try clear hx222_1
                            try clear hx222_2
                            try clear hx223_0
                            try clear hx223_1
                            try clear hx223_2
                            try clear hx224_0
                            try clear hx224_1
                            try clear hx224_2
                            try clear hx225_0
                            try clear hx225_1
                            try clear hx225_2
                            try clear p2
                            try clear p222
                            try clear p223
                            try clear p224
                            try clear p225
                            try clear p6
                            try clear q2
                            try clear q222
                            try clear q223
                            try clear q224
                            try clear q225
                            obtain ⟨x9_4, rfl, HA, HK4, HO_3, HB⟩ := hrel
                            cases gk with
                            | zero => exact absurd HA.out (by simp [supercargolaw27_TokenPlaces.l1])
                            | succ k4 =>
                              have H := HA.out
                              clear HA
                              simp only [supercargolaw27_TokenPlaces.l1] at H
                              by_cases c21 : 0 ≤ x7_1
                              · rw [if_pos c21] at H
                                have c21b0 : decide (0 ≤ x7_1) = true := decide_eq_true c21
                                clear c21
                                by_cases c22 : x7_1 < (t217.length : Int)
                                · rw [if_pos c22] at H
                                  have c22b0 : decide (x7_1 < (t217.length : Int)) = true := decide_eq_true c22
                                  clear c22
                                  by_cases c23 : x9_4 < ((rd_T31 t217 x7_1).f1)
                                  · rw [if_pos c23] at H
                                    have c23b0 : decide (x9_4 < ((rd_T31 t217 x7_1).f1)) = true := decide_eq_true c23
                                    clear c23
                                    by_cases c24 : 0 ≤ x9_4
                                    · rw [if_pos c24] at H
                                      have c24b0 : decide (0 ≤ x9_4) = true := decide_eq_true c24
                                      clear c24
                                      by_cases c25 : x9_4 < (a0.size : Int)
                                      · rw [if_pos c25] at H
                                        have c25b0 : decide (x9_4 < (a0.size : Int)) = true := decide_eq_true c25
                                        clear c25
                                        by_cases c27 : (bt a0 x9_4) = 32
                                        · rw [if_pos c27] at H
                                          have c27b0 : ((bt a0 x9_4) == 32) = true := beq_iff_eq.mpr c27
                                          have c27b1 : ((bt a0 x9_4) != 32) = false := bne_eq_false_iff_eq.mpr c27
                                          clear c27
                                          have H' := Aside0.mk H
                                          clear H
                                          have p226 : 0 ≤ (x7_1 : Int) := of_decide_eq_true (by first | (with_reducible assumption) | assumption)
                                          have q226 : x7_1 < (t217.length : Int) := of_decide_eq_true (by first | (with_reducible assumption) | assumption)
                                          obtain ⟨ad226, e226, hx226_0, hx226_1, hx226_2⟩ := at_T31 (Kd.R_reads' HO_3.out).2.2 x7_1 p226 q226
                                          obtain rfl : ad222 = ad226 := (by injection e226)
                                          replace p226 := eq_true p226
                                          replace q226 := eq_true q226
                                          have p26 : 0 ≤ (x9_4 : Int) := of_decide_eq_true (by first | (with_reducible assumption) | assumption)
                                          have q26 : x9_4 < (a0.size : Int) := of_decide_eq_true (by first | (with_reducible assumption) | assumption)
                                          have hx26 := bt_at a0 x9_4
                                          replace p26 := eq_true p26
                                          replace q26 := eq_true q26
                                          go_wp2
                                          go_roundg k4
                                          case measure => have := HK1.out; have := HJ11.out; have := HJ14.out; have := HK4.out; omega
                                          case rel => exact ⟨(wrap64 (x9_4 + 1)), (by first | rfl | (simp; done) | (simp [*]; done)), H', ⟨by have := HK1.out; have := HJ11.out; have := HJ14.out; have := HK4.out; omega⟩, ⟨by (with_reducible repeat (first | apply Kd.R_alloc | apply Kd.R_drewN | apply Kd.R_drew)); exact HO_3.out⟩, ⟨by repeat (first | (with_reducible first | exact HB.out | apply below_alloc | apply pw_below_drewN | apply below_drew1) | exact HB.out)⟩⟩
                                        · rw [if_neg c27] at H
                                          have c27b0 : ((bt a0 x9_4) == 32) = false := beq_eq_false_iff_ne.mpr c27
                                          have c27b1 : ((bt a0 x9_4) != 32) = true := bne_iff_ne.mpr c27
                                          by_cases c29 : (bt a0 x9_4) = 10
                                          · rw [if_pos c29] at H
                                            have c29b0 : ((bt a0 x9_4) == 10) = true := beq_iff_eq.mpr c29
                                            have c29b1 : ((bt a0 x9_4) != 10) = false := bne_eq_false_iff_eq.mpr c29
                                            clear c29
                                            have H' := Aside0.mk H
                                            clear H
                                            have p226 : 0 ≤ (x7_1 : Int) := of_decide_eq_true (by first | (with_reducible assumption) | assumption)
                                            have q226 : x7_1 < (t217.length : Int) := of_decide_eq_true (by first | (with_reducible assumption) | assumption)
                                            obtain ⟨ad226, e226, hx226_0, hx226_1, hx226_2⟩ := at_T31 (Kd.R_reads' HO_3.out).2.2 x7_1 p226 q226
                                            obtain rfl : ad222 = ad226 := (by injection e226)
                                            replace p226 := eq_true p226
                                            replace q226 := eq_true q226
                                            have p26 : 0 ≤ (x9_4 : Int) := of_decide_eq_true (by first | (with_reducible assumption) | assumption)
                                            have q26 : x9_4 < (a0.size : Int) := of_decide_eq_true (by first | (with_reducible assumption) | assumption)
                                            have hx26 := bt_at a0 x9_4
                                            replace p26 := eq_true p26
                                            replace q26 := eq_true q26
                                            have p28 : 0 ≤ (x9_4 : Int) := of_decide_eq_true (by first | (with_reducible assumption) | assumption)
                                            have q28 : x9_4 < (a0.size : Int) := of_decide_eq_true (by first | (with_reducible assumption) | assumption)
                                            have hx28 := bt_at a0 x9_4
                                            replace p28 := eq_true p28
                                            replace q28 := eq_true q28
                                            go_wp2
                                            go_roundg k4
                                            case measure => have := HK1.out; have := HJ11.out; have := HJ14.out; have := HK4.out; omega
                                            case rel => exact ⟨(wrap64 (x9_4 + 1)), (by first | rfl | (simp; done) | (simp [*]; done)), H', ⟨by have := HK1.out; have := HJ11.out; have := HJ14.out; have := HK4.out; omega⟩, ⟨by (with_reducible repeat (first | apply Kd.R_alloc | apply Kd.R_drewN | apply Kd.R_drew)); exact HO_3.out⟩, ⟨by repeat (first | (with_reducible first | exact HB.out | apply below_alloc | apply pw_below_drewN | apply below_drew1) | exact HB.out)⟩⟩
                                          · rw [if_neg c29] at H
                                            have c29b0 : ((bt a0 x9_4) == 10) = false := beq_eq_false_iff_ne.mpr c29
                                            have c29b1 : ((bt a0 x9_4) != 10) = true := bne_iff_ne.mpr c29
                                            obtain rfl := Option.some.inj H
                                            have p226 : 0 ≤ (x7_1 : Int) := of_decide_eq_true (by first | (with_reducible assumption) | assumption)
                                            have q226 : x7_1 < (t217.length : Int) := of_decide_eq_true (by first | (with_reducible assumption) | assumption)
                                            obtain ⟨ad226, e226, hx226_0, hx226_1, hx226_2⟩ := at_T31 (Kd.R_reads' HO_3.out).2.2 x7_1 p226 q226
                                            obtain rfl : ad222 = ad226 := (by injection e226)
                                            replace p226 := eq_true p226
                                            replace q226 := eq_true q226
                                            have p26 : 0 ≤ (x9_4 : Int) := of_decide_eq_true (by first | (with_reducible assumption) | assumption)
                                            have q26 : x9_4 < (a0.size : Int) := of_decide_eq_true (by first | (with_reducible assumption) | assumption)
                                            have hx26 := bt_at a0 x9_4
                                            replace p26 := eq_true p26
                                            replace q26 := eq_true q26
                                            have p28 : 0 ≤ (x9_4 : Int) := of_decide_eq_true (by first | (with_reducible assumption) | assumption)
                                            have q28 : x9_4 < (a0.size : Int) := of_decide_eq_true (by first | (with_reducible assumption) | assumption)
                                            have hx28 := bt_at a0 x9_4
                                            replace p28 := eq_true p28
                                            replace q28 := eq_true q28
                                            go_wp2
                                            go_ret
                                            exact ⟨by first | rfl | (simp [errW_none, errW_some] <;> rfl) | (simp [*, errW_none, errW_some] <;> rfl), by repeat (first | (with_reducible first | exact HB.out | apply below_alloc | apply pw_below_drewN | apply below_drew1) | exact HB.out)⟩
                                      · rw [if_neg c25] at H
                                        exact absurd H (by simp)
                                    · rw [if_neg c24] at H
                                      exact absurd H (by simp)
                                  · rw [if_neg c23] at H
                                    have c23b0 : decide (x9_4 < ((rd_T31 t217 x7_1).f1)) = false := decide_eq_false c23
                                    clear c23
                                    by_cases c30 : 0 ≤ ((rd_T31 t217 x7_1).f1)
                                    · rw [if_pos c30] at H
                                      have c30b0 := eq_true c30
                                      have c30b1 : decide (0 ≤ ((rd_T31 t217 x7_1).f1)) = true := decide_eq_true c30
                                      clear c30
                                      by_cases c31 : ((rd_T31 t217 x7_1).f1) ≤ (wrap64 (((rd_T31 t217 x7_1).f1) + x8_11))
                                      · rw [if_pos c31] at H
                                        have c31b0 := eq_true c31
                                        have c31b1 : decide (((rd_T31 t217 x7_1).f1) ≤ (wrap64 (((rd_T31 t217 x7_1).f1) + x8_11))) = true := decide_eq_true c31
                                        by_cases c32 : (wrap64 (((rd_T31 t217 x7_1).f1) + x8_11)) ≤ (a0.size : Int)
                                        · rw [if_pos c32] at H
                                          have c32b0 := eq_true c32
                                          have c32b1 : decide ((wrap64 (((rd_T31 t217 x7_1).f1) + x8_11)) ≤ (a0.size : Int)) = true := decide_eq_true c32
                                          by_cases c33 : ((rd_T31 t217 x7_1).f0) = 3
                                          · rw [if_pos c33] at H
                                            have c33b0 : (((rd_T31 t217 x7_1).f0) == 3) = true := beq_iff_eq.mpr c33
                                            have c33b1 : (((rd_T31 t217 x7_1).f0) != 3) = false := bne_eq_false_iff_eq.mpr c33
                                            clear c33
                                            by_cases c34 : 1 + ((rd_T31 t217 x7_1).f2).size ≤ 9223372036854775807
                                            · rw [if_pos c34] at H
                                              have c34b0 := eq_true c34
                                              have c34b1 : decide (1 + ((rd_T31 t217 x7_1).f2).size ≤ 9223372036854775807) = true := decide_eq_true c34
                                              try have c34b2 : (9223372036854775807 < 1 + ((rd_T31 t217 x7_1).f2).size) = False := eq_false (Nat.not_lt.2 c34)
                                              by_cases c35 : ((⟨#[34]⟩ : ByteArray) ++ ((rd_T31 t217 x7_1).f2)).size + 1 ≤ 9223372036854775807
                                              · rw [if_pos c35] at H
                                                have c35b0 := eq_true c35
                                                have c35b1 : decide (((⟨#[34]⟩ : ByteArray) ++ ((rd_T31 t217 x7_1).f2)).size + 1 ≤ 9223372036854775807) = true := decide_eq_true c35
                                                try have c35b2 : (9223372036854775807 < ((⟨#[34]⟩ : ByteArray) ++ ((rd_T31 t217 x7_1).f2)).size + 1) = False := eq_false (Nat.not_lt.2 c35)
                                                try have c35b3 : (9223372036854775807 < 1 + (((rd_T31 t217 x7_1).f2)).size + 1) = False := eq_false (Nat.not_lt.2 (by have h_ := c35; rw [ByteArray.size_append] at h_; exact h_))
                                                by_cases c36 : (a0.extract (((rd_T31 t217 x7_1).f1) : Int).toNat ((wrap64 (((rd_T31 t217 x7_1).f1) + x8_11)) : Int).toNat).toList = (((⟨#[34]⟩ : ByteArray) ++ ((rd_T31 t217 x7_1).f2)) ++ (⟨#[34]⟩ : ByteArray)).toList
                                                · rw [if_pos c36] at H
                                                  have c36b0 : ((a0.extract (((rd_T31 t217 x7_1).f1) : Int).toNat ((wrap64 (((rd_T31 t217 x7_1).f1) + x8_11)) : Int).toNat).toList == (((⟨#[34]⟩ : ByteArray) ++ ((rd_T31 t217 x7_1).f2)) ++ (⟨#[34]⟩ : ByteArray)).toList) = true := beq_iff_eq.mpr c36
                                                  have c36b1 : ((a0.extract (((rd_T31 t217 x7_1).f1) : Int).toNat ((wrap64 (((rd_T31 t217 x7_1).f1) + x8_11)) : Int).toNat).toList != (((⟨#[34]⟩ : ByteArray) ++ ((rd_T31 t217 x7_1).f2)) ++ (⟨#[34]⟩ : ByteArray)).toList) = false := bne_eq_false_iff_eq.mpr c36
                                                  clear c36
                                                  have H' := Aside0.mk H
                                                  clear H
                                                  have p226 : 0 ≤ (x7_1 : Int) := of_decide_eq_true (by first | (with_reducible assumption) | assumption)
                                                  have q226 : x7_1 < (t217.length : Int) := of_decide_eq_true (by first | (with_reducible assumption) | assumption)
                                                  obtain ⟨ad226, e226, hx226_0, hx226_1, hx226_2⟩ := at_T31 (Kd.R_reads' HO_3.out).2.2 x7_1 p226 q226
                                                  obtain rfl : ad222 = ad226 := (by injection e226)
                                                  replace p226 := eq_true p226
                                                  replace q226 := eq_true q226
                                                  have p227 : 0 ≤ (x7_1 : Int) := of_decide_eq_true (by first | (with_reducible assumption) | assumption)
                                                  have q227 : x7_1 < (t217.length : Int) := of_decide_eq_true (by first | (with_reducible assumption) | assumption)
                                                  obtain ⟨ad227, e227, hx227_0, hx227_1, hx227_2⟩ := at_T31 (Kd.R_reads' HO_3.out).2.2 x7_1 p227 q227
                                                  obtain rfl : ad222 = ad227 := (by injection e227)
                                                  replace p227 := eq_true p227
                                                  replace q227 := eq_true q227
                                                  have p228 : 0 ≤ (x7_1 : Int) := of_decide_eq_true (by first | (with_reducible assumption) | assumption)
                                                  have q228 : x7_1 < (t217.length : Int) := of_decide_eq_true (by first | (with_reducible assumption) | assumption)
                                                  obtain ⟨ad228, e228, hx228_0, hx228_1, hx228_2⟩ := at_T31 (Kd.R_reads' HO_3.out).2.2 x7_1 p228 q228
                                                  obtain rfl : ad222 = ad228 := (by injection e228)
                                                  replace p228 := eq_true p228
                                                  replace q228 := eq_true q228
                                                  have p229 : 0 ≤ (x7_1 : Int) := of_decide_eq_true (by first | (with_reducible assumption) | assumption)
                                                  have q229 : x7_1 < (t217.length : Int) := of_decide_eq_true (by first | (with_reducible assumption) | assumption)
                                                  obtain ⟨ad229, e229, hx229_0, hx229_1, hx229_2⟩ := at_T31 (Kd.R_reads' HO_3.out).2.2 x7_1 p229 q229
                                                  obtain rfl : ad222 = ad229 := (by injection e229)
                                                  replace p229 := eq_true p229
                                                  replace q229 := eq_true q229
                                                  have p230 : 0 ≤ (x7_1 : Int) := of_decide_eq_true (by first | (with_reducible assumption) | assumption)
                                                  have q230 : x7_1 < (t217.length : Int) := of_decide_eq_true (by first | (with_reducible assumption) | assumption)
                                                  obtain ⟨ad230, e230, hx230_0, hx230_1, hx230_2⟩ := at_T31 (Kd.R_reads' HO_3.out).2.2 x7_1 p230 q230
                                                  obtain rfl : ad222 = ad230 := (by injection e230)
                                                  replace p230 := eq_true p230
                                                  replace q230 := eq_true q230
                                                  have p231 : 0 ≤ (x7_1 : Int) := of_decide_eq_true (by first | (with_reducible assumption) | assumption)
                                                  have q231 : x7_1 < (t217.length : Int) := of_decide_eq_true (by first | (with_reducible assumption) | assumption)
                                                  obtain ⟨ad231, e231, hx231_0, hx231_1, hx231_2⟩ := at_T31 (Kd.R_reads' HO_3.out).2.2 x7_1 p231 q231
                                                  obtain rfl : ad222 = ad231 := (by injection e231)
                                                  replace p231 := eq_true p231
                                                  replace q231 := eq_true q231
                                                  go_wp2
                                                  go_roundg k4
                                                  case measure => have := HK1.out; have := HJ11.out; have := HJ14.out; have := HK4.out; omega
                                                  case rel => exact ⟨(wrap64 (((rd_T31 t217 x7_1).f1) + x8_11)), (wrap64 (x7_1 + 1)), (by first | rfl | (simp; done) | (simp [*]; done)), (by first | rfl | (simp; done) | (simp [*]; done)), H', ⟨by have := HK1.out; have := HJ11.out; have := HJ14.out; have := HK4.out; omega⟩, ⟨by (with_reducible repeat (first | apply Kd.R_alloc | apply Kd.R_drewN | apply Kd.R_drew)); exact HO_3.out⟩, ⟨by repeat (first | (with_reducible first | exact HB.out | apply below_alloc | apply pw_below_drewN | apply below_drew1) | exact HB.out)⟩⟩
                                                · rw [if_neg c36] at H
                                                  have c36b0 : ((a0.extract (((rd_T31 t217 x7_1).f1) : Int).toNat ((wrap64 (((rd_T31 t217 x7_1).f1) + x8_11)) : Int).toNat).toList == (((⟨#[34]⟩ : ByteArray) ++ ((rd_T31 t217 x7_1).f2)) ++ (⟨#[34]⟩ : ByteArray)).toList) = false := beq_eq_false_iff_ne.mpr c36
                                                  have c36b1 : ((a0.extract (((rd_T31 t217 x7_1).f1) : Int).toNat ((wrap64 (((rd_T31 t217 x7_1).f1) + x8_11)) : Int).toNat).toList != (((⟨#[34]⟩ : ByteArray) ++ ((rd_T31 t217 x7_1).f2)) ++ (⟨#[34]⟩ : ByteArray)).toList) = true := bne_iff_ne.mpr c36
                                                  obtain rfl := Option.some.inj H
                                                  have p226 : 0 ≤ (x7_1 : Int) := of_decide_eq_true (by first | (with_reducible assumption) | assumption)
                                                  have q226 : x7_1 < (t217.length : Int) := of_decide_eq_true (by first | (with_reducible assumption) | assumption)
                                                  obtain ⟨ad226, e226, hx226_0, hx226_1, hx226_2⟩ := at_T31 (Kd.R_reads' HO_3.out).2.2 x7_1 p226 q226
                                                  obtain rfl : ad222 = ad226 := (by injection e226)
                                                  replace p226 := eq_true p226
                                                  replace q226 := eq_true q226
                                                  have p227 : 0 ≤ (x7_1 : Int) := of_decide_eq_true (by first | (with_reducible assumption) | assumption)
                                                  have q227 : x7_1 < (t217.length : Int) := of_decide_eq_true (by first | (with_reducible assumption) | assumption)
                                                  obtain ⟨ad227, e227, hx227_0, hx227_1, hx227_2⟩ := at_T31 (Kd.R_reads' HO_3.out).2.2 x7_1 p227 q227
                                                  obtain rfl : ad222 = ad227 := (by injection e227)
                                                  replace p227 := eq_true p227
                                                  replace q227 := eq_true q227
                                                  have p228 : 0 ≤ (x7_1 : Int) := of_decide_eq_true (by first | (with_reducible assumption) | assumption)
                                                  have q228 : x7_1 < (t217.length : Int) := of_decide_eq_true (by first | (with_reducible assumption) | assumption)
                                                  obtain ⟨ad228, e228, hx228_0, hx228_1, hx228_2⟩ := at_T31 (Kd.R_reads' HO_3.out).2.2 x7_1 p228 q228
                                                  obtain rfl : ad222 = ad228 := (by injection e228)
                                                  replace p228 := eq_true p228
                                                  replace q228 := eq_true q228
                                                  have p229 : 0 ≤ (x7_1 : Int) := of_decide_eq_true (by first | (with_reducible assumption) | assumption)
                                                  have q229 : x7_1 < (t217.length : Int) := of_decide_eq_true (by first | (with_reducible assumption) | assumption)
                                                  obtain ⟨ad229, e229, hx229_0, hx229_1, hx229_2⟩ := at_T31 (Kd.R_reads' HO_3.out).2.2 x7_1 p229 q229
                                                  obtain rfl : ad222 = ad229 := (by injection e229)
                                                  replace p229 := eq_true p229
                                                  replace q229 := eq_true q229
                                                  have p230 : 0 ≤ (x7_1 : Int) := of_decide_eq_true (by first | (with_reducible assumption) | assumption)
                                                  have q230 : x7_1 < (t217.length : Int) := of_decide_eq_true (by first | (with_reducible assumption) | assumption)
                                                  obtain ⟨ad230, e230, hx230_0, hx230_1, hx230_2⟩ := at_T31 (Kd.R_reads' HO_3.out).2.2 x7_1 p230 q230
                                                  obtain rfl : ad222 = ad230 := (by injection e230)
                                                  replace p230 := eq_true p230
                                                  replace q230 := eq_true q230
                                                  have p231 : 0 ≤ (x7_1 : Int) := of_decide_eq_true (by first | (with_reducible assumption) | assumption)
                                                  have q231 : x7_1 < (t217.length : Int) := of_decide_eq_true (by first | (with_reducible assumption) | assumption)
                                                  obtain ⟨ad231, e231, hx231_0, hx231_1, hx231_2⟩ := at_T31 (Kd.R_reads' HO_3.out).2.2 x7_1 p231 q231
                                                  obtain rfl : ad222 = ad231 := (by injection e231)
                                                  replace p231 := eq_true p231
                                                  replace q231 := eq_true q231
                                                  go_wp2
                                                  go_ret
                                                  exact ⟨by first | rfl | (simp [errW_none, errW_some] <;> rfl) | (simp [*, errW_none, errW_some] <;> rfl), by repeat (first | (with_reducible first | exact HB.out | apply below_alloc | apply pw_below_drewN | apply below_drew1) | exact HB.out)⟩
                                              · rw [if_neg c35] at H
                                                exact absurd H (by simp)
                                            · rw [if_neg c34] at H
                                              exact absurd H (by simp)
                                          · rw [if_neg c33] at H
                                            have c33b0 : (((rd_T31 t217 x7_1).f0) == 3) = false := beq_eq_false_iff_ne.mpr c33
                                            have c33b1 : (((rd_T31 t217 x7_1).f0) != 3) = true := bne_iff_ne.mpr c33
                                            by_cases c37 : (a0.extract (((rd_T31 t217 x7_1).f1) : Int).toNat ((wrap64 (((rd_T31 t217 x7_1).f1) + x8_11)) : Int).toNat).toList = ((rd_T31 t217 x7_1).f2).toList
                                            · rw [if_pos c37] at H
                                              have c37b0 : ((a0.extract (((rd_T31 t217 x7_1).f1) : Int).toNat ((wrap64 (((rd_T31 t217 x7_1).f1) + x8_11)) : Int).toNat).toList == ((rd_T31 t217 x7_1).f2).toList) = true := beq_iff_eq.mpr c37
                                              have c37b1 : ((a0.extract (((rd_T31 t217 x7_1).f1) : Int).toNat ((wrap64 (((rd_T31 t217 x7_1).f1) + x8_11)) : Int).toNat).toList != ((rd_T31 t217 x7_1).f2).toList) = false := bne_eq_false_iff_eq.mpr c37
                                              clear c37
                                              have H' := Aside0.mk H
                                              clear H
                                              have p226 : 0 ≤ (x7_1 : Int) := of_decide_eq_true (by first | (with_reducible assumption) | assumption)
                                              have q226 : x7_1 < (t217.length : Int) := of_decide_eq_true (by first | (with_reducible assumption) | assumption)
                                              obtain ⟨ad226, e226, hx226_0, hx226_1, hx226_2⟩ := at_T31 (Kd.R_reads' HO_3.out).2.2 x7_1 p226 q226
                                              obtain rfl : ad222 = ad226 := (by injection e226)
                                              replace p226 := eq_true p226
                                              replace q226 := eq_true q226
                                              have p227 : 0 ≤ (x7_1 : Int) := of_decide_eq_true (by first | (with_reducible assumption) | assumption)
                                              have q227 : x7_1 < (t217.length : Int) := of_decide_eq_true (by first | (with_reducible assumption) | assumption)
                                              obtain ⟨ad227, e227, hx227_0, hx227_1, hx227_2⟩ := at_T31 (Kd.R_reads' HO_3.out).2.2 x7_1 p227 q227
                                              obtain rfl : ad222 = ad227 := (by injection e227)
                                              replace p227 := eq_true p227
                                              replace q227 := eq_true q227
                                              have p228 : 0 ≤ (x7_1 : Int) := of_decide_eq_true (by first | (with_reducible assumption) | assumption)
                                              have q228 : x7_1 < (t217.length : Int) := of_decide_eq_true (by first | (with_reducible assumption) | assumption)
                                              obtain ⟨ad228, e228, hx228_0, hx228_1, hx228_2⟩ := at_T31 (Kd.R_reads' HO_3.out).2.2 x7_1 p228 q228
                                              obtain rfl : ad222 = ad228 := (by injection e228)
                                              replace p228 := eq_true p228
                                              replace q228 := eq_true q228
                                              have p229 : 0 ≤ (x7_1 : Int) := of_decide_eq_true (by first | (with_reducible assumption) | assumption)
                                              have q229 : x7_1 < (t217.length : Int) := of_decide_eq_true (by first | (with_reducible assumption) | assumption)
                                              obtain ⟨ad229, e229, hx229_0, hx229_1, hx229_2⟩ := at_T31 (Kd.R_reads' HO_3.out).2.2 x7_1 p229 q229
                                              obtain rfl : ad222 = ad229 := (by injection e229)
                                              replace p229 := eq_true p229
                                              replace q229 := eq_true q229
                                              have p232 : 0 ≤ (x7_1 : Int) := of_decide_eq_true (by first | (with_reducible assumption) | assumption)
                                              have q232 : x7_1 < (t217.length : Int) := of_decide_eq_true (by first | (with_reducible assumption) | assumption)
                                              obtain ⟨ad232, e232, hx232_0, hx232_1, hx232_2⟩ := at_T31 (Kd.R_reads' HO_3.out).2.2 x7_1 p232 q232
                                              obtain rfl : ad222 = ad232 := (by injection e232)
                                              replace p232 := eq_true p232
                                              replace q232 := eq_true q232
                                              have p233 : 0 ≤ (x7_1 : Int) := of_decide_eq_true (by first | (with_reducible assumption) | assumption)
                                              have q233 : x7_1 < (t217.length : Int) := of_decide_eq_true (by first | (with_reducible assumption) | assumption)
                                              obtain ⟨ad233, e233, hx233_0, hx233_1, hx233_2⟩ := at_T31 (Kd.R_reads' HO_3.out).2.2 x7_1 p233 q233
                                              obtain rfl : ad222 = ad233 := (by injection e233)
                                              replace p233 := eq_true p233
                                              replace q233 := eq_true q233
                                              go_wp2
                                              go_roundg k4
                                              case measure => have := HK1.out; have := HJ11.out; have := HJ14.out; have := HK4.out; omega
                                              case rel => exact ⟨(wrap64 (((rd_T31 t217 x7_1).f1) + x8_11)), (wrap64 (x7_1 + 1)), (by first | rfl | (simp; done) | (simp [*]; done)), (by first | rfl | (simp; done) | (simp [*]; done)), H', ⟨by have := HK1.out; have := HJ11.out; have := HJ14.out; have := HK4.out; omega⟩, ⟨by (with_reducible repeat (first | apply Kd.R_alloc | apply Kd.R_drewN | apply Kd.R_drew)); exact HO_3.out⟩, ⟨by repeat (first | (with_reducible first | exact HB.out | apply below_alloc | apply pw_below_drewN | apply below_drew1) | exact HB.out)⟩⟩
                                            · rw [if_neg c37] at H
                                              have c37b0 : ((a0.extract (((rd_T31 t217 x7_1).f1) : Int).toNat ((wrap64 (((rd_T31 t217 x7_1).f1) + x8_11)) : Int).toNat).toList == ((rd_T31 t217 x7_1).f2).toList) = false := beq_eq_false_iff_ne.mpr c37
                                              have c37b1 : ((a0.extract (((rd_T31 t217 x7_1).f1) : Int).toNat ((wrap64 (((rd_T31 t217 x7_1).f1) + x8_11)) : Int).toNat).toList != ((rd_T31 t217 x7_1).f2).toList) = true := bne_iff_ne.mpr c37
                                              obtain rfl := Option.some.inj H
                                              have p226 : 0 ≤ (x7_1 : Int) := of_decide_eq_true (by first | (with_reducible assumption) | assumption)
                                              have q226 : x7_1 < (t217.length : Int) := of_decide_eq_true (by first | (with_reducible assumption) | assumption)
                                              obtain ⟨ad226, e226, hx226_0, hx226_1, hx226_2⟩ := at_T31 (Kd.R_reads' HO_3.out).2.2 x7_1 p226 q226
                                              obtain rfl : ad222 = ad226 := (by injection e226)
                                              replace p226 := eq_true p226
                                              replace q226 := eq_true q226
                                              have p227 : 0 ≤ (x7_1 : Int) := of_decide_eq_true (by first | (with_reducible assumption) | assumption)
                                              have q227 : x7_1 < (t217.length : Int) := of_decide_eq_true (by first | (with_reducible assumption) | assumption)
                                              obtain ⟨ad227, e227, hx227_0, hx227_1, hx227_2⟩ := at_T31 (Kd.R_reads' HO_3.out).2.2 x7_1 p227 q227
                                              obtain rfl : ad222 = ad227 := (by injection e227)
                                              replace p227 := eq_true p227
                                              replace q227 := eq_true q227
                                              have p228 : 0 ≤ (x7_1 : Int) := of_decide_eq_true (by first | (with_reducible assumption) | assumption)
                                              have q228 : x7_1 < (t217.length : Int) := of_decide_eq_true (by first | (with_reducible assumption) | assumption)
                                              obtain ⟨ad228, e228, hx228_0, hx228_1, hx228_2⟩ := at_T31 (Kd.R_reads' HO_3.out).2.2 x7_1 p228 q228
                                              obtain rfl : ad222 = ad228 := (by injection e228)
                                              replace p228 := eq_true p228
                                              replace q228 := eq_true q228
                                              have p229 : 0 ≤ (x7_1 : Int) := of_decide_eq_true (by first | (with_reducible assumption) | assumption)
                                              have q229 : x7_1 < (t217.length : Int) := of_decide_eq_true (by first | (with_reducible assumption) | assumption)
                                              obtain ⟨ad229, e229, hx229_0, hx229_1, hx229_2⟩ := at_T31 (Kd.R_reads' HO_3.out).2.2 x7_1 p229 q229
                                              obtain rfl : ad222 = ad229 := (by injection e229)
                                              replace p229 := eq_true p229
                                              replace q229 := eq_true q229
                                              have p232 : 0 ≤ (x7_1 : Int) := of_decide_eq_true (by first | (with_reducible assumption) | assumption)
                                              have q232 : x7_1 < (t217.length : Int) := of_decide_eq_true (by first | (with_reducible assumption) | assumption)
                                              obtain ⟨ad232, e232, hx232_0, hx232_1, hx232_2⟩ := at_T31 (Kd.R_reads' HO_3.out).2.2 x7_1 p232 q232
                                              obtain rfl : ad222 = ad232 := (by injection e232)
                                              replace p232 := eq_true p232
                                              replace q232 := eq_true q232
                                              go_wp2
                                              go_ret
                                              exact ⟨by first | rfl | (simp [errW_none, errW_some] <;> rfl) | (simp [*, errW_none, errW_some] <;> rfl), by repeat (first | (with_reducible first | exact HB.out | apply below_alloc | apply pw_below_drewN | apply below_drew1) | exact HB.out)⟩
                                        · rw [if_neg c32] at H
                                          exact absurd H (by simp)
                                      · rw [if_neg c31] at H
                                        exact absurd H (by simp)
                                    · rw [if_neg c30] at H
                                      exact absurd H (by simp)
                                · rw [if_neg c22] at H
                                  exact absurd H (by simp)
                              · rw [if_neg c21] at H
                                exact absurd H (by simp)
              · rw [if_neg c11] at H
                exact absurd H (by simp)
            · rw [if_neg c10] at H
              have c10b0 : decide (x7_1 < (t217.length : Int)) = false := decide_eq_false c10
              clear c10
              obtain rfl := Option.some.inj H
              obtain ⟨Ao38, co38, eo38⟩ := Kd.R_slice HO_3.out
              subst eo38
              go_wp2
              go_ret
              exact ⟨by first | rfl | (simp [errW_none, errW_some] <;> rfl) | (simp [*, errW_none, errW_some] <;> rfl), by repeat (first | (with_reducible first | exact HB.out | apply below_alloc | apply pw_below_drewN | apply below_drew1) | exact HB.out)⟩
      · rw [if_neg c7] at H
        have c7b0 : (t219 == 0) = false := beq_eq_false_iff_ne.mpr c7
        have c7b1 : (t219 != 0) = true := bne_iff_ne.mpr c7
        obtain rfl := Option.some.inj H
        go_enter Tryd.func5, Tryd.ntmps5
        go_wp2_with (first | ((with_reducible refine gate_callee (f := 10) rfl ?_); refine goesL_ (some 11) rfl rfl Tryd.func10 (by kernel_rfl) rfl #[] rfl (by (try simp only [List.map_toArray, List.map_cons, List.map_nil]); first | done | rfl | (simp only [List.length_drop, List.length_take]; rfl)) ?_; (with_reducible refine (supercargolaw27_awake.calls k  true _ ?side1 A2.out).mono ?_); (case side1 => exact Gl.below hG (by repeat (first | (with_reducible first | exact HB.out | apply below_alloc | apply pw_below_drewN | apply below_drew1) | exact HB.out))); rintro e w39 ⟨rfl, hb⟩; refine ⟨_, rfl, ?_⟩; have n0_ := Aside0.mk (below_step (by repeat (first | (with_reducible first | exact HB.out | apply below_alloc | apply pw_below_drewN | apply below_drew1) | exact HB.out)) hb); clear HB; have HB := n0_; clear n0_; (try clear hb); (try clear hb2); (try clear hk); (try clear hi)) | ((with_reducible refine gate_callee (f := 11) rfl ?_); refine goesL_ (some 18) rfl rfl Tryd.func11 (by kernel_rfl) rfl #[.string a0] rfl (by (try simp only [List.map_toArray, List.map_cons, List.map_nil]); first | done | rfl | (simp only [List.length_drop, List.length_take]; rfl)) ?_; (with_reducible refine (token_Scan.calls k a0 t217 t218 t219 _ ?side1 A6.out).mono ?_); (case side1 => exact Gl.below hG (by repeat (first | (with_reducible first | exact HB.out | apply below_alloc | apply pw_below_drewN | apply below_drew1) | exact HB.out))); rintro e w40 ⟨v220, rfl, ho0, hb⟩; refine ⟨_, rfl, ?_⟩; have n0_ := Aside0.mk (Kd.R_lower ho0 (below_size (by repeat (first | (with_reducible first | exact HB.out | apply below_alloc | apply pw_below_drewN | apply below_drew1) | exact HB.out)))); have n1_ := Aside0.mk (below_step (by repeat (first | (with_reducible first | exact HB.out | apply below_alloc | apply pw_below_drewN | apply below_drew1) | exact HB.out)) hb); clear HB; have HO221 := n0_; have HB := n1_; clear n0_ n1_; (try clear hb); (try clear hb2); (try clear hk); (try clear hi); (try clear ho0)))
        go_ret
        exact ⟨by first | rfl | (simp [errW_none, errW_some] <;> rfl) | (simp [*, errW_none, errW_some] <;> rfl), by repeat (first | (with_reducible first | exact HB.out | apply below_alloc | apply pw_below_drewN | apply below_drew1) | exact HB.out)⟩
  · replace c3 := Bool.eq_false_iff.mpr c3
    subst c3
    have H1 : (some false) = some r := by rw [if_neg (show ¬ (false = true) by decide)] at H; exact H
    clear H
    have H := H1
    clear H1
    obtain rfl := Option.some.inj H
    go_enter Tryd.func5, Tryd.ntmps5
    go_wp2_with (first | ((with_reducible refine gate_callee (f := 10) rfl ?_); refine goesL_ (some 11) rfl rfl Tryd.func10 (by kernel_rfl) rfl #[] rfl (by (try simp only [List.map_toArray, List.map_cons, List.map_nil]); first | done | rfl | (simp only [List.length_drop, List.length_take]; rfl)) ?_; (with_reducible refine (supercargolaw27_awake.calls k  false _ ?side1 A2.out).mono ?_); (case side1 => exact Gl.below hG (by repeat (first | (with_reducible first | exact HB.out | apply below_alloc | apply pw_below_drewN | apply below_drew1) | exact HB.out))); rintro e w41 ⟨rfl, hb⟩; refine ⟨_, rfl, ?_⟩; have n0_ := Aside0.mk (below_step (by repeat (first | (with_reducible first | exact HB.out | apply below_alloc | apply pw_below_drewN | apply below_drew1) | exact HB.out)) hb); clear HB; have HB := n0_; clear n0_; (try clear hb); (try clear hb2); (try clear hk); (try clear hi)))
    go_ret
    exact ⟨by first | rfl | (simp [errW_none, errW_some] <;> rfl) | (simp [*, errW_none, errW_some] <;> rfl), by repeat (first | (with_reducible first | exact HB.out | apply below_alloc | apply pw_below_drewN | apply below_drew1) | exact HB.out)⟩

/-- THE ONE PURE STATEMENT of supercargolaw27_TokenPlaces: yours. -/
def supercargolaw27_TokenPlaces.Pure : Prop := ∀ (a0 : ByteArray), a0.size ≤ 140737488351232 → ∃ k, supercargolaw27_TokenPlaces.f k a0 = some true
theorem supercargolaw27_TokenPlaces.walk (P : supercargolaw27_TokenPlaces.Pure) (a0 : ByteArray) (w : World) (hG : Gl w) (w0 : a0.size ≤ 140737488351232) :
    Calls Tryd.prog 5 #[.string a0] w fun e w' => e = .returned (.bool true) ∧ Below w.heap.size w w' := by
  obtain ⟨k, h⟩ := P a0 w0
  refine (supercargolaw27_TokenPlaces.calls k a0 true w hG h).mono ?_
  rintro e w' ⟨rfl, hd⟩
  exact ⟨rfl, hd⟩

/-! ### supercargoref03_letter: function 28 -/
def supercargoref03_letter.f (a0 : Int) : Option (Bool) := if a0 ≥ 97 then (some (decide (a0 ≤ 122))) else (some false)
set_option maxHeartbeats 8000000 in
set_option maxRecDepth 100000 in
theorem supercargoref03_letter.calls (a0 : Int) (r : Bool) (w : World) (h : supercargoref03_letter.f a0 = some r) :
    Calls Tryd.prog 28 #[.int .u8 a0] w fun e w' => e = .returned (.bool r) ∧ Drawn0 w w' := by
  have H : (if a0 ≥ 97 then (some (decide (a0 ≤ 122))) else (some false)) = some r := h
  clear h
  by_cases c2 : a0 ≥ 97
  · rw [if_pos c2] at H
    have c2b0 : decide (97 ≤ a0) = true := decide_eq_true c2
    clear c2
    obtain rfl := Option.some.inj H
    go_enter Tryd.func28, Tryd.ntmps28
    go_wp2
    go_ret
    exact ⟨by first | rfl | (simp; done) | (simp [*]; done), by repeat (first | exact Drawn0.refl _ | apply Drawn0.step)⟩
  · rw [if_neg c2] at H
    have c2b0 : decide (97 ≤ a0) = false := decide_eq_false c2
    clear c2
    obtain rfl := Option.some.inj H
    go_enter Tryd.func28, Tryd.ntmps28
    go_wp2
    go_ret
    exact ⟨by first | rfl | (simp; done) | (simp [*]; done), by repeat (first | exact Drawn0.refl _ | apply Drawn0.step)⟩

end Go.Proofs.YtamgmceogjgijaaDoor.G
