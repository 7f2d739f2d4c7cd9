-- Printed by a program of this session's (wip/lab) after the kit's print: Lean checks it.
import Derived.Test.YtkjcblbpeoijhaaGx0
import Derived.Test.YtkjcblbpeoijhaaGx1
import Derived.Test.YtkjcblbpeoijhaaGx2
import Derived.Test.YtkjcblbpeoijhaaExt
namespace Go.Proofs.Ytkjcblbpeoijhaa.G
open Go.Proofs.Ytkjcblbpeoijhaa.Ext
open Go.RowKit Go.Proofs.YtkjcblbpeoijhaaW.PrintWords Go.Proofs.YtkjcblbpeoijhaaW.PrintLast Go.Proofs.YtkjcblbpeoijhaaW.PrintMore
attribute [local go_sem] max2_int min2_int max_two min_two max_three min_three max_four min_four   -- for this text's walks alone
set_option linter.unusedVariables false
set_option linter.unusedSimpArgs false

-- NOT PRINTED: function 5 (supercargolaw42_PolicyShares)

/-! ### supercargolaw42_heavy: function 15 -/
mutual
def supercargolaw42_heavy.l0 : Nat → List (S47) → Int → Option (Bool)
  | 0, _, _ => none
  | k + 1, x0, x3 => if x3 < (x0.length : Int) then (if 0 ≤ x3 then (if (((rd_T47 x0 x3).f0).size : Int) > 100 then (supercargolaw42_heavy.j1 k x0 x3 true) else (if (((rd_T47 x0 x3).f1).size : Int) > 100 then (supercargolaw42_heavy.j1 k x0 x3 true) else (if (((rd_T47 x0 x3).f2).size : Int) > 100 then (supercargolaw42_heavy.j1 k x0 x3 true) else (supercargolaw42_heavy.j1 k x0 x3 (decide ((((rd_T47 x0 x3).f3).size : Int) > 100)))))) else (none)) else (some false)
def supercargolaw42_heavy.j1 : Nat → List (S47) → Int → Bool → Option (Bool)
  | 0, _, _, _ => none
  | k + 1, x0, x3, x46 => if x46 = true then (some true) else (supercargolaw42_heavy.l0 k x0 (wrap64 (x3 + 1)))
end
def supercargolaw42_heavy.f (k : Nat) (l0 : List (S47)) : Option (Bool) := if (l0.length : Int) > 40 then (some true) else (supercargolaw42_heavy.l0 k l0 0)
theorem supercargolaw42_heavy.mono_l : ∀ k, (∀ y0 y1, LeO (supercargolaw42_heavy.l0 k y0 y1) (supercargolaw42_heavy.l0 (k + 1) y0 y1)) ∧ (∀ y0 y1 y2, LeO (supercargolaw42_heavy.j1 k y0 y1 y2) (supercargolaw42_heavy.j1 (k + 1) y0 y1 y2))
  | 0 => ⟨fun _ _ r h => by simp [supercargolaw42_heavy.l0] at h, fun _ _ _ r h => by simp [supercargolaw42_heavy.j1] at h⟩
  | k + 1 => by
    obtain ⟨ih0, ih1⟩ := supercargolaw42_heavy.mono_l k
    refine ⟨?_, ?_⟩
    · intro y0 y1
      unfold supercargolaw42_heavy.l0
      repeat' first
      | (with_reducible exact ih0 _ _)
      | (with_reducible exact ih1 _ _ _)
      | (with_reducible exact LeO.refl _)
      | (with_reducible exact LeO.none _)
      | (with_reducible refine LeO.ite ?_ ?_)
      | (with_reducible refine LeO.bind ?_ (fun _ => ?_))
      | exact ih0 _ _
      | exact ih1 _ _ _
      | exact LeO.none _
      | refine LeO.ite ?_ ?_
      | refine LeO.bind ?_ (fun _ => ?_)
    · intro y0 y1 y2
      unfold supercargolaw42_heavy.j1
      repeat' first
      | (with_reducible exact ih0 _ _)
      | (with_reducible exact ih1 _ _ _)
      | (with_reducible exact LeO.refl _)
      | (with_reducible exact LeO.none _)
      | (with_reducible refine LeO.ite ?_ ?_)
      | (with_reducible refine LeO.bind ?_ (fun _ => ?_))
      | exact ih0 _ _
      | exact ih1 _ _ _
      | exact LeO.none _
      | refine LeO.ite ?_ ?_
      | refine LeO.bind ?_ (fun _ => ?_)
theorem supercargolaw42_heavy.mono : ∀ a0 k, LeO (supercargolaw42_heavy.f k a0) (supercargolaw42_heavy.f (k + 1) a0) := by
  intro a0 k
  obtain ⟨ih0, ih1⟩ := supercargolaw42_heavy.mono_l k
  unfold supercargolaw42_heavy.f
  repeat' first
      | (with_reducible exact ih0 _ _)
      | (with_reducible exact ih1 _ _ _)
      | (with_reducible exact LeO.refl _)
      | (with_reducible exact LeO.none _)
      | (with_reducible refine LeO.ite ?_ ?_)
      | (with_reducible refine LeO.bind ?_ (fun _ => ?_))
      | exact ih0 _ _
      | exact ih1 _ _ _
      | exact LeO.none _
      | refine LeO.ite ?_ ?_
      | refine LeO.bind ?_ (fun _ => ?_)
set_option maxHeartbeats 8000000 in
set_option maxRecDepth 100000 in
theorem supercargolaw42_heavy.calls (k : Nat) (A0 : Option Addr) (c0 : Nat) (l0 : List (S47)) (r : Bool) (w : World) (hr0 : Kd.C k47 w A0 l0.length l0) (hc0 : l0.length ≤ c0) (h : supercargolaw42_heavy.f k l0 = some r) :
    Calls Try.prog 15 #[.slice A0 l0.length c0] w fun e w' => e = .returned (.bool r) ∧ Drawn0 w w' := by
  have HR0 := Aside0.mk hr0
  have HC0 := Aside0.mk hc0
  clear hr0 hc0
  have H : (if (l0.length : Int) > 40 then (some true) else (supercargolaw42_heavy.l0 k l0 0)) = some r := h
  clear h
  by_cases c2 : (l0.length : Int) > 40
  · rw [if_pos c2] at H
    have c2b0 : decide (40 < (l0.length : Int)) = true := decide_eq_true c2
    have c2b1 : decide (40 < l0.length) = true := decide_eq_true (by omega)
    clear c2
    obtain rfl := Option.some.inj H
    go_enter Try.func15, Try.ntmps15
    go_wp2
    go_ret
    exact ⟨by first | rfl | (simp; done) | (simp [*]; done), by repeat (first | exact Drawn0.refl _ | apply Drawn0.step)⟩
  · rw [if_neg c2] at H
    have c2b0 : decide (40 < (l0.length : Int)) = false := decide_eq_false c2
    have c2b1 : decide (40 < l0.length) = false := decide_eq_false (by omega)
    clear c2
    have H' := Aside0.mk H
    clear H
    go_enter Try.func15, Try.ntmps15
    go_wp2
    go_loopg [3] k (fun kq v3 w' => ∃ (x3_1 : Int), v3 = .int .i64 x3_1 ∧ Aside0 (supercargolaw42_heavy.l0 kq l0 x3_1 = some r) ∧ Aside0 (kq ≤ k) ∧ Drawn0 w w')
    case atStart => exact ⟨(0), (by first | rfl | (simp; done) | (simp [*]; done)), H', ⟨Nat.le_refl _⟩, by repeat (first | exact Drawn0.refl _ | apply Drawn0.step)⟩
    case round =>
      clear H'
      try clear c1
      try clear c2
      try clear c2b0
      try clear c2b1
      try clear p2
      obtain ⟨x3_1, rfl, HA, HK1, ⟨m1, rfl⟩⟩ := hrel
      cases gk with
      | zero => exact absurd HA.out (by simp [supercargolaw42_heavy.l0])
      | succ k1 =>
        have H := HA.out
        clear HA
        simp only [supercargolaw42_heavy.l0] at H
        by_cases c3 : x3_1 < (l0.length : Int)
        · rw [if_pos c3] at H
          have c3b0 : decide (x3_1 < (l0.length : Int)) = true := decide_eq_true c3
          clear c3
          have HC4 := Aside0.mk H
          clear H
          go_upto_region 6 with (fail)
          go_cut [46] (fun v46 wc => ∃ (kq : Nat) (x46_3 : Bool), v46 = .bool x46_3 ∧ Aside0 (supercargolaw42_heavy.j1 kq l0 x3_1 x46_3 = some r) ∧ Aside0 (kq ≤ k1) ∧ Drawn0 w wc)
          case first =>
            have H := HC4.out
            clear HC4
            by_cases c5 : 0 ≤ x3_1
            · rw [if_pos c5] at H
              have c5b0 : decide (0 ≤ x3_1) = true := decide_eq_true c5
              clear c5
              (first | rw [c5b0] | (simp only [i64_w, i32_w]; rw [c5b0]) | skip)
              by_cases c6 : (((rd_T47 l0 x3_1).f0).size : Int) > 100
              · rw [if_pos c6] at H
                have c6b0 : decide (100 < (((rd_T47 l0 x3_1).f0).size : Int)) = true := decide_eq_true c6
                have c6b1 : decide (100 < ((rd_T47 l0 x3_1).f0).size) = true := decide_eq_true (by omega)
                clear c6
                have H' := Aside0.mk H
                clear H
                have p184 : 0 ≤ (x3_1 : Int) := of_decide_eq_true (by first | (with_reducible assumption) | assumption)
                have q184 : x3_1 < (l0.length : Int) := of_decide_eq_true (by first | (with_reducible assumption) | assumption)
                obtain ⟨ad184, e184, hx184_0, hx184_1, hx184_2, hx184_3, hx184_4⟩ := at_T47 HR0.out x3_1 p184 q184
                cases e184
                replace p184 := eq_true p184
                replace q184 := eq_true q184
                go_wp2
                go_meet
                case rel => exact ⟨_, (true), (by first | rfl | (simp; done) | (simp [*]; done)), H', ⟨by have := HK1.out; first | omega | exact Nat.le_refl _⟩, by repeat (first | exact Drawn0.refl _ | apply Drawn0.step)⟩
              · rw [if_neg c6] at H
                have c6b0 : decide (100 < (((rd_T47 l0 x3_1).f0).size : Int)) = false := decide_eq_false c6
                have c6b1 : decide (100 < ((rd_T47 l0 x3_1).f0).size) = false := decide_eq_false (by omega)
                clear c6
                by_cases c7 : (((rd_T47 l0 x3_1).f1).size : Int) > 100
                · rw [if_pos c7] at H
                  have c7b0 : decide (100 < (((rd_T47 l0 x3_1).f1).size : Int)) = true := decide_eq_true c7
                  have c7b1 : decide (100 < ((rd_T47 l0 x3_1).f1).size) = true := decide_eq_true (by omega)
                  clear c7
                  have H' := Aside0.mk H
                  clear H
                  have p184 : 0 ≤ (x3_1 : Int) := of_decide_eq_true (by first | (with_reducible assumption) | assumption)
                  have q184 : x3_1 < (l0.length : Int) := of_decide_eq_true (by first | (with_reducible assumption) | assumption)
                  obtain ⟨ad184, e184, hx184_0, hx184_1, hx184_2, hx184_3, hx184_4⟩ := at_T47 HR0.out x3_1 p184 q184
                  cases e184
                  replace p184 := eq_true p184
                  replace q184 := eq_true q184
                  have p185 : 0 ≤ (x3_1 : Int) := of_decide_eq_true (by first | (with_reducible assumption) | assumption)
                  have q185 : x3_1 < (l0.length : Int) := of_decide_eq_true (by first | (with_reducible assumption) | assumption)
                  obtain ⟨ad185, e185, hx185_0, hx185_1, hx185_2, hx185_3, hx185_4⟩ := at_T47 HR0.out x3_1 p185 q185
                  obtain rfl : ad184 = ad185 := (by injection e185)
                  replace p185 := eq_true p185
                  replace q185 := eq_true q185
                  go_wp2
                  go_meet
                  case rel => exact ⟨_, (true), (by first | rfl | (simp; done) | (simp [*]; done)), H', ⟨by have := HK1.out; first | omega | exact Nat.le_refl _⟩, by repeat (first | exact Drawn0.refl _ | apply Drawn0.step)⟩
                · rw [if_neg c7] at H
                  have c7b0 : decide (100 < (((rd_T47 l0 x3_1).f1).size : Int)) = false := decide_eq_false c7
                  have c7b1 : decide (100 < ((rd_T47 l0 x3_1).f1).size) = false := decide_eq_false (by omega)
                  clear c7
                  by_cases c8 : (((rd_T47 l0 x3_1).f2).size : Int) > 100
                  · rw [if_pos c8] at H
                    have c8b0 : decide (100 < (((rd_T47 l0 x3_1).f2).size : Int)) = true := decide_eq_true c8
                    have c8b1 : decide (100 < ((rd_T47 l0 x3_1).f2).size) = true := decide_eq_true (by omega)
                    clear c8
                    have H' := Aside0.mk H
                    clear H
                    have p184 : 0 ≤ (x3_1 : Int) := of_decide_eq_true (by first | (with_reducible assumption) | assumption)
                    have q184 : x3_1 < (l0.length : Int) := of_decide_eq_true (by first | (with_reducible assumption) | assumption)
                    obtain ⟨ad184, e184, hx184_0, hx184_1, hx184_2, hx184_3, hx184_4⟩ := at_T47 HR0.out x3_1 p184 q184
                    cases e184
                    replace p184 := eq_true p184
                    replace q184 := eq_true q184
                    have p185 : 0 ≤ (x3_1 : Int) := of_decide_eq_true (by first | (with_reducible assumption) | assumption)
                    have q185 : x3_1 < (l0.length : Int) := of_decide_eq_true (by first | (with_reducible assumption) | assumption)
                    obtain ⟨ad185, e185, hx185_0, hx185_1, hx185_2, hx185_3, hx185_4⟩ := at_T47 HR0.out x3_1 p185 q185
                    obtain rfl : ad184 = ad185 := (by injection e185)
                    replace p185 := eq_true p185
                    replace q185 := eq_true q185
                    have p186 : 0 ≤ (x3_1 : Int) := of_decide_eq_true (by first | (with_reducible assumption) | assumption)
                    have q186 : x3_1 < (l0.length : Int) := of_decide_eq_true (by first | (with_reducible assumption) | assumption)
                    obtain ⟨ad186, e186, hx186_0, hx186_1, hx186_2, hx186_3, hx186_4⟩ := at_T47 HR0.out x3_1 p186 q186
                    obtain rfl : ad184 = ad186 := (by injection e186)
                    replace p186 := eq_true p186
                    replace q186 := eq_true q186
                    go_wp2
                    go_meet
                    case rel => exact ⟨_, (true), (by first | rfl | (simp; done) | (simp [*]; done)), H', ⟨by have := HK1.out; first | omega | exact Nat.le_refl _⟩, by repeat (first | exact Drawn0.refl _ | apply Drawn0.step)⟩
                  · rw [if_neg c8] at H
                    have c8b0 : decide (100 < (((rd_T47 l0 x3_1).f2).size : Int)) = false := decide_eq_false c8
                    have c8b1 : decide (100 < ((rd_T47 l0 x3_1).f2).size) = false := decide_eq_false (by omega)
                    clear c8
                    have H' := Aside0.mk H
                    clear H
                    have p184 : 0 ≤ (x3_1 : Int) := of_decide_eq_true (by first | (with_reducible assumption) | assumption)
                    have q184 : x3_1 < (l0.length : Int) := of_decide_eq_true (by first | (with_reducible assumption) | assumption)
                    obtain ⟨ad184, e184, hx184_0, hx184_1, hx184_2, hx184_3, hx184_4⟩ := at_T47 HR0.out x3_1 p184 q184
                    cases e184
                    replace p184 := eq_true p184
                    replace q184 := eq_true q184
                    have p185 : 0 ≤ (x3_1 : Int) := of_decide_eq_true (by first | (with_reducible assumption) | assumption)
                    have q185 : x3_1 < (l0.length : Int) := of_decide_eq_true (by first | (with_reducible assumption) | assumption)
                    obtain ⟨ad185, e185, hx185_0, hx185_1, hx185_2, hx185_3, hx185_4⟩ := at_T47 HR0.out x3_1 p185 q185
                    obtain rfl : ad184 = ad185 := (by injection e185)
                    replace p185 := eq_true p185
                    replace q185 := eq_true q185
                    have p186 : 0 ≤ (x3_1 : Int) := of_decide_eq_true (by first | (with_reducible assumption) | assumption)
                    have q186 : x3_1 < (l0.length : Int) := of_decide_eq_true (by first | (with_reducible assumption) | assumption)
                    obtain ⟨ad186, e186, hx186_0, hx186_1, hx186_2, hx186_3, hx186_4⟩ := at_T47 HR0.out x3_1 p186 q186
                    obtain rfl : ad184 = ad186 := (by injection e186)
                    replace p186 := eq_true p186
                    replace q186 := eq_true q186
                    have p187 : 0 ≤ (x3_1 : Int) := of_decide_eq_true (by first | (with_reducible assumption) | assumption)
                    have q187 : x3_1 < (l0.length : Int) := of_decide_eq_true (by first | (with_reducible assumption) | assumption)
                    obtain ⟨ad187, e187, hx187_0, hx187_1, hx187_2, hx187_3, hx187_4⟩ := at_T47 HR0.out x3_1 p187 q187
                    obtain rfl : ad184 = ad187 := (by injection e187)
                    replace p187 := eq_true p187
                    replace q187 := eq_true q187
                    go_wp2
                    go_meet
                    case rel => exact ⟨_, (decide ((((rd_T47 l0 x3_1).f3).size : Int) > 100)), (by first | rfl | (simp; done) | (simp [*]; done)), H', ⟨by have := HK1.out; first | omega | exact Nat.le_refl _⟩, by repeat (first | exact Drawn0.refl _ | apply Drawn0.step)⟩
            · rw [if_neg c5] at H
              exact absurd H (by simp)
          case rest =>
            clear HC4
            try clear c1
            try clear p1
            try clear q1
            try clear hx1
            try clear c2
            try clear c2b0
            try clear c2b1
            try clear p2
            try clear c3
            try clear c3b0
            try clear c5
            try clear c5b0
            try clear c6
            try clear c6b0
            try clear c6b1
            try clear c7
            try clear c7b0
            try clear c7b1
            try clear c8
            try clear c8b0
            try clear c8b1
            try clear hx184_0
            try clear hx184_1
            try clear hx184_2
            try clear hx184_3
            try clear hx184_4
            try clear hx185_0
            try clear hx185_1
            try clear hx185_2
            try clear hx185_3
            try clear hx185_4
            try clear hx186_0
            try clear hx186_1
            try clear hx186_2
            try clear hx186_3
            try clear hx186_4
            try clear hx187_0
            try clear hx187_1
            try clear hx187_2
            try clear hx187_3
            try clear hx187_4
            try clear p184
            try clear p185
            try clear p186
            try clear p187
            try clear p2
            try clear q184
            try clear q185
            try clear q186
            try clear q187
            obtain ⟨kq, x46_3, rfl, HA, HJ3, ⟨mc3, rfl⟩⟩ := hcut
            cases kq with
            | zero => exact absurd HA.out (by simp [supercargolaw42_heavy.j1])
            | succ kj3 =>
              have H := HA.out
              clear HA
              simp only [supercargolaw42_heavy.j1] at H
              by_cases c9 : x46_3 = true
              · subst c9
                have H1 : (some true) = some r := by rw [if_pos rfl] at H; exact H
                clear H
                have H := H1
                clear H1
                obtain rfl := Option.some.inj H
                go_wp2
                go_ret
                exact ⟨by first | rfl | (simp; done) | (simp [*]; done), by repeat (first | exact Drawn0.refl _ | apply Drawn0.step)⟩
              · replace c9 := Bool.eq_false_iff.mpr c9
                subst c9
                have H1 : (supercargolaw42_heavy.l0 kj3 l0 (wrap64 (x3_1 + 1))) = some r := by rw [if_neg (show ¬ (false = true) by decide)] at H; exact H
                clear H
                have H := H1
                clear H1
                have H' := Aside0.mk H
                clear H
                go_wp2
                go_roundg kj3
                case measure => have := HK1.out; have := HJ3.out; omega
                case rel => exact ⟨(wrap64 (x3_1 + 1)), (by first | rfl | (simp; done) | (simp [*]; done)), H', ⟨by have := HK1.out; have := HJ3.out; omega⟩, by repeat (first | exact Drawn0.refl _ | apply Drawn0.step)⟩
        · rw [if_neg c3] at H
          have c3b0 : decide (x3_1 < (l0.length : Int)) = false := decide_eq_false c3
          clear c3
          obtain rfl := Option.some.inj H
          go_wp2
          go_ret
          exact ⟨by first | rfl | (simp; done) | (simp [*]; done), by repeat (first | exact Drawn0.refl _ | apply Drawn0.step)⟩

/-! ### slices_Index_int_int: function 36 -/
def slices_Index_int_int.l0 : Nat → List Int → Int → Int → Int → Option (Int)
  | 0, _, _, _, _ => none
  | k + 1, x0, x1, x7, x8 => if x8 < x7 then (if 0 ≤ x8 then (if x8 < (x0.length : Int) then (if x1 = (rd x0 x8) then (some x8) else (slices_Index_int_int.l0 k x0 x1 x7 (wrap64 (x8 + 1)))) else (none)) else (none)) else (some (-1))
def slices_Index_int_int.f (k : Nat) (l0 : List Int) (a1 : Int) : Option (Int) := slices_Index_int_int.l0 k l0 a1 (l0.length : Int) 0
theorem slices_Index_int_int.mono_l : ∀ k, (∀ y0 y1 y2 y3, LeO (slices_Index_int_int.l0 k y0 y1 y2 y3) (slices_Index_int_int.l0 (k + 1) y0 y1 y2 y3))
  | 0 => fun _ _ _ _ r h => by simp [slices_Index_int_int.l0] at h
  | k + 1 => by
    have ih0 := slices_Index_int_int.mono_l k
    · intro y0 y1 y2 y3
      unfold slices_Index_int_int.l0
      repeat' first
      | (with_reducible exact ih0 _ _ _ _)
      | (with_reducible exact LeO.refl _)
      | (with_reducible exact LeO.none _)
      | (with_reducible refine LeO.ite ?_ ?_)
      | (with_reducible refine LeO.bind ?_ (fun _ => ?_))
      | exact ih0 _ _ _ _
      | exact LeO.none _
      | refine LeO.ite ?_ ?_
      | refine LeO.bind ?_ (fun _ => ?_)
theorem slices_Index_int_int.mono : ∀ a0 a1 k, LeO (slices_Index_int_int.f k a0 a1) (slices_Index_int_int.f (k + 1) a0 a1) := by
  intro a0 a1 k
  have ih0 := slices_Index_int_int.mono_l k
  unfold slices_Index_int_int.f
  repeat' first
      | (with_reducible exact ih0 _ _ _ _)
      | (with_reducible exact LeO.refl _)
      | (with_reducible exact LeO.none _)
      | (with_reducible refine LeO.ite ?_ ?_)
      | (with_reducible refine LeO.bind ?_ (fun _ => ?_))
      | exact ih0 _ _ _ _
      | exact LeO.none _
      | refine LeO.ite ?_ ?_
      | refine LeO.bind ?_ (fun _ => ?_)
set_option maxHeartbeats 8000000 in
set_option maxRecDepth 100000 in
theorem slices_Index_int_int.calls (k : Nat) (A0 : Option Addr) (c0 : Nat) (l0 : List Int) (a1 : Int) (r : Int) (w : World) (hr0 : Kd.C (Kd.int .i64) w A0 l0.length l0) (hc0 : l0.length ≤ c0) (h : slices_Index_int_int.f k l0 a1 = some r) :
    Calls Try.prog 36 #[.slice A0 l0.length c0, .int .i64 a1] w fun e w' => e = .returned (.int .i64 r) ∧ Drawn0 w w' := by
  have HR0 := Aside0.mk hr0
  have HC0 := Aside0.mk hc0
  clear hr0 hc0
  have H : (slices_Index_int_int.l0 k l0 a1 (l0.length : Int) 0) = some r := h
  clear h
  have H' := Aside0.mk H
  clear H
  go_enter Try.func36, Try.ntmps36
  go_wp2
  go_loopg [8] k (fun kq v8 w' => ∃ (x8_1 : Int), v8 = .int .i64 x8_1 ∧ Aside0 (slices_Index_int_int.l0 kq l0 a1 (l0.length : Int) x8_1 = some r) ∧ Aside0 (kq ≤ k) ∧ Drawn0 w w')
  case atStart => exact ⟨(0), (by first | rfl | (simp; done) | (simp [*]; done)), H', ⟨Nat.le_refl _⟩, by repeat (first | exact Drawn0.refl _ | apply Drawn0.step)⟩
  case round =>
    clear H'
    try clear p2
    obtain ⟨x8_1, rfl, HA, HK1, ⟨m1, rfl⟩⟩ := hrel
    cases gk with
    | zero => exact absurd HA.out (by simp [slices_Index_int_int.l0])
    | succ k1 =>
      have H := HA.out
      clear HA
      simp only [slices_Index_int_int.l0] at H
      by_cases c3 : x8_1 < (l0.length : Int)
      · rw [if_pos c3] at H
        have c3b0 : decide (x8_1 < (l0.length : Int)) = true := decide_eq_true c3
        clear c3
        by_cases c4 : 0 ≤ x8_1
        · rw [if_pos c4] at H
          have c4b0 : decide (0 ≤ x8_1) = true := decide_eq_true c4
          clear c4
          by_cases c5 : x8_1 < (l0.length : Int)
          · rw [if_pos c5] at H
            have c5b0 : decide (x8_1 < (l0.length : Int)) = true := decide_eq_true c5
            clear c5
            by_cases c6 : a1 = (rd l0 x8_1)
            · rw [if_pos c6] at H
              have c6b0 : (a1 == (rd l0 x8_1)) = true := beq_iff_eq.mpr c6
              have c6b1 : (a1 != (rd l0 x8_1)) = false := bne_eq_false_iff_eq.mpr c6
              clear c6
              obtain rfl := Option.some.inj H
              have p188 : 0 ≤ (x8_1 : Int) := of_decide_eq_true (by first | (with_reducible assumption) | assumption)
              have q188 : x8_1 < (l0.length : Int) := of_decide_eq_true (by first | (with_reducible assumption) | assumption)
              obtain ⟨ad188, e188, hx188_0⟩ := Kd.at_int HR0.out x8_1 p188 q188
              cases e188
              replace p188 := eq_true p188
              replace q188 := eq_true q188
              go_wp2
              go_ret
              exact ⟨by first | rfl | (simp; done) | (simp [*]; done), by repeat (first | exact Drawn0.refl _ | apply Drawn0.step)⟩
            · rw [if_neg c6] at H
              have c6b0 : (a1 == (rd l0 x8_1)) = false := beq_eq_false_iff_ne.mpr c6
              have c6b1 : (a1 != (rd l0 x8_1)) = true := bne_iff_ne.mpr c6
              have H' := Aside0.mk H
              clear H
              have p188 : 0 ≤ (x8_1 : Int) := of_decide_eq_true (by first | (with_reducible assumption) | assumption)
              have q188 : x8_1 < (l0.length : Int) := of_decide_eq_true (by first | (with_reducible assumption) | assumption)
              obtain ⟨ad188, e188, hx188_0⟩ := Kd.at_int HR0.out x8_1 p188 q188
              cases e188
              replace p188 := eq_true p188
              replace q188 := eq_true q188
              go_wp2
              go_roundg k1
              case measure => have := HK1.out; omega
              case rel => exact ⟨(wrap64 (x8_1 + 1)), (by first | rfl | (simp; done) | (simp [*]; done)), H', ⟨by have := HK1.out; omega⟩, by repeat (first | exact Drawn0.refl _ | apply Drawn0.step)⟩
          · rw [if_neg c5] at H
            exact absurd H (by simp)
        · rw [if_neg c4] at H
          exact absurd H (by simp)
      · rw [if_neg c3] at H
        have c3b0 : decide (x8_1 < (l0.length : Int)) = false := decide_eq_false c3
        clear c3
        obtain rfl := Option.some.inj H
        go_wp2
        go_ret
        exact ⟨by first | rfl | (simp; done) | (simp [*]; done), by repeat (first | exact Drawn0.refl _ | apply Drawn0.step)⟩

/-! ### slices_Contains_int_int: function 26 -/
def slices_Contains_int_int.f (k : Nat) (l0 : List Int) (a1 : Int) : Option (Bool) := (slices_Index_int_int.f k l0 a1).bind fun t189 => (some (decide (t189 ≥ 0)))
theorem slices_Contains_int_int.mono : ∀ a0 a1 k, LeO (slices_Contains_int_int.f k a0 a1) (slices_Contains_int_int.f (k + 1) a0 a1) := by
  intro a0 a1 k
  unfold slices_Contains_int_int.f
  repeat' first
      | (with_reducible exact slices_Index_int_int.mono _ _ _)
      | (with_reducible exact LeO.refl _)
      | (with_reducible exact LeO.none _)
      | (with_reducible refine LeO.ite ?_ ?_)
      | (with_reducible refine LeO.bind ?_ (fun _ => ?_))
      | exact slices_Index_int_int.mono _ _ _
      | exact LeO.none _
      | refine LeO.ite ?_ ?_
      | refine LeO.bind ?_ (fun _ => ?_)
set_option maxHeartbeats 8000000 in
set_option maxRecDepth 100000 in
theorem slices_Contains_int_int.calls (k : Nat) (A0 : Option Addr) (c0 : Nat) (l0 : List Int) (a1 : Int) (r : Bool) (w : World) (hr0 : Kd.C (Kd.int .i64) w A0 l0.length l0) (hc0 : l0.length ≤ c0) (h : slices_Contains_int_int.f k l0 a1 = some r) :
    Calls Try.prog 26 #[.slice A0 l0.length c0, .int .i64 a1] w fun e w' => e = .returned (.bool r) ∧ Drawn0 w w' := by
  have HR0 := Aside0.mk hr0
  have HC0 := Aside0.mk hc0
  clear hr0 hc0
  have H : ((slices_Index_int_int.f k l0 a1).bind fun t189 => (some (decide (t189 ≥ 0)))) = some r := h
  clear h
  replace H := Option.bind_eq_some_iff.mp H
  obtain ⟨t189, A30, H⟩ := H
  replace H : (some (decide (t189 ≥ 0))) = some r := H
  have A3 := Aside0.mk A30
  clear A30
  obtain rfl := Option.some.inj H
  go_enter Try.func26, Try.ntmps26
  go_wp2_with (first | ((with_reducible refine gate_callee (f := 36) rfl ?_); refine goesL_ (some 7) rfl rfl Try.func36 (by kernel_rfl) rfl #[.slice A0 l0.length c0, .int .i64 a1] rfl (by (try simp only [List.map_toArray, List.map_cons, List.map_nil]); first | done | rfl | (simp only [List.length_drop, List.length_take]; rfl)) ?_; (with_reducible refine (slices_Index_int_int.calls k _ _ l0 a1 t189 _ ?side1 ?side2 A3.out).mono ?_); (case side1 => repeat (first | exact HR0.out | (with_reducible refine Kd.C_alloc ?_ _) | (with_reducible refine Kd.C_drewN ?_ _) | (with_reducible refine Kd.C_drew ?_))); (case side2 => exact HC0.out); rintro e w' ⟨rfl, ⟨nd, rfl⟩⟩; refine ⟨_, rfl, ?_⟩))
  go_ret
  exact ⟨by first | rfl | (simp; done) | (simp [*]; done), by repeat (first | exact Drawn0.refl _ | apply Drawn0.step)⟩

/-! ### policy_Covers: function 17 -/
def policy_Covers.f (k : Nat) (a0_0 : ByteArray) (a0_1 : ByteArray) (a0_2 : ByteArray) (a0_3 : Int) (a0_4 : Int) (l0_5 : List Int) (a0_6 : Int) (a0_7 : Int) (a0_8 : Int) (l1 : List (S47)) (a2 : Int) (a3 : Int) : Option (Bool) := (policy_May.f k a0_0 a0_1 a0_2 a0_3 a0_4 l0_5 a0_6 a0_7 a0_8).bind fun t191 => (if t191 = true then ((slices_Contains_int_int.f k l0_5 a2).bind fun t192 => (if t192 = true then ((policy_within.f a3 a0_6 a0_7).bind fun t193 => (if t193 = true then ((policy_onWay.f a0_0 a0_1 a0_2 a0_3 a0_4 l0_5 a0_6 a0_7 a0_8 l1 a3).bind fun t194 => (some t194)) else (some false))) else (some false))) else (some false))
theorem policy_Covers.mono : ∀ a0 a1 a2 a3 a4 a5 a6 a7 a8 a9 a10 a11 k, LeO (policy_Covers.f k a0 a1 a2 a3 a4 a5 a6 a7 a8 a9 a10 a11) (policy_Covers.f (k + 1) a0 a1 a2 a3 a4 a5 a6 a7 a8 a9 a10 a11) := by
  intro a0 a1 a2 a3 a4 a5 a6 a7 a8 a9 a10 a11 k
  unfold policy_Covers.f
  repeat' first
      | (with_reducible exact policy_May.mono _ _ _ _ _ _ _ _ _ _)
      | (with_reducible exact slices_Contains_int_int.mono _ _ _)
      | (with_reducible exact LeO.refl _)
      | (with_reducible exact LeO.none _)
      | (with_reducible refine LeO.ite ?_ ?_)
      | (with_reducible refine LeO.bind ?_ (fun _ => ?_))
      | exact policy_May.mono _ _ _ _ _ _ _ _ _ _
      | exact slices_Contains_int_int.mono _ _ _
      | exact LeO.none _
      | refine LeO.ite ?_ ?_
      | refine LeO.bind ?_ (fun _ => ?_)
set_option maxHeartbeats 8000000 in
set_option maxRecDepth 100000 in
theorem policy_Covers.calls (k : Nat) (a0_0 : ByteArray) (a0_1 : ByteArray) (a0_2 : ByteArray) (a0_3 : Int) (a0_4 : Int) (A0_5 : Option Addr) (c0_5 : Nat) (l0_5 : List Int) (a0_6 : Int) (a0_7 : Int) (a0_8 : Int) (A1 : Option Addr) (c1 : Nat) (l1 : List (S47)) (a2 : Int) (a3 : Int) (r : Bool) (w : World) (hr0_5 : Kd.C (Kd.int .i64) w A0_5 l0_5.length l0_5) (hc0_5 : l0_5.length ≤ c0_5) (hr1 : Kd.C k47 w A1 l1.length l1) (hc1 : l1.length ≤ c1) (h : policy_Covers.f k a0_0 a0_1 a0_2 a0_3 a0_4 l0_5 a0_6 a0_7 a0_8 l1 a2 a3 = some r) :
    Calls Try.prog 17 #[.agg #[.string a0_0, .string a0_1, .string a0_2, .int .i64 a0_3, .int .i64 a0_4, .slice A0_5 l0_5.length c0_5, .int .i64 a0_6, .int .i64 a0_7, .int .i64 a0_8], .slice A1 l1.length c1, .int .i64 a2, .int .i64 a3] w fun e w' => e = .returned (.bool r) ∧ Below w.heap.size w w' := by
  have hu24 := Try.underlying24
  have HR0_5 := Aside0.mk hr0_5
  have HC0_5 := Aside0.mk hc0_5
  clear hr0_5 hc0_5
  have HR1 := Aside0.mk hr1
  have HC1 := Aside0.mk hc1
  clear hr1 hc1
  have HB := Aside0.mk (Below.refl w.heap.size w)
  have H : ((policy_May.f k a0_0 a0_1 a0_2 a0_3 a0_4 l0_5 a0_6 a0_7 a0_8).bind fun t191 => (if t191 = true then ((slices_Contains_int_int.f k l0_5 a2).bind fun t192 => (if t192 = true then ((policy_within.f a3 a0_6 a0_7).bind fun t193 => (if t193 = true then ((policy_onWay.f a0_0 a0_1 a0_2 a0_3 a0_4 l0_5 a0_6 a0_7 a0_8 l1 a3).bind fun t194 => (some t194)) else (some false))) else (some false))) else (some false))) = some r := h
  clear h
  replace H := Option.bind_eq_some_iff.mp H
  obtain ⟨t191, A50, H⟩ := H
  replace H : (if t191 = true then ((slices_Contains_int_int.f k l0_5 a2).bind fun t192 => (if t192 = true then ((policy_within.f a3 a0_6 a0_7).bind fun t193 => (if t193 = true then ((policy_onWay.f a0_0 a0_1 a0_2 a0_3 a0_4 l0_5 a0_6 a0_7 a0_8 l1 a3).bind fun t194 => (some t194)) else (some false))) else (some false))) else (some false)) = some r := H
  have A5 := Aside0.mk A50
  clear A50
  by_cases c6 : t191 = true
  · subst c6
    have H1 : ((slices_Contains_int_int.f k l0_5 a2).bind fun t192 => (if t192 = true then ((policy_within.f a3 a0_6 a0_7).bind fun t193 => (if t193 = true then ((policy_onWay.f a0_0 a0_1 a0_2 a0_3 a0_4 l0_5 a0_6 a0_7 a0_8 l1 a3).bind fun t194 => (some t194)) else (some false))) else (some false))) = some r := by rw [if_pos rfl] at H; exact H
    clear H
    have H := H1
    clear H1
    replace H := Option.bind_eq_some_iff.mp H
    obtain ⟨t192, A70, H⟩ := H
    replace H : (if t192 = true then ((policy_within.f a3 a0_6 a0_7).bind fun t193 => (if t193 = true then ((policy_onWay.f a0_0 a0_1 a0_2 a0_3 a0_4 l0_5 a0_6 a0_7 a0_8 l1 a3).bind fun t194 => (some t194)) else (some false))) else (some false)) = some r := H
    have A7 := Aside0.mk A70
    clear A70
    by_cases c8 : t192 = true
    · subst c8
      have H1 : ((policy_within.f a3 a0_6 a0_7).bind fun t193 => (if t193 = true then ((policy_onWay.f a0_0 a0_1 a0_2 a0_3 a0_4 l0_5 a0_6 a0_7 a0_8 l1 a3).bind fun t194 => (some t194)) else (some false))) = some r := by rw [if_pos rfl] at H; exact H
      clear H
      have H := H1
      clear H1
      replace H := Option.bind_eq_some_iff.mp H
      obtain ⟨t193, A90, H⟩ := H
      replace H : (if t193 = true then ((policy_onWay.f a0_0 a0_1 a0_2 a0_3 a0_4 l0_5 a0_6 a0_7 a0_8 l1 a3).bind fun t194 => (some t194)) else (some false)) = some r := H
      have A9 := Aside0.mk A90
      clear A90
      by_cases c10 : t193 = true
      · subst c10
        have H1 : ((policy_onWay.f a0_0 a0_1 a0_2 a0_3 a0_4 l0_5 a0_6 a0_7 a0_8 l1 a3).bind fun t194 => (some t194)) = some r := by rw [if_pos rfl] at H; exact H
        clear H
        have H := H1
        clear H1
        replace H := Option.bind_eq_some_iff.mp H
        obtain ⟨t194, A110, H⟩ := H
        replace H : (some t194) = some r := H
        have A11 := Aside0.mk A110
        clear A110
        obtain rfl := Option.some.inj H
        go_enter Try.func17, Try.ntmps17
        go_wp2_with (first | ((with_reducible refine gate_dst (N := 4) rfl ?_); refine box_event ?hg (N := 4) ?hd (cs := #[.string a0_0, .string a0_1, .string a0_2, .int .i64 a0_3, .int .i64 a0_4, .slice A0_5 l0_5.length c0_5, .int .i64 a0_6, .int .i64 a0_7, .int .i64 a0_8]) (t := 24) ?hr ?_; (case hd => rfl); (case hg => rfl); (case hr => first | (go_simp; done) | (go_simp; rfl)); intro gb190 hg w12 hbox hb; have n0_ := Aside0.mk (below_step (by repeat (first | (with_reducible first | exact HB.out | apply below_alloc | apply pw_below_drewN | apply below_drew1) | exact HB.out)) hb); have n1_ := Aside0.mk (hbox); have n2_ := Aside0.mk ((by rw [hg]; exact (below_size (by repeat (first | (with_reducible first | exact HB.out | apply below_alloc | apply pw_below_drewN | apply below_drew1) | exact HB.out))) : w.heap.size ≤ gb190)); have n3_ := Aside0.mk ((by rw [hg]; exact (below_size (by repeat (first | (with_reducible first | exact HB.out | apply below_alloc | apply pw_below_drewN | apply below_drew1) | exact HB.out))) : w.heap.size ≤ gb190)); clear HB; have HB := n0_; have BK190 := n1_; have GW190 := n2_; have GE190 := n3_; clear n0_ n1_ n2_ n3_; clear hb hbox hg; have hcz13_0 : w12.cell? ⟨gb190, 0, none⟩ = some (.string a0_0) := (blk_cell BK190.out 0).trans rfl; have hcz13_1 : w12.cell? ⟨gb190, 1, none⟩ = some (.string a0_1) := (blk_cell BK190.out 1).trans rfl; have hcz13_2 : w12.cell? ⟨gb190, 2, none⟩ = some (.string a0_2) := (blk_cell BK190.out 2).trans rfl; have hcz13_3 : w12.cell? ⟨gb190, 3, none⟩ = some (.int .i64 a0_3) := (blk_cell BK190.out 3).trans rfl; have hcz13_4 : w12.cell? ⟨gb190, 4, none⟩ = some (.int .i64 a0_4) := (blk_cell BK190.out 4).trans rfl; have hcz13_5 : w12.cell? ⟨gb190, 5, none⟩ = some (.slice A0_5 l0_5.length c0_5) := (blk_cell BK190.out 5).trans rfl; have hcz13_6 : w12.cell? ⟨gb190, 6, none⟩ = some (.int .i64 a0_6) := (blk_cell BK190.out 6).trans rfl; have hcz13_7 : w12.cell? ⟨gb190, 7, none⟩ = some (.int .i64 a0_7) := (blk_cell BK190.out 7).trans rfl; have hcz13_8 : w12.cell? ⟨gb190, 8, none⟩ = some (.int .i64 a0_8) := (blk_cell BK190.out 8).trans rfl; have hfz13_0 := blk_frozen BK190.out 0; have hfz13_1 := blk_frozen BK190.out 1; have hfz13_2 := blk_frozen BK190.out 2; have hfz13_3 := blk_frozen BK190.out 3; have hfz13_4 := blk_frozen BK190.out 4; have hfz13_5 := blk_frozen BK190.out 5; have hfz13_6 := blk_frozen BK190.out 6; have hfz13_7 := blk_frozen BK190.out 7; have hfz13_8 := blk_frozen BK190.out 8) | ((with_reducible refine gate_callee (f := 16) rfl ?_); refine goesL_ (some 10) rfl rfl Try.func16 (by kernel_rfl) rfl #[.agg #[.string a0_0, .string a0_1, .string a0_2, .int .i64 a0_3, .int .i64 a0_4, .slice A0_5 l0_5.length c0_5, .int .i64 a0_6, .int .i64 a0_7, .int .i64 a0_8]] rfl (by (try simp only [List.map_toArray, List.map_cons, List.map_nil]); first | done | rfl | (simp only [List.length_drop, List.length_take]; rfl)) ?_; (with_reducible refine (policy_May.calls k a0_0 a0_1 a0_2 a0_3 a0_4 _ _ l0_5 a0_6 a0_7 a0_8 true _ ?side1 ?side2 A5.out).mono ?_); (case side1 => repeat (first | exact (Kd.C_below HR0_5.out HB.out) | (with_reducible refine Kd.C_alloc ?_ _) | (with_reducible refine Kd.C_drewN ?_ _) | (with_reducible refine Kd.C_drew ?_))); (case side2 => exact HC0_5.out); rintro e w14 ⟨rfl, hb⟩; refine ⟨_, rfl, ?_⟩; have n0_ := Aside0.mk (blk_below (g := gb190) (o := .cells #[.string a0_0, .string a0_1, .string a0_2, .int .i64 a0_3, .int .i64 a0_4, .slice A0_5 l0_5.length c0_5, .int .i64 a0_6, .int .i64 a0_7, .int .i64 a0_8] 24 (0, 0)) (by (with_reducible repeat (first | refine blk_drewN ?_ _ | refine blk_drew ?_ | refine blk_alloc ?_ _)); exact BK190.out) hb); have n1_ := Aside0.mk (below_step (by repeat (first | (with_reducible first | exact HB.out | apply below_alloc | apply pw_below_drewN | apply below_drew1 | refine below_set ?_ GE190.out) | exact HB.out)) hb); clear BK190; clear HB; have BK190 := n0_; have HB := n1_; clear n0_ n1_; (try clear hb); (try clear hb2); (try clear hk); (try clear hi); have hcz15_0 : w14.cell? ⟨gb190, 0, none⟩ = some (.string a0_0) := (blk_cell BK190.out 0).trans rfl; have hcz15_1 : w14.cell? ⟨gb190, 1, none⟩ = some (.string a0_1) := (blk_cell BK190.out 1).trans rfl; have hcz15_2 : w14.cell? ⟨gb190, 2, none⟩ = some (.string a0_2) := (blk_cell BK190.out 2).trans rfl; have hcz15_3 : w14.cell? ⟨gb190, 3, none⟩ = some (.int .i64 a0_3) := (blk_cell BK190.out 3).trans rfl; have hcz15_4 : w14.cell? ⟨gb190, 4, none⟩ = some (.int .i64 a0_4) := (blk_cell BK190.out 4).trans rfl; have hcz15_5 : w14.cell? ⟨gb190, 5, none⟩ = some (.slice A0_5 l0_5.length c0_5) := (blk_cell BK190.out 5).trans rfl; have hcz15_6 : w14.cell? ⟨gb190, 6, none⟩ = some (.int .i64 a0_6) := (blk_cell BK190.out 6).trans rfl; have hcz15_7 : w14.cell? ⟨gb190, 7, none⟩ = some (.int .i64 a0_7) := (blk_cell BK190.out 7).trans rfl; have hcz15_8 : w14.cell? ⟨gb190, 8, none⟩ = some (.int .i64 a0_8) := (blk_cell BK190.out 8).trans rfl; have hfz15_0 := blk_frozen BK190.out 0; have hfz15_1 := blk_frozen BK190.out 1; have hfz15_2 := blk_frozen BK190.out 2; have hfz15_3 := blk_frozen BK190.out 3; have hfz15_4 := blk_frozen BK190.out 4; have hfz15_5 := blk_frozen BK190.out 5; have hfz15_6 := blk_frozen BK190.out 6; have hfz15_7 := blk_frozen BK190.out 7; have hfz15_8 := blk_frozen BK190.out 8) | (go_at_call 26; (with_reducible refine (slices_Contains_int_int.calls k _ _ l0_5 a2 true _ ?side1 ?side2 A7.out).mono ?_); (case side1 => repeat (first | exact (Kd.C_below HR0_5.out HB.out) | (with_reducible refine Kd.C_alloc ?_ _) | (with_reducible refine Kd.C_drewN ?_ _) | (with_reducible refine Kd.C_drew ?_))); (case side2 => exact HC0_5.out); rintro e w' ⟨rfl, ⟨nd, rfl⟩⟩) | (go_at_call 19; (with_reducible refine (policy_within.calls a3 a0_6 a0_7 true _ A9.out).mono ?_); rintro e w' ⟨rfl, ⟨nd, rfl⟩⟩) | (go_at_call 27; (with_reducible refine (policy_onWay.calls a0_0 a0_1 a0_2 a0_3 a0_4 _ _ l0_5 a0_6 a0_7 a0_8 _ _ l1 a3 t194 _ ?side1 ?side2 ?side3 ?side4 A11.out).mono ?_); (case side1 => repeat (first | exact (Kd.C_below HR0_5.out (by repeat (first | (with_reducible first | exact HB.out | apply below_alloc | apply pw_below_drewN | apply below_drew1 | refine below_set ?_ GE190.out) | exact HB.out))) | (with_reducible refine Kd.C_alloc ?_ _) | (with_reducible refine Kd.C_drewN ?_ _) | (with_reducible refine Kd.C_drew ?_))); (case side2 => exact HC0_5.out); (case side3 => repeat (first | exact (Kd.C_below HR1.out (by repeat (first | (with_reducible first | exact HB.out | apply below_alloc | apply pw_below_drewN | apply below_drew1 | refine below_set ?_ GE190.out) | exact HB.out))) | (with_reducible refine Kd.C_alloc ?_ _) | (with_reducible refine Kd.C_drewN ?_ _) | (with_reducible refine Kd.C_drew ?_))); (case side4 => exact HC1.out); rintro e w16 ⟨rfl, hb⟩; have n0_ := Aside0.mk (blk_below (g := gb190) (o := .cells #[.string a0_0, .string a0_1, .string a0_2, .int .i64 a0_3, .int .i64 a0_4, .slice A0_5 l0_5.length c0_5, .int .i64 a0_6, .int .i64 a0_7, .int .i64 a0_8] 24 (0, 0)) (by (with_reducible repeat (first | refine blk_drewN ?_ _ | refine blk_drew ?_ | refine blk_alloc ?_ _)); exact BK190.out) hb); have n1_ := Aside0.mk (below_step (by repeat (first | (with_reducible first | exact HB.out | apply below_alloc | apply pw_below_drewN | apply below_drew1 | refine below_set ?_ GE190.out) | exact HB.out)) hb); clear BK190; clear HB; have BK190 := n0_; have HB := n1_; clear n0_ n1_; (try clear hb); (try clear hb2); (try clear hk); (try clear hi)))
        go_ret
        exact ⟨by first | rfl | (simp [errW_none, errW_some] <;> rfl) | (simp [*, errW_none, errW_some] <;> rfl), by repeat (first | (with_reducible first | exact HB.out | apply below_alloc | apply pw_below_drewN | apply below_drew1 | refine below_set ?_ GE190.out) | exact HB.out)⟩
      · replace c10 := Bool.eq_false_iff.mpr c10
        subst c10
        have H1 : (some false) = some r := by rw [if_neg (show ¬ (false = true) by decide)] at H; exact H
        clear H
        have H := H1
        clear H1
        obtain rfl := Option.some.inj H
        go_enter Try.func17, Try.ntmps17
        go_wp2_with (first | ((with_reducible refine gate_dst (N := 4) rfl ?_); refine box_event ?hg (N := 4) ?hd (cs := #[.string a0_0, .string a0_1, .string a0_2, .int .i64 a0_3, .int .i64 a0_4, .slice A0_5 l0_5.length c0_5, .int .i64 a0_6, .int .i64 a0_7, .int .i64 a0_8]) (t := 24) ?hr ?_; (case hd => rfl); (case hg => rfl); (case hr => first | (go_simp; done) | (go_simp; rfl)); intro gb190 hg w17 hbox hb; have n0_ := Aside0.mk (below_step (by repeat (first | (with_reducible first | exact HB.out | apply below_alloc | apply pw_below_drewN | apply below_drew1) | exact HB.out)) hb); have n1_ := Aside0.mk (hbox); have n2_ := Aside0.mk ((by rw [hg]; exact (below_size (by repeat (first | (with_reducible first | exact HB.out | apply below_alloc | apply pw_below_drewN | apply below_drew1) | exact HB.out))) : w.heap.size ≤ gb190)); have n3_ := Aside0.mk ((by rw [hg]; exact (below_size (by repeat (first | (with_reducible first | exact HB.out | apply below_alloc | apply pw_below_drewN | apply below_drew1) | exact HB.out))) : w.heap.size ≤ gb190)); clear HB; have HB := n0_; have BK190 := n1_; have GW190 := n2_; have GE190 := n3_; clear n0_ n1_ n2_ n3_; clear hb hbox hg; have hcz18_0 : w17.cell? ⟨gb190, 0, none⟩ = some (.string a0_0) := (blk_cell BK190.out 0).trans rfl; have hcz18_1 : w17.cell? ⟨gb190, 1, none⟩ = some (.string a0_1) := (blk_cell BK190.out 1).trans rfl; have hcz18_2 : w17.cell? ⟨gb190, 2, none⟩ = some (.string a0_2) := (blk_cell BK190.out 2).trans rfl; have hcz18_3 : w17.cell? ⟨gb190, 3, none⟩ = some (.int .i64 a0_3) := (blk_cell BK190.out 3).trans rfl; have hcz18_4 : w17.cell? ⟨gb190, 4, none⟩ = some (.int .i64 a0_4) := (blk_cell BK190.out 4).trans rfl; have hcz18_5 : w17.cell? ⟨gb190, 5, none⟩ = some (.slice A0_5 l0_5.length c0_5) := (blk_cell BK190.out 5).trans rfl; have hcz18_6 : w17.cell? ⟨gb190, 6, none⟩ = some (.int .i64 a0_6) := (blk_cell BK190.out 6).trans rfl; have hcz18_7 : w17.cell? ⟨gb190, 7, none⟩ = some (.int .i64 a0_7) := (blk_cell BK190.out 7).trans rfl; have hcz18_8 : w17.cell? ⟨gb190, 8, none⟩ = some (.int .i64 a0_8) := (blk_cell BK190.out 8).trans rfl; have hfz18_0 := blk_frozen BK190.out 0; have hfz18_1 := blk_frozen BK190.out 1; have hfz18_2 := blk_frozen BK190.out 2; have hfz18_3 := blk_frozen BK190.out 3; have hfz18_4 := blk_frozen BK190.out 4; have hfz18_5 := blk_frozen BK190.out 5; have hfz18_6 := blk_frozen BK190.out 6; have hfz18_7 := blk_frozen BK190.out 7; have hfz18_8 := blk_frozen BK190.out 8) | ((with_reducible refine gate_callee (f := 16) rfl ?_); refine goesL_ (some 10) rfl rfl Try.func16 (by kernel_rfl) rfl #[.agg #[.string a0_0, .string a0_1, .string a0_2, .int .i64 a0_3, .int .i64 a0_4, .slice A0_5 l0_5.length c0_5, .int .i64 a0_6, .int .i64 a0_7, .int .i64 a0_8]] rfl (by (try simp only [List.map_toArray, List.map_cons, List.map_nil]); first | done | rfl | (simp only [List.length_drop, List.length_take]; rfl)) ?_; (with_reducible refine (policy_May.calls k a0_0 a0_1 a0_2 a0_3 a0_4 _ _ l0_5 a0_6 a0_7 a0_8 true _ ?side1 ?side2 A5.out).mono ?_); (case side1 => repeat (first | exact (Kd.C_below HR0_5.out HB.out) | (with_reducible refine Kd.C_alloc ?_ _) | (with_reducible refine Kd.C_drewN ?_ _) | (with_reducible refine Kd.C_drew ?_))); (case side2 => exact HC0_5.out); rintro e w19 ⟨rfl, hb⟩; refine ⟨_, rfl, ?_⟩; have n0_ := Aside0.mk (blk_below (g := gb190) (o := .cells #[.string a0_0, .string a0_1, .string a0_2, .int .i64 a0_3, .int .i64 a0_4, .slice A0_5 l0_5.length c0_5, .int .i64 a0_6, .int .i64 a0_7, .int .i64 a0_8] 24 (0, 0)) (by (with_reducible repeat (first | refine blk_drewN ?_ _ | refine blk_drew ?_ | refine blk_alloc ?_ _)); exact BK190.out) hb); have n1_ := Aside0.mk (below_step (by repeat (first | (with_reducible first | exact HB.out | apply below_alloc | apply pw_below_drewN | apply below_drew1 | refine below_set ?_ GE190.out) | exact HB.out)) hb); clear BK190; clear HB; have BK190 := n0_; have HB := n1_; clear n0_ n1_; (try clear hb); (try clear hb2); (try clear hk); (try clear hi); have hcz20_0 : w19.cell? ⟨gb190, 0, none⟩ = some (.string a0_0) := (blk_cell BK190.out 0).trans rfl; have hcz20_1 : w19.cell? ⟨gb190, 1, none⟩ = some (.string a0_1) := (blk_cell BK190.out 1).trans rfl; have hcz20_2 : w19.cell? ⟨gb190, 2, none⟩ = some (.string a0_2) := (blk_cell BK190.out 2).trans rfl; have hcz20_3 : w19.cell? ⟨gb190, 3, none⟩ = some (.int .i64 a0_3) := (blk_cell BK190.out 3).trans rfl; have hcz20_4 : w19.cell? ⟨gb190, 4, none⟩ = some (.int .i64 a0_4) := (blk_cell BK190.out 4).trans rfl; have hcz20_5 : w19.cell? ⟨gb190, 5, none⟩ = some (.slice A0_5 l0_5.length c0_5) := (blk_cell BK190.out 5).trans rfl; have hcz20_6 : w19.cell? ⟨gb190, 6, none⟩ = some (.int .i64 a0_6) := (blk_cell BK190.out 6).trans rfl; have hcz20_7 : w19.cell? ⟨gb190, 7, none⟩ = some (.int .i64 a0_7) := (blk_cell BK190.out 7).trans rfl; have hcz20_8 : w19.cell? ⟨gb190, 8, none⟩ = some (.int .i64 a0_8) := (blk_cell BK190.out 8).trans rfl; have hfz20_0 := blk_frozen BK190.out 0; have hfz20_1 := blk_frozen BK190.out 1; have hfz20_2 := blk_frozen BK190.out 2; have hfz20_3 := blk_frozen BK190.out 3; have hfz20_4 := blk_frozen BK190.out 4; have hfz20_5 := blk_frozen BK190.out 5; have hfz20_6 := blk_frozen BK190.out 6; have hfz20_7 := blk_frozen BK190.out 7; have hfz20_8 := blk_frozen BK190.out 8) | (go_at_call 26; (with_reducible refine (slices_Contains_int_int.calls k _ _ l0_5 a2 true _ ?side1 ?side2 A7.out).mono ?_); (case side1 => repeat (first | exact (Kd.C_below HR0_5.out HB.out) | (with_reducible refine Kd.C_alloc ?_ _) | (with_reducible refine Kd.C_drewN ?_ _) | (with_reducible refine Kd.C_drew ?_))); (case side2 => exact HC0_5.out); rintro e w' ⟨rfl, ⟨nd, rfl⟩⟩) | (go_at_call 19; (with_reducible refine (policy_within.calls a3 a0_6 a0_7 false _ A9.out).mono ?_); rintro e w' ⟨rfl, ⟨nd, rfl⟩⟩))
        go_ret
        exact ⟨by first | rfl | (simp [errW_none, errW_some] <;> rfl) | (simp [*, errW_none, errW_some] <;> rfl), by repeat (first | (with_reducible first | exact HB.out | apply below_alloc | apply pw_below_drewN | apply below_drew1 | refine below_set ?_ GE190.out) | exact HB.out)⟩
    · replace c8 := Bool.eq_false_iff.mpr c8
      subst c8
      have H1 : (some false) = some r := by rw [if_neg (show ¬ (false = true) by decide)] at H; exact H
      clear H
      have H := H1
      clear H1
      obtain rfl := Option.some.inj H
      go_enter Try.func17, Try.ntmps17
      go_wp2_with (first | ((with_reducible refine gate_dst (N := 4) rfl ?_); refine box_event ?hg (N := 4) ?hd (cs := #[.string a0_0, .string a0_1, .string a0_2, .int .i64 a0_3, .int .i64 a0_4, .slice A0_5 l0_5.length c0_5, .int .i64 a0_6, .int .i64 a0_7, .int .i64 a0_8]) (t := 24) ?hr ?_; (case hd => rfl); (case hg => rfl); (case hr => first | (go_simp; done) | (go_simp; rfl)); intro gb190 hg w21 hbox hb; have n0_ := Aside0.mk (below_step (by repeat (first | (with_reducible first | exact HB.out | apply below_alloc | apply pw_below_drewN | apply below_drew1) | exact HB.out)) hb); have n1_ := Aside0.mk (hbox); have n2_ := Aside0.mk ((by rw [hg]; exact (below_size (by repeat (first | (with_reducible first | exact HB.out | apply below_alloc | apply pw_below_drewN | apply below_drew1) | exact HB.out))) : w.heap.size ≤ gb190)); have n3_ := Aside0.mk ((by rw [hg]; exact (below_size (by repeat (first | (with_reducible first | exact HB.out | apply below_alloc | apply pw_below_drewN | apply below_drew1) | exact HB.out))) : w.heap.size ≤ gb190)); clear HB; have HB := n0_; have BK190 := n1_; have GW190 := n2_; have GE190 := n3_; clear n0_ n1_ n2_ n3_; clear hb hbox hg; have hcz22_0 : w21.cell? ⟨gb190, 0, none⟩ = some (.string a0_0) := (blk_cell BK190.out 0).trans rfl; have hcz22_1 : w21.cell? ⟨gb190, 1, none⟩ = some (.string a0_1) := (blk_cell BK190.out 1).trans rfl; have hcz22_2 : w21.cell? ⟨gb190, 2, none⟩ = some (.string a0_2) := (blk_cell BK190.out 2).trans rfl; have hcz22_3 : w21.cell? ⟨gb190, 3, none⟩ = some (.int .i64 a0_3) := (blk_cell BK190.out 3).trans rfl; have hcz22_4 : w21.cell? ⟨gb190, 4, none⟩ = some (.int .i64 a0_4) := (blk_cell BK190.out 4).trans rfl; have hcz22_5 : w21.cell? ⟨gb190, 5, none⟩ = some (.slice A0_5 l0_5.length c0_5) := (blk_cell BK190.out 5).trans rfl; have hcz22_6 : w21.cell? ⟨gb190, 6, none⟩ = some (.int .i64 a0_6) := (blk_cell BK190.out 6).trans rfl; have hcz22_7 : w21.cell? ⟨gb190, 7, none⟩ = some (.int .i64 a0_7) := (blk_cell BK190.out 7).trans rfl; have hcz22_8 : w21.cell? ⟨gb190, 8, none⟩ = some (.int .i64 a0_8) := (blk_cell BK190.out 8).trans rfl; have hfz22_0 := blk_frozen BK190.out 0; have hfz22_1 := blk_frozen BK190.out 1; have hfz22_2 := blk_frozen BK190.out 2; have hfz22_3 := blk_frozen BK190.out 3; have hfz22_4 := blk_frozen BK190.out 4; have hfz22_5 := blk_frozen BK190.out 5; have hfz22_6 := blk_frozen BK190.out 6; have hfz22_7 := blk_frozen BK190.out 7; have hfz22_8 := blk_frozen BK190.out 8) | ((with_reducible refine gate_callee (f := 16) rfl ?_); refine goesL_ (some 10) rfl rfl Try.func16 (by kernel_rfl) rfl #[.agg #[.string a0_0, .string a0_1, .string a0_2, .int .i64 a0_3, .int .i64 a0_4, .slice A0_5 l0_5.length c0_5, .int .i64 a0_6, .int .i64 a0_7, .int .i64 a0_8]] rfl (by (try simp only [List.map_toArray, List.map_cons, List.map_nil]); first | done | rfl | (simp only [List.length_drop, List.length_take]; rfl)) ?_; (with_reducible refine (policy_May.calls k a0_0 a0_1 a0_2 a0_3 a0_4 _ _ l0_5 a0_6 a0_7 a0_8 true _ ?side1 ?side2 A5.out).mono ?_); (case side1 => repeat (first | exact (Kd.C_below HR0_5.out HB.out) | (with_reducible refine Kd.C_alloc ?_ _) | (with_reducible refine Kd.C_drewN ?_ _) | (with_reducible refine Kd.C_drew ?_))); (case side2 => exact HC0_5.out); rintro e w23 ⟨rfl, hb⟩; refine ⟨_, rfl, ?_⟩; have n0_ := Aside0.mk (blk_below (g := gb190) (o := .cells #[.string a0_0, .string a0_1, .string a0_2, .int .i64 a0_3, .int .i64 a0_4, .slice A0_5 l0_5.length c0_5, .int .i64 a0_6, .int .i64 a0_7, .int .i64 a0_8] 24 (0, 0)) (by (with_reducible repeat (first | refine blk_drewN ?_ _ | refine blk_drew ?_ | refine blk_alloc ?_ _)); exact BK190.out) hb); have n1_ := Aside0.mk (below_step (by repeat (first | (with_reducible first | exact HB.out | apply below_alloc | apply pw_below_drewN | apply below_drew1 | refine below_set ?_ GE190.out) | exact HB.out)) hb); clear BK190; clear HB; have BK190 := n0_; have HB := n1_; clear n0_ n1_; (try clear hb); (try clear hb2); (try clear hk); (try clear hi); have hcz24_0 : w23.cell? ⟨gb190, 0, none⟩ = some (.string a0_0) := (blk_cell BK190.out 0).trans rfl; have hcz24_1 : w23.cell? ⟨gb190, 1, none⟩ = some (.string a0_1) := (blk_cell BK190.out 1).trans rfl; have hcz24_2 : w23.cell? ⟨gb190, 2, none⟩ = some (.string a0_2) := (blk_cell BK190.out 2).trans rfl; have hcz24_3 : w23.cell? ⟨gb190, 3, none⟩ = some (.int .i64 a0_3) := (blk_cell BK190.out 3).trans rfl; have hcz24_4 : w23.cell? ⟨gb190, 4, none⟩ = some (.int .i64 a0_4) := (blk_cell BK190.out 4).trans rfl; have hcz24_5 : w23.cell? ⟨gb190, 5, none⟩ = some (.slice A0_5 l0_5.length c0_5) := (blk_cell BK190.out 5).trans rfl; have hcz24_6 : w23.cell? ⟨gb190, 6, none⟩ = some (.int .i64 a0_6) := (blk_cell BK190.out 6).trans rfl; have hcz24_7 : w23.cell? ⟨gb190, 7, none⟩ = some (.int .i64 a0_7) := (blk_cell BK190.out 7).trans rfl; have hcz24_8 : w23.cell? ⟨gb190, 8, none⟩ = some (.int .i64 a0_8) := (blk_cell BK190.out 8).trans rfl; have hfz24_0 := blk_frozen BK190.out 0; have hfz24_1 := blk_frozen BK190.out 1; have hfz24_2 := blk_frozen BK190.out 2; have hfz24_3 := blk_frozen BK190.out 3; have hfz24_4 := blk_frozen BK190.out 4; have hfz24_5 := blk_frozen BK190.out 5; have hfz24_6 := blk_frozen BK190.out 6; have hfz24_7 := blk_frozen BK190.out 7; have hfz24_8 := blk_frozen BK190.out 8) | (go_at_call 26; (with_reducible refine (slices_Contains_int_int.calls k _ _ l0_5 a2 false _ ?side1 ?side2 A7.out).mono ?_); (case side1 => repeat (first | exact (Kd.C_below HR0_5.out HB.out) | (with_reducible refine Kd.C_alloc ?_ _) | (with_reducible refine Kd.C_drewN ?_ _) | (with_reducible refine Kd.C_drew ?_))); (case side2 => exact HC0_5.out); rintro e w' ⟨rfl, ⟨nd, rfl⟩⟩))
      go_ret
      exact ⟨by first | rfl | (simp [errW_none, errW_some] <;> rfl) | (simp [*, errW_none, errW_some] <;> rfl), by repeat (first | (with_reducible first | exact HB.out | apply below_alloc | apply pw_below_drewN | apply below_drew1 | refine below_set ?_ GE190.out) | exact HB.out)⟩
  · replace c6 := Bool.eq_false_iff.mpr c6
    subst c6
    have H1 : (some false) = some r := by rw [if_neg (show ¬ (false = true) by decide)] at H; exact H
    clear H
    have H := H1
    clear H1
    obtain rfl := Option.some.inj H
    go_enter Try.func17, Try.ntmps17
    go_wp2_with (first | ((with_reducible refine gate_dst (N := 4) rfl ?_); refine box_event ?hg (N := 4) ?hd (cs := #[.string a0_0, .string a0_1, .string a0_2, .int .i64 a0_3, .int .i64 a0_4, .slice A0_5 l0_5.length c0_5, .int .i64 a0_6, .int .i64 a0_7, .int .i64 a0_8]) (t := 24) ?hr ?_; (case hd => rfl); (case hg => rfl); (case hr => first | (go_simp; done) | (go_simp; rfl)); intro gb190 hg w25 hbox hb; have n0_ := Aside0.mk (below_step (by repeat (first | (with_reducible first | exact HB.out | apply below_alloc | apply pw_below_drewN | apply below_drew1) | exact HB.out)) hb); have n1_ := Aside0.mk (hbox); have n2_ := Aside0.mk ((by rw [hg]; exact (below_size (by repeat (first | (with_reducible first | exact HB.out | apply below_alloc | apply pw_below_drewN | apply below_drew1) | exact HB.out))) : w.heap.size ≤ gb190)); have n3_ := Aside0.mk ((by rw [hg]; exact (below_size (by repeat (first | (with_reducible first | exact HB.out | apply below_alloc | apply pw_below_drewN | apply below_drew1) | exact HB.out))) : w.heap.size ≤ gb190)); clear HB; have HB := n0_; have BK190 := n1_; have GW190 := n2_; have GE190 := n3_; clear n0_ n1_ n2_ n3_; clear hb hbox hg; have hcz26_0 : w25.cell? ⟨gb190, 0, none⟩ = some (.string a0_0) := (blk_cell BK190.out 0).trans rfl; have hcz26_1 : w25.cell? ⟨gb190, 1, none⟩ = some (.string a0_1) := (blk_cell BK190.out 1).trans rfl; have hcz26_2 : w25.cell? ⟨gb190, 2, none⟩ = some (.string a0_2) := (blk_cell BK190.out 2).trans rfl; have hcz26_3 : w25.cell? ⟨gb190, 3, none⟩ = some (.int .i64 a0_3) := (blk_cell BK190.out 3).trans rfl; have hcz26_4 : w25.cell? ⟨gb190, 4, none⟩ = some (.int .i64 a0_4) := (blk_cell BK190.out 4).trans rfl; have hcz26_5 : w25.cell? ⟨gb190, 5, none⟩ = some (.slice A0_5 l0_5.length c0_5) := (blk_cell BK190.out 5).trans rfl; have hcz26_6 : w25.cell? ⟨gb190, 6, none⟩ = some (.int .i64 a0_6) := (blk_cell BK190.out 6).trans rfl; have hcz26_7 : w25.cell? ⟨gb190, 7, none⟩ = some (.int .i64 a0_7) := (blk_cell BK190.out 7).trans rfl; have hcz26_8 : w25.cell? ⟨gb190, 8, none⟩ = some (.int .i64 a0_8) := (blk_cell BK190.out 8).trans rfl; have hfz26_0 := blk_frozen BK190.out 0; have hfz26_1 := blk_frozen BK190.out 1; have hfz26_2 := blk_frozen BK190.out 2; have hfz26_3 := blk_frozen BK190.out 3; have hfz26_4 := blk_frozen BK190.out 4; have hfz26_5 := blk_frozen BK190.out 5; have hfz26_6 := blk_frozen BK190.out 6; have hfz26_7 := blk_frozen BK190.out 7; have hfz26_8 := blk_frozen BK190.out 8) | ((with_reducible refine gate_callee (f := 16) rfl ?_); refine goesL_ (some 10) rfl rfl Try.func16 (by kernel_rfl) rfl #[.agg #[.string a0_0, .string a0_1, .string a0_2, .int .i64 a0_3, .int .i64 a0_4, .slice A0_5 l0_5.length c0_5, .int .i64 a0_6, .int .i64 a0_7, .int .i64 a0_8]] rfl (by (try simp only [List.map_toArray, List.map_cons, List.map_nil]); first | done | rfl | (simp only [List.length_drop, List.length_take]; rfl)) ?_; (with_reducible refine (policy_May.calls k a0_0 a0_1 a0_2 a0_3 a0_4 _ _ l0_5 a0_6 a0_7 a0_8 false _ ?side1 ?side2 A5.out).mono ?_); (case side1 => repeat (first | exact (Kd.C_below HR0_5.out HB.out) | (with_reducible refine Kd.C_alloc ?_ _) | (with_reducible refine Kd.C_drewN ?_ _) | (with_reducible refine Kd.C_drew ?_))); (case side2 => exact HC0_5.out); rintro e w27 ⟨rfl, hb⟩; refine ⟨_, rfl, ?_⟩; have n0_ := Aside0.mk (blk_below (g := gb190) (o := .cells #[.string a0_0, .string a0_1, .string a0_2, .int .i64 a0_3, .int .i64 a0_4, .slice A0_5 l0_5.length c0_5, .int .i64 a0_6, .int .i64 a0_7, .int .i64 a0_8] 24 (0, 0)) (by (with_reducible repeat (first | refine blk_drewN ?_ _ | refine blk_drew ?_ | refine blk_alloc ?_ _)); exact BK190.out) hb); have n1_ := Aside0.mk (below_step (by repeat (first | (with_reducible first | exact HB.out | apply below_alloc | apply pw_below_drewN | apply below_drew1 | refine below_set ?_ GE190.out) | exact HB.out)) hb); clear BK190; clear HB; have BK190 := n0_; have HB := n1_; clear n0_ n1_; (try clear hb); (try clear hb2); (try clear hk); (try clear hi)))
    go_ret
    exact ⟨by first | rfl | (simp [errW_none, errW_some] <;> rfl) | (simp [*, errW_none, errW_some] <;> rfl), by repeat (first | (with_reducible first | exact HB.out | apply below_alloc | apply pw_below_drewN | apply below_drew1 | refine below_set ?_ GE190.out) | exact HB.out)⟩

end Go.Proofs.Ytkjcblbpeoijhaa.G
