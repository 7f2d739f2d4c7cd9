-- Printed by a program of this session's (wip/lab) after the kit's print: Lean checks it.
import Derived.Test.YtamgmceogjgijaaDoorGx0
import Derived.Test.YtamgmceogjgijaaDoorGx1
import Derived.Test.YtamgmceogjgijaaDoorH16
import Derived.Test.YtamgmceogjgijaaDoorExt
namespace Go.Proofs.YtamgmceogjgijaaDoor.G
open Go.Proofs.YtamgmceogjgijaaDoor.Ext
open Go.RowKit Go.Proofs.YtamgmceogjgijaaDoorW.PrintWords Go.Proofs.YtamgmceogjgijaaDoorW.PrintLast Go.Proofs.YtamgmceogjgijaaDoorW.PrintMore
attribute [local go_sem] max2_int min2_int max_two min_two max_three min_three max_four min_four   -- for this text's walks alone
set_option linter.unusedVariables false
set_option linter.unusedSimpArgs false

attribute [-simp] ByteArray.size_extract
/-! ### supercargoref27_one: function 26 -/
mutual
def supercargoref27_one.j1 : Nat → ByteArray → Int → Int → Option (Int × Int × ByteArray × Int × Int)
  | 0, _, _, _ => none
  | k + 1, x0, x1, x8 => if 0 ≤ x1 then (if x1 ≤ x8 then (if x8 ≤ (x0.size : Int) then ((supercargoref27_digits.f k (x0.extract (x1 : Int).toNat (x8 : Int).toNat)).bind fun t142 => (if t142 = true then (if ((x0.extract (x1 : Int).toNat (x8 : Int).toNat).size : Int) > 1 then (if 0 < ((x0.extract (x1 : Int).toNat (x8 : Int).toNat).size : Int) then (supercargoref27_one.j2 k x1 x8 (x0.extract (x1 : Int).toNat (x8 : Int).toNat) ((bt (x0.extract (x1 : Int).toNat (x8 : Int).toNat) 0) == 48)) else (none)) else (supercargoref27_one.j2 k x1 x8 (x0.extract (x1 : Int).toNat (x8 : Int).toNat) false)) else ((supercargoref27_Words.f).bind fun t144 => ((supercargoref27_in.f k t144 (x0.extract (x1 : Int).toNat (x8 : Int).toNat)).bind fun t147 => (if t147 = true then (some (0, x1, x0.extract (x1 : Int).toNat (x8 : Int).toNat, x8, 0)) else (if ((x0.extract (x1 : Int).toNat (x8 : Int).toNat).size : Int) > 16 then (some (0, 0, (⟨#[]⟩ : ByteArray), x1, 2)) else (some (1, x1, x0.extract (x1 : Int).toNat (x8 : Int).toNat, x8, 0)))))))) else (none)) else (none)) else (none)
def supercargoref27_one.j2 : Nat → Int → Int → ByteArray → Bool → Option (Int × Int × ByteArray × Int × Int)
  | 0, _, _, _, _ => none
  | k + 1, x1, x8, x9, x42 => if x42 = true then (some (0, 0, (⟨#[]⟩ : ByteArray), x1, 2)) else ((supercargoref27_above.f x9).bind fun t143 => (if t143 = true then (some (0, 0, (⟨#[]⟩ : ByteArray), x1, 3)) else (some (2, x1, x9, x8, 0))))
def supercargoref27_one.l0 : Nat → ByteArray → Int → Int → Option (Int × Int × ByteArray × Int × Int)
  | 0, _, _, _ => none
  | k + 1, x0, x1, x8 => if x8 < (x0.size : Int) then (if 0 ≤ x8 then ((supercargoref27_run.f (bt x0 x8)).bind fun t141 => (if t141 = true then (supercargoref27_one.l0 k x0 x1 (wrap64 (x8 + 1))) else (supercargoref27_one.j1 k x0 x1 x8))) else (none)) else (supercargoref27_one.j1 k x0 x1 x8)
def supercargoref27_one.j3 : Nat → ByteArray → Int → Int → Int → Bool → Option (Int × Int × ByteArray × Int × Int)
  | 0, _, _, _, _, _ => none
  | k + 1, x0, x1, x7, x8, x74 => if x74 = true then (supercargoref27_one.l1 k x0 x1 x8) else (if x7 = 34 then (supercargoref27_one.l2 k x0 x1 x8) else (if x7 = 60 then (if x8 < (x0.size : Int) then (if 0 ≤ x8 then (supercargoref27_one.j7 k x0 x1 x7 x8 ((bt x0 x8) == 61)) else (none)) else (supercargoref27_one.j7 k x0 x1 x7 x8 false)) else (if x7 = 62 then (if x8 < (x0.size : Int) then (if 0 ≤ x8 then (supercargoref27_one.j7 k x0 x1 x7 x8 ((bt x0 x8) == 61)) else (none)) else (supercargoref27_one.j7 k x0 x1 x7 x8 false)) else (supercargoref27_one.j7 k x0 x1 x7 x8 false))))
def supercargoref27_one.l1 : Nat → ByteArray → Int → Int → Option (Int × Int × ByteArray × Int × Int)
  | 0, _, _, _ => none
  | k + 1, x0, x1, x8 => if x8 < (x0.size : Int) then (if 0 ≤ x8 then (if (bt x0 x8) ≥ 65 then (if (bt x0 x8) ≤ 90 then (supercargoref27_one.l1 k x0 x1 (wrap64 (x8 + 1))) else (if (wrap64 (x8 - x1)) = 3 then (if 0 ≤ x1 then (if x1 ≤ x8 then (if x8 ≤ (x0.size : Int) then (some (4, x1, x0.extract (x1 : Int).toNat (x8 : Int).toNat, x8, 0)) else (none)) else (none)) else (none)) else (some (0, 0, (⟨#[]⟩ : ByteArray), x1, 2)))) else (if (wrap64 (x8 - x1)) = 3 then (if 0 ≤ x1 then (if x1 ≤ x8 then (if x8 ≤ (x0.size : Int) then (some (4, x1, x0.extract (x1 : Int).toNat (x8 : Int).toNat, x8, 0)) else (none)) else (none)) else (none)) else (some (0, 0, (⟨#[]⟩ : ByteArray), x1, 2)))) else (none)) else (if (wrap64 (x8 - x1)) = 3 then (if 0 ≤ x1 then (if x1 ≤ x8 then (if x8 ≤ (x0.size : Int) then (some (4, x1, x0.extract (x1 : Int).toNat (x8 : Int).toNat, x8, 0)) else (none)) else (none)) else (none)) else (some (0, 0, (⟨#[]⟩ : ByteArray), x1, 2)))
def supercargoref27_one.l2 : Nat → ByteArray → Int → Int → Option (Int × Int × ByteArray × Int × Int)
  | 0, _, _, _ => none
  | k + 1, x0, x1, x8 => if x8 < (x0.size : Int) then (if 0 ≤ x8 then (supercargoref27_one.j6 k x0 x1 x8 ((bt x0 x8) != 34)) else (none)) else (supercargoref27_one.j6 k x0 x1 x8 false)
def supercargoref27_one.j6 : Nat → ByteArray → Int → Int → Bool → Option (Int × Int × ByteArray × Int × Int)
  | 0, _, _, _, _ => none
  | k + 1, x0, x1, x8, x117 => if x117 = true then (if 0 ≤ x8 then (if x8 < (x0.size : Int) then (if (bt x0 x8) < 32 then (some (0, 0, (⟨#[]⟩ : ByteArray), x1, 2)) else (if (bt x0 x8) > 126 then (some (0, 0, (⟨#[]⟩ : ByteArray), x1, 2)) else (supercargoref27_one.l2 k x0 x1 (wrap64 (x8 + 1))))) else (none)) else (none)) else (if x8 = (x0.size : Int) then (some (0, 0, (⟨#[]⟩ : ByteArray), x1, 2)) else (if 0 ≤ (wrap64 (x1 + 1)) then (if (wrap64 (x1 + 1)) ≤ x8 then (if x8 ≤ (x0.size : Int) then (some (3, x1, x0.extract ((wrap64 (x1 + 1)) : Int).toNat (x8 : Int).toNat, wrap64 (x8 + 1), 0)) else (none)) else (none)) else (none)))
def supercargoref27_one.j7 : Nat → ByteArray → Int → Int → Int → Bool → Option (Int × Int × ByteArray × Int × Int)
  | 0, _, _, _, _, _ => none
  | k + 1, x0, x1, x7, x8, x164 => if x164 = true then (if 0 ≤ x1 then (if x1 ≤ (wrap64 (x8 + 1)) then (if (wrap64 (x8 + 1)) ≤ (x0.size : Int) then (some (5, x1, x0.extract (x1 : Int).toNat ((wrap64 (x8 + 1)) : Int).toNat, wrap64 (x8 + 1), 0)) else (none)) else (none)) else (none)) else ((supercargoref27_in.f k (([(⟨#[40]⟩ : ByteArray), (⟨#[41]⟩ : ByteArray), (⟨#[44]⟩ : ByteArray), (⟨#[59]⟩ : ByteArray), (⟨#[58]⟩ : ByteArray), (⟨#[46]⟩ : ByteArray), (⟨#[61]⟩ : ByteArray), (⟨#[126]⟩ : ByteArray)] : List ByteArray)) (strOfNums (([x7] : List Int)))).bind fun t154 => (if t154 = true then (if 0 ≤ x1 then (if x1 ≤ x8 then (if x8 ≤ (x0.size : Int) then (some (5, x1, x0.extract (x1 : Int).toNat (x8 : Int).toNat, x8, 0)) else (none)) else (none)) else (none)) else (some (0, 0, (⟨#[]⟩ : ByteArray), x1, 2))))
end
def supercargoref27_one.f (k : Nat) (a0 : ByteArray) (a1 : Int) : Option (Int × Int × ByteArray × Int × Int) := if 0 ≤ a1 then (if a1 < (a0.size : Int) then ((supercargoref27_run.f (bt a0 a1)).bind fun t140 => (if t140 = true then (supercargoref27_one.l0 k a0 a1 (wrap64 (a1 + 1))) else (if (bt a0 a1) ≥ 65 then (supercargoref27_one.j3 k a0 a1 (bt a0 a1) (wrap64 (a1 + 1)) (decide ((bt a0 a1) ≤ 90))) else (supercargoref27_one.j3 k a0 a1 (bt a0 a1) (wrap64 (a1 + 1)) false)))) else (none)) else (none)
set_option maxHeartbeats 8000000 in
set_option maxRecDepth 100000 in
theorem supercargoref27_one.calls (k : Nat) (a0 : ByteArray) (a1 : Int) (r1 : Int) (r2 : Int) (r3 : ByteArray) (r4 : Int) (r5 : Int) (w : World) (h : supercargoref27_one.f k a0 a1 = some (r1, r2, r3, r4, r5)) :
    Calls Tryd.prog 26 #[.string a0, .int .i64 a1] w fun e w' => e = .returned (.tuple #[.agg #[.int .i64 r1, .int .i64 r2, .string r3], .int .i64 r4, .int .i64 r5]) ∧ Below w.heap.size w w' := by
  have hu31 := Tryd.underlying31
  have HB := Aside0.mk (Below.refl w.heap.size w)
  have H : (if 0 ≤ a1 then (if a1 < (a0.size : Int) then ((supercargoref27_run.f (bt a0 a1)).bind fun t140 => (if t140 = true then (supercargoref27_one.l0 k a0 a1 (wrap64 (a1 + 1))) else (if (bt a0 a1) ≥ 65 then (supercargoref27_one.j3 k a0 a1 (bt a0 a1) (wrap64 (a1 + 1)) (decide ((bt a0 a1) ≤ 90))) else (supercargoref27_one.j3 k a0 a1 (bt a0 a1) (wrap64 (a1 + 1)) false)))) else (none)) else (none)) = some (r1, r2, r3, r4, r5) := h
  clear h
  by_cases c3 : 0 ≤ a1
  · rw [if_pos c3] at H
    have c3b0 : decide (0 ≤ a1) = true := decide_eq_true c3
    clear c3
    by_cases c4 : a1 < (a0.size : Int)
    · rw [if_pos c4] at H
      have c4b0 : decide (a1 < (a0.size : Int)) = true := decide_eq_true c4
      clear c4
      replace H := Option.bind_eq_some_iff.mp H
      obtain ⟨t140, A60, H⟩ := H
      replace H : (if t140 = true then (supercargoref27_one.l0 k a0 a1 (wrap64 (a1 + 1))) else (if (bt a0 a1) ≥ 65 then (supercargoref27_one.j3 k a0 a1 (bt a0 a1) (wrap64 (a1 + 1)) (decide ((bt a0 a1) ≤ 90))) else (supercargoref27_one.j3 k a0 a1 (bt a0 a1) (wrap64 (a1 + 1)) false))) = some (r1, r2, r3, r4, r5) := H
      have A6 := Aside0.mk A60
      clear A60
      by_cases c7 : t140 = true
      · subst c7
        have H1 : (supercargoref27_one.l0 k a0 a1 (wrap64 (a1 + 1))) = some (r1, r2, r3, r4, r5) := by rw [if_pos rfl] at H; exact H
        clear H
        have H := H1
        clear H1
        have HC8 := Aside0.mk H
        clear H
        go_enter Tryd.func26, Tryd.ntmps26
        go_upto_block 0 with (first | ((with_reducible refine gate_dst (N := 4) rfl ?_); (try (refine gate_guard (by rfl) ?_; dsimp only)); refine box_event ?hg (N := 4) ?hd (cs := #[.int .i64 0, .int .i64 0, .string (⟨#[]⟩ : ByteArray)]) (t := 31) ?hr ?_; (case hd => rfl); (case hg => rfl); (case hr => first | (go_simp; done) | (go_simp; rfl)); intro gb139 hg w9 hbox hb; have n0_ := Aside0.mk (below_step (by repeat (first | (with_reducible first | exact HB.out | apply below_alloc | apply pw_below_drewN | apply below_drew1) | exact HB.out)) hb); have n1_ := Aside0.mk (hbox); have n2_ := Aside0.mk ((by rw [hg]; exact (below_size (by repeat (first | (with_reducible first | exact HB.out | apply below_alloc | apply pw_below_drewN | apply below_drew1) | exact HB.out))) : w.heap.size ≤ gb139)); have n3_ := Aside0.mk ((by rw [hg]; exact (below_size (by repeat (first | (with_reducible first | exact HB.out | apply below_alloc | apply pw_below_drewN | apply below_drew1) | exact HB.out))) : w.heap.size ≤ gb139)); clear HB; have HB := n0_; have BK139 := n1_; have GW139 := n2_; have GE139 := n3_; clear n0_ n1_ n2_ n3_; clear hb hbox hg; have p5 : 0 ≤ (a1 : Int) := of_decide_eq_true (by first | (with_reducible assumption) | assumption); have q5 : a1 < (a0.size : Int) := of_decide_eq_true (by first | (with_reducible assumption) | assumption); have hx5 := bt_at a0 a1; replace p5 := eq_true p5; replace q5 := eq_true q5) | ((with_reducible refine gate_callee (f := 39) rfl ?_); refine goesL_ (some 16) rfl rfl Tryd.func39 (by kernel_rfl) rfl #[.int .u8 (bt a0 a1)] rfl (by (try simp only [List.map_toArray, List.map_cons, List.map_nil]); first | done | rfl | (simp only [List.length_drop, List.length_take]; rfl)) ?_; (with_reducible refine (supercargoref27_run.calls (bt a0 a1) true _ A6.out).mono ?_); rintro e w' ⟨rfl, ⟨nd, rfl⟩⟩; refine ⟨_, rfl, ?_⟩))
        (try simp only [Act.put, List.setIfInBounds_toArray, List.set_cons_zero, List.set_cons_succ])
        go_cut [8] (fun v8 wc => ∃ (kq : Nat) (x8_7 : Int), v8 = .int .i64 x8_7 ∧ Aside0 (supercargoref27_one.j1 kq a0 a1 x8_7 = some (r1, r2, r3, r4, r5)) ∧ Aside0 (kq ≤ k) ∧ Aside0 (wc.heap[gb139]? = some (.cells #[.int .i64 0, .int .i64 0, .string (⟨#[]⟩ : ByteArray)] 31 (0, 0))) ∧ Aside0 (Below w.heap.size w wc))
        case first =>
          have H := HC8.out
          clear HC8
          have H' := Aside0.mk H
          clear H
          go_wp2
          go_loopg [8] k (fun kq v8 w' => ∃ (x8_1 : Int), v8 = .int .i64 x8_1 ∧ Aside0 (supercargoref27_one.l0 kq a0 a1 x8_1 = some (r1, r2, r3, r4, r5)) ∧ Aside0 (kq ≤ k) ∧ Aside0 (w'.heap[gb139]? = some (.cells #[.int .i64 0, .int .i64 0, .string (⟨#[]⟩ : ByteArray)] 31 (0, 0))) ∧ Aside0 (Below w.heap.size w w'))
          case atStart => exact ⟨(wrap64 (a1 + 1)), (by first | rfl | (simp; done) | (simp [*]; done)), H', ⟨Nat.le_refl _⟩, ⟨by (with_reducible repeat (first | refine blk_drewN ?_ _ | refine blk_drew ?_ | refine blk_alloc ?_ _)); exact BK139.out⟩, ⟨by repeat (first | (with_reducible first | exact HB.out | apply below_alloc | apply pw_below_drewN | apply below_drew1 | refine below_set ?_ GE139.out) | exact HB.out)⟩⟩
          case round =>
            clear H'
            try clear c2
            try clear p2
            try clear c3
            try clear c3b0
            try clear c4
            try clear c4b0
            try clear p5
            try clear q5
            try clear hx5
            try clear p6
            try clear c7
            try clear p5
            try clear q5
            obtain ⟨x8_1, rfl, HA, HK1, BK139, HB⟩ := hrel
            cases gk with
            | zero => exact absurd HA.out (by simp [supercargoref27_one.l0])
            | succ k1 =>
              have H := HA.out
              clear HA
              simp only [supercargoref27_one.l0] at H
              by_cases c10 : x8_1 < (a0.size : Int)
              · rw [if_pos c10] at H
                have c10b0 : decide (x8_1 < (a0.size : Int)) = true := decide_eq_true c10
                clear c10
                (first | rw [c10b0] | (simp only [i64_w, i32_w]; rw [c10b0]) | skip)
                by_cases c11 : 0 ≤ x8_1
                · rw [if_pos c11] at H
                  have c11b0 : decide (0 ≤ x8_1) = true := decide_eq_true c11
                  clear c11
                  replace H := Option.bind_eq_some_iff.mp H
                  obtain ⟨t141, A130, H⟩ := H
                  replace H : (if t141 = true then (supercargoref27_one.l0 k1 a0 a1 (wrap64 (x8_1 + 1))) else (supercargoref27_one.j1 k1 a0 a1 x8_1)) = some (r1, r2, r3, r4, r5) := H
                  have A13 := Aside0.mk A130
                  clear A130
                  by_cases c14 : t141 = true
                  · subst c14
                    have H1 : (supercargoref27_one.l0 k1 a0 a1 (wrap64 (x8_1 + 1))) = some (r1, r2, r3, r4, r5) := by rw [if_pos rfl] at H; exact H
                    clear H
                    have H := H1
                    clear H1
                    have H' := Aside0.mk H
                    clear H
                    have p12 : 0 ≤ (x8_1 : Int) := of_decide_eq_true (by first | (with_reducible assumption) | assumption)
                    have q12 : x8_1 < (a0.size : Int) := of_decide_eq_true (by first | (with_reducible assumption) | assumption)
                    have hx12 := bt_at a0 x8_1
                    replace p12 := eq_true p12
                    replace q12 := eq_true q12
                    go_wp2_with (first | (go_at_call 39; (with_reducible refine (supercargoref27_run.calls (bt a0 x8_1) true _ A13.out).mono ?_); rintro e w' ⟨rfl, ⟨nd, rfl⟩⟩))
                    go_roundg k1
                    case measure => have := HK1.out; omega
                    case rel => exact ⟨(wrap64 (x8_1 + 1)), (by first | rfl | (simp; done) | (simp [*]; done)), H', ⟨by have := HK1.out; omega⟩, ⟨by (with_reducible repeat (first | refine blk_drewN ?_ _ | refine blk_drew ?_ | refine blk_alloc ?_ _)); exact BK139.out⟩, ⟨by repeat (first | (with_reducible first | exact HB.out | apply below_alloc | apply pw_below_drewN | apply below_drew1 | refine below_set ?_ GE139.out) | exact HB.out)⟩⟩
                  · replace c14 := Bool.eq_false_iff.mpr c14
                    subst c14
                    have H1 : (supercargoref27_one.j1 k1 a0 a1 x8_1) = some (r1, r2, r3, r4, r5) := by rw [if_neg (show ¬ (false = true) by decide)] at H; exact H
                    clear H
                    have H := H1
                    clear H1
                    have H' := Aside0.mk H
                    clear H
                    have p12 : 0 ≤ (x8_1 : Int) := of_decide_eq_true (by first | (with_reducible assumption) | assumption)
                    have q12 : x8_1 < (a0.size : Int) := of_decide_eq_true (by first | (with_reducible assumption) | assumption)
                    have hx12 := bt_at a0 x8_1
                    replace p12 := eq_true p12
                    replace q12 := eq_true q12
                    go_wp2_with (first | (go_at_call 39; (with_reducible refine (supercargoref27_run.calls (bt a0 x8_1) false _ A13.out).mono ?_); rintro e w' ⟨rfl, ⟨nd, rfl⟩⟩))
                    go_meet
                    case rel => exact ⟨_, (x8_1), (by first | rfl | (simp; done) | (simp [*]; done)), H', ⟨by have := HK1.out; first | omega | exact Nat.le_refl _⟩, ⟨by (with_reducible repeat (first | refine blk_drewN ?_ _ | refine blk_drew ?_ | refine blk_alloc ?_ _)); exact BK139.out⟩, ⟨by repeat (first | (with_reducible first | exact HB.out | apply below_alloc | apply pw_below_drewN | apply below_drew1 | refine below_set ?_ GE139.out) | exact HB.out)⟩⟩
                · rw [if_neg c11] at H
                  exact absurd H (by simp)
              · rw [if_neg c10] at H
                have c10b0 : decide (x8_1 < (a0.size : Int)) = false := decide_eq_false c10
                clear c10
                (first | rw [c10b0] | (simp only [i64_w, i32_w]; rw [c10b0]) | skip)
                have H' := Aside0.mk H
                clear H
                go_wp2
                go_meet
                case rel => exact ⟨_, (x8_1), (by first | rfl | (simp; done) | (simp [*]; done)), H', ⟨by have := HK1.out; first | omega | exact Nat.le_refl _⟩, ⟨by (with_reducible repeat (first | refine blk_drewN ?_ _ | refine blk_drew ?_ | refine blk_alloc ?_ _)); exact BK139.out⟩, ⟨by repeat (first | (with_reducible first | exact HB.out | apply below_alloc | apply pw_below_drewN | apply below_drew1 | refine below_set ?_ GE139.out) | exact HB.out)⟩⟩
        case rest =>
          clear HC8
          try clear c1
          try clear p1
          try clear q1
          try clear hx1
          try clear c2
          try clear p2
          try clear c3
          try clear c3b0
          try clear c4
          try clear c4b0
          try clear p5
          try clear q5
          try clear hx5
          try clear p6
          try clear c7
          try clear c10
          try clear c10b0
          try clear c11
          try clear c11b0
          try clear p12
          try clear q12
          try clear hx12
          try clear c14
          try clear p12
          try clear p2
          try clear p5
          try clear p6
          try clear q12
          try clear q5
          obtain ⟨kq, x8_7, rfl, HA, HJ7, BK139, HB⟩ := hcut
          cases kq with
          | zero => exact absurd HA.out (by simp [supercargoref27_one.j1])
          | succ kj7 =>
            have H := HA.out
            clear HA
            simp only [supercargoref27_one.j1] at H
            by_cases c15 : 0 ≤ a1
            · rw [if_pos c15] at H
              have c15b0 := eq_true c15
              have c15b1 : decide (0 ≤ a1) = true := decide_eq_true c15
              clear c15
              by_cases c16 : a1 ≤ x8_7
              · rw [if_pos c16] at H
                have c16b0 := eq_true c16
                have c16b1 : decide (a1 ≤ x8_7) = true := decide_eq_true c16
                clear c16
                by_cases c17 : x8_7 ≤ (a0.size : Int)
                · rw [if_pos c17] at H
                  have c17b0 := eq_true c17
                  have c17b1 : decide (x8_7 ≤ (a0.size : Int)) = true := decide_eq_true c17
                  clear c17
                  replace H := Option.bind_eq_some_iff.mp H
                  obtain ⟨t142, A180, H⟩ := H
                  replace H : (if t142 = true then (if ((a0.extract (a1 : Int).toNat (x8_7 : Int).toNat).size : Int) > 1 then (if 0 < ((a0.extract (a1 : Int).toNat (x8_7 : Int).toNat).size : Int) then (supercargoref27_one.j2 kj7 a1 x8_7 (a0.extract (a1 : Int).toNat (x8_7 : Int).toNat) ((bt (a0.extract (a1 : Int).toNat (x8_7 : Int).toNat) 0) == 48)) else (none)) else (supercargoref27_one.j2 kj7 a1 x8_7 (a0.extract (a1 : Int).toNat (x8_7 : Int).toNat) false)) else ((supercargoref27_Words.f).bind fun t144 => ((supercargoref27_in.f kj7 t144 (a0.extract (a1 : Int).toNat (x8_7 : Int).toNat)).bind fun t147 => (if t147 = true then (some (0, a1, a0.extract (a1 : Int).toNat (x8_7 : Int).toNat, x8_7, 0)) else (if ((a0.extract (a1 : Int).toNat (x8_7 : Int).toNat).size : Int) > 16 then (some (0, 0, (⟨#[]⟩ : ByteArray), a1, 2)) else (some (1, a1, a0.extract (a1 : Int).toNat (x8_7 : Int).toNat, x8_7, 0))))))) = some (r1, r2, r3, r4, r5) := H
                  have A18 := Aside0.mk A180
                  clear A180
                  by_cases c19 : t142 = true
                  · subst c19
                    have H1 : (if ((a0.extract (a1 : Int).toNat (x8_7 : Int).toNat).size : Int) > 1 then (if 0 < ((a0.extract (a1 : Int).toNat (x8_7 : Int).toNat).size : Int) then (supercargoref27_one.j2 kj7 a1 x8_7 (a0.extract (a1 : Int).toNat (x8_7 : Int).toNat) ((bt (a0.extract (a1 : Int).toNat (x8_7 : Int).toNat) 0) == 48)) else (none)) else (supercargoref27_one.j2 kj7 a1 x8_7 (a0.extract (a1 : Int).toNat (x8_7 : Int).toNat) false)) = some (r1, r2, r3, r4, r5) := by rw [if_pos rfl] at H; exact H
                    clear H
                    have H := H1
                    clear H1
                    have HC20 := Aside0.mk H
                    clear H
                    go_upto_region 8 with (first | ((with_reducible refine gate_callee (f := 40) rfl ?_); refine goesL_ (some 34) rfl rfl Tryd.func40 (by kernel_rfl) rfl #[.string (a0.extract (a1 : Int).toNat (x8_7 : Int).toNat)] rfl (by (try simp only [List.map_toArray, List.map_cons, List.map_nil]); first | done | rfl | (simp only [List.length_drop, List.length_take]; rfl)) ?_; (with_reducible refine (supercargoref27_digits.calls kj7 (a0.extract (a1 : Int).toNat (x8_7 : Int).toNat) true _ A18.out).mono ?_); rintro e w' ⟨rfl, ⟨nd, rfl⟩⟩; refine ⟨_, rfl, ?_⟩))
                    (try simp only [Act.put, List.setIfInBounds_toArray, List.set_cons_zero, List.set_cons_succ])
                    go_cut [42] (fun v42 wc => ∃ (kq : Nat) (x42_19 : Bool), v42 = .bool x42_19 ∧ Aside0 (supercargoref27_one.j2 kq a1 x8_7 (a0.extract (a1 : Int).toNat (x8_7 : Int).toNat) x42_19 = some (r1, r2, r3, r4, r5)) ∧ Aside0 (kq ≤ kj7) ∧ Aside0 (wc.heap[gb139]? = some (.cells #[.int .i64 0, .int .i64 0, .string (⟨#[]⟩ : ByteArray)] 31 (0, 0))) ∧ Aside0 (Below w.heap.size w wc))
                    case first =>
                      have H := HC20.out
                      clear HC20
                      by_cases c21 : ((a0.extract (a1 : Int).toNat (x8_7 : Int).toNat).size : Int) > 1
                      · rw [if_pos c21] at H
                        have c21b0 : decide (1 < ((a0.extract (a1 : Int).toNat (x8_7 : Int).toNat).size : Int)) = true := decide_eq_true c21
                        have c21b1 : decide (1 < (a0.extract (a1 : Int).toNat (x8_7 : Int).toNat).size) = true := decide_eq_true (by omega)
                        clear c21
                        (first | rw [c21b0] | (simp only [i64_w, i32_w]; rw [c21b0]) | skip)
                        by_cases c22 : 0 < ((a0.extract (a1 : Int).toNat (x8_7 : Int).toNat).size : Int)
                        · rw [if_pos c22] at H
                          have c22b0 : decide (0 < ((a0.extract (a1 : Int).toNat (x8_7 : Int).toNat).size : Int)) = true := decide_eq_true c22
                          have c22b1 : decide (0 < (a0.extract (a1 : Int).toNat (x8_7 : Int).toNat).size) = true := decide_eq_true (by omega)
                          clear c22
                          have H' := Aside0.mk H
                          clear H
                          have p23 : 0 ≤ (0 : Int) := (by omega)
                          have q23 : 0 < (a0.extract (a1 : Int).toNat (x8_7 : Int).toNat).size := (by have : (0 : Int) < ((a0.extract (a1 : Int).toNat (x8_7 : Int).toNat).size : Int) := of_decide_eq_true (by first | (with_reducible assumption) | assumption); omega)
                          have hx23 : ∀ h : 0 < (a0.extract (a1 : Int).toNat (x8_7 : Int).toNat).size, (((a0.extract (a1 : Int).toNat (x8_7 : Int).toNat)[0]'h).toNat : Int) = bt (a0.extract (a1 : Int).toNat (x8_7 : Int).toNat) 0 := bt_at (a0.extract (a1 : Int).toNat (x8_7 : Int).toNat) 0
                          clear p23
                          have qi23 : (0 < ((a0.extract (a1 : Int).toNat (x8_7 : Int).toNat).size : Int)) = True := eq_true (of_decide_eq_true (by first | (with_reducible assumption) | assumption))
                          replace q23 := eq_true q23
                          go_wp2
                          go_meet
                          case rel => exact ⟨_, (((bt (a0.extract (a1 : Int).toNat (x8_7 : Int).toNat) 0) == 48)), (by first | rfl | (simp; done) | (simp [*]; done)), H', ⟨by have := HJ7.out; first | omega | exact Nat.le_refl _⟩, ⟨by (with_reducible repeat (first | refine blk_drewN ?_ _ | refine blk_drew ?_ | refine blk_alloc ?_ _)); exact BK139.out⟩, ⟨by repeat (first | (with_reducible first | exact HB.out | apply below_alloc | apply pw_below_drewN | apply below_drew1 | refine below_set ?_ GE139.out) | exact HB.out)⟩⟩
                        · rw [if_neg c22] at H
                          exact absurd H (by simp)
                      · rw [if_neg c21] at H
                        have c21b0 : decide (1 < ((a0.extract (a1 : Int).toNat (x8_7 : Int).toNat).size : Int)) = false := decide_eq_false c21
                        have c21b1 : decide (1 < (a0.extract (a1 : Int).toNat (x8_7 : Int).toNat).size) = false := decide_eq_false (by omega)
                        clear c21
                        (first | rw [c21b0] | (simp only [i64_w, i32_w]; rw [c21b0]) | skip)
                        have H' := Aside0.mk H
                        clear H
                        go_wp2
                        go_meet
                        case rel => exact ⟨_, (false), (by first | rfl | (simp; done) | (simp [*]; done)), H', ⟨by have := HJ7.out; first | omega | exact Nat.le_refl _⟩, ⟨by (with_reducible repeat (first | refine blk_drewN ?_ _ | refine blk_drew ?_ | refine blk_alloc ?_ _)); exact BK139.out⟩, ⟨by repeat (first | (with_reducible first | exact HB.out | apply below_alloc | apply pw_below_drewN | apply below_drew1 | refine below_set ?_ GE139.out) | exact HB.out)⟩⟩
                    case rest =>
                      clear HC20
                      try clear c1
                      try clear p1
                      try clear q1
                      try clear hx1
                      try clear c2
                      try clear p2
                      try clear q2
                      try clear hx2
                      try clear qi2
                      try clear c3
                      try clear c3b0
                      try clear c4
                      try clear c4b0
                      try clear p5
                      try clear q5
                      try clear hx5
                      try clear p6
                      try clear c7
                      try clear c10
                      try clear c10b0
                      try clear c11
                      try clear c11b0
                      try clear p12
                      try clear q12
                      try clear hx12
                      try clear c14
                      try clear c15
                      try clear c15b0
                      try clear c15b1
                      try clear c16
                      try clear c16b0
                      try clear c16b1
                      try clear c17
                      try clear c17b0
                      try clear c17b1
                      try clear c19
                      try clear c21
                      try clear c21b0
                      try clear c21b1
                      try clear c22
                      try clear c22b0
                      try clear c22b1
                      try clear p23
                      try clear q23
                      try clear hx23
                      try clear qi23
                      try clear p1
                      try clear p12
                      try clear p2
                      try clear p23
                      try clear p5
                      try clear p6
                      try clear q1
                      try clear q12
                      try clear q23
                      try clear q5
                      obtain ⟨kq, x42_19, rfl, HA, HJ19, BK139, HB⟩ := hcut
                      cases kq with
                      | zero => exact absurd HA.out (by simp [supercargoref27_one.j2])
                      | succ kj19 =>
                        have H := HA.out
                        clear HA
                        simp only [supercargoref27_one.j2] at H
                        by_cases c24 : x42_19 = true
                        · subst c24
                          have H1 : (some (0, 0, (⟨#[]⟩ : ByteArray), a1, 2)) = some (r1, r2, r3, r4, r5) := by rw [if_pos rfl] at H; exact H
                          clear H
                          have H := H1
                          clear H1
                          simp only [Option.some.injEq, Prod.mk.injEq] at H
                          obtain ⟨rfl, rfl, rfl, rfl, rfl⟩ := H
                          have hcz25_0 : wc.cell? ⟨gb139, 0, none⟩ = some (.int .i64 0) := (blk_cell BK139.out 0).trans rfl
                          have hcz25_1 : wc.cell? ⟨gb139, 1, none⟩ = some (.int .i64 0) := (blk_cell BK139.out 1).trans rfl
                          have hcz25_2 : wc.cell? ⟨gb139, 2, none⟩ = some (.string (⟨#[]⟩ : ByteArray)) := (blk_cell BK139.out 2).trans rfl
                          have hfz25_0 := blk_frozen BK139.out 0
                          have hfz25_1 := blk_frozen BK139.out 1
                          have hfz25_2 := blk_frozen BK139.out 2
                          go_wp2
                          refine bodyPost_ret (results_ctt rfl _ _ gb139 31 #[.int .i64 0, .int .i64 0, .string (⟨#[]⟩ : ByteArray)] (0, 0) _ rfl (by (with_reducible repeat (first | refine blk_drewN ?_ _ | refine blk_drew ?_ | refine blk_alloc ?_ _)); refine blk_put (cs := #[.int .i64 0, .int .i64 0, .string (⟨#[]⟩ : ByteArray)]) ?_ 2 _ rfl; (with_reducible repeat (first | refine blk_drewN ?_ _ | refine blk_drew ?_ | refine blk_alloc ?_ _)); refine blk_put (cs := #[.int .i64 0, .int .i64 0, .string (⟨#[]⟩ : ByteArray)]) ?_ 1 _ rfl; (with_reducible repeat (first | refine blk_drewN ?_ _ | refine blk_drew ?_ | refine blk_alloc ?_ _)); refine blk_put (cs := #[.int .i64 0, .int .i64 0, .string (⟨#[]⟩ : ByteArray)]) ?_ 0 _ rfl; (with_reducible repeat (first | refine blk_drewN ?_ _ | refine blk_drew ?_ | refine blk_alloc ?_ _)); exact BK139.out) Tryd.underlying31 rfl (by kernel_rfl)) rfl ?_
                          exact ⟨by first | rfl | (simp [errW_none, errW_some] <;> rfl) | (simp [*, errW_none, errW_some] <;> rfl), by repeat (first | (with_reducible first | exact HB.out | apply below_alloc | apply pw_below_drewN | apply below_drew1 | refine below_set ?_ GE139.out) | exact HB.out)⟩
                        · replace c24 := Bool.eq_false_iff.mpr c24
                          subst c24
                          have H1 : ((supercargoref27_above.f (a0.extract (a1 : Int).toNat (x8_7 : Int).toNat)).bind fun t143 => (if t143 = true then (some (0, 0, (⟨#[]⟩ : ByteArray), a1, 3)) else (some (2, a1, (a0.extract (a1 : Int).toNat (x8_7 : Int).toNat), x8_7, 0)))) = some (r1, r2, r3, r4, r5) := by rw [if_neg (show ¬ (false = true) by decide)] at H; exact H
                          clear H
                          have H := H1
                          clear H1
                          replace H := Option.bind_eq_some_iff.mp H
                          obtain ⟨t143, A260, H⟩ := H
                          replace H : (if t143 = true then (some (0, 0, (⟨#[]⟩ : ByteArray), a1, 3)) else (some (2, a1, (a0.extract (a1 : Int).toNat (x8_7 : Int).toNat), x8_7, 0))) = some (r1, r2, r3, r4, r5) := H
                          have A26 := Aside0.mk A260
                          clear A260
                          by_cases c27 : t143 = true
                          · subst c27
                            have H1 : (some (0, 0, (⟨#[]⟩ : ByteArray), a1, 3)) = some (r1, r2, r3, r4, r5) := by rw [if_pos rfl] at H; exact H
                            clear H
                            have H := H1
                            clear H1
                            simp only [Option.some.injEq, Prod.mk.injEq] at H
                            obtain ⟨rfl, rfl, rfl, rfl, rfl⟩ := H
                            go_wp2_with (first | ((with_reducible refine gate_callee (f := 41) rfl ?_); refine goesL_ (some 46) rfl rfl Tryd.func41 (by kernel_rfl) rfl #[.string (a0.extract (a1 : Int).toNat (x8_7 : Int).toNat)] rfl (by (try simp only [List.map_toArray, List.map_cons, List.map_nil]); first | done | rfl | (simp only [List.length_drop, List.length_take]; rfl)) ?_; (with_reducible refine (supercargoref27_above.calls (a0.extract (a1 : Int).toNat (x8_7 : Int).toNat) true _ A26.out).mono ?_); rintro e w' ⟨rfl, ⟨nd, rfl⟩⟩; refine ⟨_, rfl, ?_⟩; (try (rw [drewN_self wc]; generalize hq_ : World.drewN wc _ = wc; have n0_ : Aside0 (wc.heap[gb139]? = some (.cells #[.int .i64 0, .int .i64 0, .string (⟨#[]⟩ : ByteArray)] 31 (0, 0))) := ⟨by rw [← hq_]; exact (by (with_reducible repeat (first | refine blk_drewN ?_ _ | refine blk_drew ?_ | refine blk_alloc ?_ _)); exact BK139.out)⟩; have n1_ : Aside0 (Below w.heap.size w wc) := ⟨by rw [← hq_]; exact (by repeat (first | (with_reducible first | exact HB.out | apply below_alloc | apply pw_below_drewN | apply below_drew1 | refine below_set ?_ GE139.out) | exact HB.out))⟩; clear BK139 HB hq_; have BK139 := n0_; have HB := n1_; clear n0_ n1_)); have hcz28_0 : wc.cell? ⟨gb139, 0, none⟩ = some (.int .i64 0) := (blk_cell BK139.out 0).trans rfl; have hcz28_1 : wc.cell? ⟨gb139, 1, none⟩ = some (.int .i64 0) := (blk_cell BK139.out 1).trans rfl; have hcz28_2 : wc.cell? ⟨gb139, 2, none⟩ = some (.string (⟨#[]⟩ : ByteArray)) := (blk_cell BK139.out 2).trans rfl; have hfz28_0 := blk_frozen BK139.out 0; have hfz28_1 := blk_frozen BK139.out 1; have hfz28_2 := blk_frozen BK139.out 2))
                            refine bodyPost_ret (results_ctt rfl _ _ gb139 31 #[.int .i64 0, .int .i64 0, .string (⟨#[]⟩ : ByteArray)] (0, 0) _ rfl (by (with_reducible repeat (first | refine blk_drewN ?_ _ | refine blk_drew ?_ | refine blk_alloc ?_ _)); refine blk_put (cs := #[.int .i64 0, .int .i64 0, .string (⟨#[]⟩ : ByteArray)]) ?_ 2 _ rfl; (with_reducible repeat (first | refine blk_drewN ?_ _ | refine blk_drew ?_ | refine blk_alloc ?_ _)); refine blk_put (cs := #[.int .i64 0, .int .i64 0, .string (⟨#[]⟩ : ByteArray)]) ?_ 1 _ rfl; (with_reducible repeat (first | refine blk_drewN ?_ _ | refine blk_drew ?_ | refine blk_alloc ?_ _)); refine blk_put (cs := #[.int .i64 0, .int .i64 0, .string (⟨#[]⟩ : ByteArray)]) ?_ 0 _ rfl; (with_reducible repeat (first | refine blk_drewN ?_ _ | refine blk_drew ?_ | refine blk_alloc ?_ _)); exact BK139.out) Tryd.underlying31 rfl (by kernel_rfl)) rfl ?_
                            exact ⟨by first | rfl | (simp [errW_none, errW_some] <;> rfl) | (simp [*, errW_none, errW_some] <;> rfl), by repeat (first | (with_reducible first | exact HB.out | apply below_alloc | apply pw_below_drewN | apply below_drew1 | refine below_set ?_ GE139.out) | exact HB.out)⟩
                          · replace c27 := Bool.eq_false_iff.mpr c27
                            subst c27
                            have H1 : (some (2, a1, (a0.extract (a1 : Int).toNat (x8_7 : Int).toNat), x8_7, 0)) = some (r1, r2, r3, r4, r5) := by rw [if_neg (show ¬ (false = true) by decide)] at H; exact H
                            clear H
                            have H := H1
                            clear H1
                            simp only [Option.some.injEq, Prod.mk.injEq] at H
                            obtain ⟨rfl, rfl, rfl, rfl, rfl⟩ := H
                            go_wp2_with (first | ((with_reducible refine gate_callee (f := 41) rfl ?_); refine goesL_ (some 46) rfl rfl Tryd.func41 (by kernel_rfl) rfl #[.string (a0.extract (a1 : Int).toNat (x8_7 : Int).toNat)] rfl (by (try simp only [List.map_toArray, List.map_cons, List.map_nil]); first | done | rfl | (simp only [List.length_drop, List.length_take]; rfl)) ?_; (with_reducible refine (supercargoref27_above.calls (a0.extract (a1 : Int).toNat (x8_7 : Int).toNat) false _ A26.out).mono ?_); rintro e w' ⟨rfl, ⟨nd, rfl⟩⟩; refine ⟨_, rfl, ?_⟩; (try (rw [drewN_self wc]; generalize hq_ : World.drewN wc _ = wc; have n0_ : Aside0 (wc.heap[gb139]? = some (.cells #[.int .i64 0, .int .i64 0, .string (⟨#[]⟩ : ByteArray)] 31 (0, 0))) := ⟨by rw [← hq_]; exact (by (with_reducible repeat (first | refine blk_drewN ?_ _ | refine blk_drew ?_ | refine blk_alloc ?_ _)); exact BK139.out)⟩; have n1_ : Aside0 (Below w.heap.size w wc) := ⟨by rw [← hq_]; exact (by repeat (first | (with_reducible first | exact HB.out | apply below_alloc | apply pw_below_drewN | apply below_drew1 | refine below_set ?_ GE139.out) | exact HB.out))⟩; clear BK139 HB hq_; have BK139 := n0_; have HB := n1_; clear n0_ n1_)); have hcz29_0 : wc.cell? ⟨gb139, 0, none⟩ = some (.int .i64 0) := (blk_cell BK139.out 0).trans rfl; have hcz29_1 : wc.cell? ⟨gb139, 1, none⟩ = some (.int .i64 0) := (blk_cell BK139.out 1).trans rfl; have hcz29_2 : wc.cell? ⟨gb139, 2, none⟩ = some (.string (⟨#[]⟩ : ByteArray)) := (blk_cell BK139.out 2).trans rfl; have hfz29_0 := blk_frozen BK139.out 0; have hfz29_1 := blk_frozen BK139.out 1; have hfz29_2 := blk_frozen BK139.out 2))
                            refine bodyPost_ret (results_ctt rfl _ _ gb139 31 #[.int .i64 2, .int .i64 a1, .string (a0.extract (a1 : Int).toNat (x8_7 : Int).toNat)] (0, 0) _ rfl (by (with_reducible repeat (first | refine blk_drewN ?_ _ | refine blk_drew ?_ | refine blk_alloc ?_ _)); refine blk_put (cs := #[.int .i64 2, .int .i64 a1, .string (⟨#[]⟩ : ByteArray)]) ?_ 2 _ rfl; (with_reducible repeat (first | refine blk_drewN ?_ _ | refine blk_drew ?_ | refine blk_alloc ?_ _)); refine blk_put (cs := #[.int .i64 2, .int .i64 0, .string (⟨#[]⟩ : ByteArray)]) ?_ 1 _ rfl; (with_reducible repeat (first | refine blk_drewN ?_ _ | refine blk_drew ?_ | refine blk_alloc ?_ _)); refine blk_put (cs := #[.int .i64 0, .int .i64 0, .string (⟨#[]⟩ : ByteArray)]) ?_ 0 _ rfl; (with_reducible repeat (first | refine blk_drewN ?_ _ | refine blk_drew ?_ | refine blk_alloc ?_ _)); exact BK139.out) Tryd.underlying31 rfl (by kernel_rfl)) rfl ?_
                            exact ⟨by first | rfl | (simp [errW_none, errW_some] <;> rfl) | (simp [*, errW_none, errW_some] <;> rfl), by repeat (first | (with_reducible first | exact HB.out | apply below_alloc | apply pw_below_drewN | apply below_drew1 | refine below_set ?_ GE139.out) | exact HB.out)⟩
                  · replace c19 := Bool.eq_false_iff.mpr c19
                    subst c19
                    have H1 : ((supercargoref27_Words.f).bind fun t144 => ((supercargoref27_in.f kj7 t144 (a0.extract (a1 : Int).toNat (x8_7 : Int).toNat)).bind fun t147 => (if t147 = true then (some (0, a1, a0.extract (a1 : Int).toNat (x8_7 : Int).toNat, x8_7, 0)) else (if ((a0.extract (a1 : Int).toNat (x8_7 : Int).toNat).size : Int) > 16 then (some (0, 0, (⟨#[]⟩ : ByteArray), a1, 2)) else (some (1, a1, a0.extract (a1 : Int).toNat (x8_7 : Int).toNat, x8_7, 0)))))) = some (r1, r2, r3, r4, r5) := by rw [if_neg (show ¬ (false = true) by decide)] at H; exact H
                    clear H
                    have H := H1
                    clear H1
                    replace H := Option.bind_eq_some_iff.mp H
                    obtain ⟨t144, A300, H⟩ := H
                    replace H : ((supercargoref27_in.f kj7 t144 (a0.extract (a1 : Int).toNat (x8_7 : Int).toNat)).bind fun t147 => (if t147 = true then (some (0, a1, a0.extract (a1 : Int).toNat (x8_7 : Int).toNat, x8_7, 0)) else (if ((a0.extract (a1 : Int).toNat (x8_7 : Int).toNat).size : Int) > 16 then (some (0, 0, (⟨#[]⟩ : ByteArray), a1, 2)) else (some (1, a1, a0.extract (a1 : Int).toNat (x8_7 : Int).toNat, x8_7, 0))))) = some (r1, r2, r3, r4, r5) := H
                    have A30 := Aside0.mk A300
                    clear A300
                    replace H := Option.bind_eq_some_iff.mp H
                    obtain ⟨t147, A310, H⟩ := H
                    replace H : (if t147 = true then (some (0, a1, a0.extract (a1 : Int).toNat (x8_7 : Int).toNat, x8_7, 0)) else (if ((a0.extract (a1 : Int).toNat (x8_7 : Int).toNat).size : Int) > 16 then (some (0, 0, (⟨#[]⟩ : ByteArray), a1, 2)) else (some (1, a1, a0.extract (a1 : Int).toNat (x8_7 : Int).toNat, x8_7, 0)))) = some (r1, r2, r3, r4, r5) := H
                    have A31 := Aside0.mk A310
                    clear A310
                    by_cases c32 : t147 = true
                    · subst c32
                      have H1 : (some (0, a1, a0.extract (a1 : Int).toNat (x8_7 : Int).toNat, x8_7, 0)) = some (r1, r2, r3, r4, r5) := by rw [if_pos rfl] at H; exact H
                      clear H
                      have H := H1
                      clear H1
                      simp only [Option.some.injEq, Prod.mk.injEq] at H
                      obtain ⟨rfl, rfl, rfl, rfl, rfl⟩ := H
                      go_wp2_with (first | ((with_reducible refine gate_callee (f := 40) rfl ?_); refine goesL_ (some 34) rfl rfl Tryd.func40 (by kernel_rfl) rfl #[.string (a0.extract (a1 : Int).toNat (x8_7 : Int).toNat)] rfl (by (try simp only [List.map_toArray, List.map_cons, List.map_nil]); first | done | rfl | (simp only [List.length_drop, List.length_take]; rfl)) ?_; (with_reducible refine (supercargoref27_digits.calls kj7 (a0.extract (a1 : Int).toNat (x8_7 : Int).toNat) false _ A18.out).mono ?_); rintro e w' ⟨rfl, ⟨nd, rfl⟩⟩; refine ⟨_, rfl, ?_⟩; (try (rw [drewN_self wc]; generalize hq_ : World.drewN wc _ = wc; have n0_ : Aside0 (wc.heap[gb139]? = some (.cells #[.int .i64 0, .int .i64 0, .string (⟨#[]⟩ : ByteArray)] 31 (0, 0))) := ⟨by rw [← hq_]; exact (by (with_reducible repeat (first | refine blk_drewN ?_ _ | refine blk_drew ?_ | refine blk_alloc ?_ _)); exact BK139.out)⟩; have n1_ : Aside0 (Below w.heap.size w wc) := ⟨by rw [← hq_]; exact (by repeat (first | (with_reducible first | exact HB.out | apply below_alloc | apply pw_below_drewN | apply below_drew1 | refine below_set ?_ GE139.out) | exact HB.out))⟩; clear BK139 HB hq_; have BK139 := n0_; have HB := n1_; clear n0_ n1_))) | ((with_reducible refine gate_callee (f := 16) rfl ?_); refine goesL_ (some 53) rfl rfl Tryd.func16 (by kernel_rfl) rfl #[] rfl (by (try simp only [List.map_toArray, List.map_cons, List.map_nil]); first | done | rfl | (simp only [List.length_drop, List.length_take]; rfl)) ?_; (with_reducible refine (supercargoref27_Words.calls  t144 _ A30.out).mono ?_); rintro e w33 ⟨v145, rfl, ho0, hb⟩; refine ⟨_, rfl, ?_⟩; have n0_ := Aside0.mk (Kd.R_lower ho0 (below_size (by repeat (first | (with_reducible first | exact HB.out | apply below_alloc | apply pw_below_drewN | apply below_drew1 | refine below_set ?_ GE139.out) | exact HB.out)))); have n1_ := Aside0.mk (blk_below (g := gb139) (o := .cells #[.int .i64 0, .int .i64 0, .string (⟨#[]⟩ : ByteArray)] 31 (0, 0)) (by (with_reducible repeat (first | refine blk_drewN ?_ _ | refine blk_drew ?_ | refine blk_alloc ?_ _)); exact BK139.out) hb); have n2_ := Aside0.mk (below_step (by repeat (first | (with_reducible first | exact HB.out | apply below_alloc | apply pw_below_drewN | apply below_drew1 | refine below_set ?_ GE139.out) | exact HB.out)) hb); clear BK139; clear HB; have HO146 := n0_; have BK139 := n1_; have HB := n2_; clear n0_ n1_ n2_; (try clear hb); (try clear hb2); (try clear hk); (try clear hi); (try clear ho0); obtain ⟨Ao34, co34, eo34⟩ := Kd.R_slice HO146.out; subst eo34) | ((with_reducible refine gate_callee (f := 42) rfl ?_); refine goesL_ (some 55) rfl rfl Tryd.func42 (by kernel_rfl) rfl #[.slice Ao34 t144.length co34, .string (a0.extract (a1 : Int).toNat (x8_7 : Int).toNat)] rfl (by (try simp only [List.map_toArray, List.map_cons, List.map_nil]); first | done | rfl | (simp only [List.length_drop, List.length_take]; rfl)) ?_; (with_reducible refine (supercargoref27_in.calls kj7 _ _ t144 (a0.extract (a1 : Int).toNat (x8_7 : Int).toNat) true _ ?side1 ?side2 A31.out).mono ?_); (case side1 => repeat (first | exact (Kd.R_reads' HO146.out).2.2 | (with_reducible refine Kd.C_alloc ?_ _) | (with_reducible refine Kd.C_drewN ?_ _) | (with_reducible refine Kd.C_drew ?_))); (case side2 => exact (Kd.R_reads' HO146.out).2.1); rintro e w' ⟨rfl, ⟨nd, rfl⟩⟩; refine ⟨_, rfl, ?_⟩; (try (rw [drewN_self w33]; generalize hq_ : World.drewN w33 _ = w33; have n0_ : Aside0 (Kd.R Kd.string 9 w33 w.heap.size (fun _ => True) (.slice Ao34 t144.length co34) t144) := ⟨by rw [← hq_]; exact (by (with_reducible repeat (first | apply Kd.R_alloc | apply Kd.R_drewN | apply Kd.R_drew)); exact HO146.out)⟩; have n1_ : Aside0 (w33.heap[gb139]? = some (.cells #[.int .i64 0, .int .i64 0, .string (⟨#[]⟩ : ByteArray)] 31 (0, 0))) := ⟨by rw [← hq_]; exact (by (with_reducible repeat (first | refine blk_drewN ?_ _ | refine blk_drew ?_ | refine blk_alloc ?_ _)); exact BK139.out)⟩; have n2_ : Aside0 (Below w.heap.size w w33) := ⟨by rw [← hq_]; exact (by repeat (first | (with_reducible first | exact HB.out | apply below_alloc | apply pw_below_drewN | apply below_drew1 | refine below_set ?_ GE139.out) | exact HB.out))⟩; clear HO146 BK139 HB hq_; have HO146 := n0_; have BK139 := n1_; have HB := n2_; clear n0_ n1_ n2_)); have hcz35_0 : w33.cell? ⟨gb139, 0, none⟩ = some (.int .i64 0) := (blk_cell BK139.out 0).trans rfl; have hcz35_1 : w33.cell? ⟨gb139, 1, none⟩ = some (.int .i64 0) := (blk_cell BK139.out 1).trans rfl; have hcz35_2 : w33.cell? ⟨gb139, 2, none⟩ = some (.string (⟨#[]⟩ : ByteArray)) := (blk_cell BK139.out 2).trans rfl; have hfz35_0 := blk_frozen BK139.out 0; have hfz35_1 := blk_frozen BK139.out 1; have hfz35_2 := blk_frozen BK139.out 2))
                      refine bodyPost_ret (results_ctt rfl _ _ gb139 31 #[.int .i64 0, .int .i64 a1, .string (a0.extract (a1 : Int).toNat (x8_7 : Int).toNat)] (0, 0) _ rfl (by (with_reducible repeat (first | refine blk_drewN ?_ _ | refine blk_drew ?_ | refine blk_alloc ?_ _)); refine blk_put (cs := #[.int .i64 0, .int .i64 a1, .string (⟨#[]⟩ : ByteArray)]) ?_ 2 _ rfl; (with_reducible repeat (first | refine blk_drewN ?_ _ | refine blk_drew ?_ | refine blk_alloc ?_ _)); refine blk_put (cs := #[.int .i64 0, .int .i64 0, .string (⟨#[]⟩ : ByteArray)]) ?_ 1 _ rfl; (with_reducible repeat (first | refine blk_drewN ?_ _ | refine blk_drew ?_ | refine blk_alloc ?_ _)); refine blk_put (cs := #[.int .i64 0, .int .i64 0, .string (⟨#[]⟩ : ByteArray)]) ?_ 0 _ rfl; (with_reducible repeat (first | refine blk_drewN ?_ _ | refine blk_drew ?_ | refine blk_alloc ?_ _)); exact BK139.out) Tryd.underlying31 rfl (by kernel_rfl)) rfl ?_
                      exact ⟨by first | rfl | (simp [errW_none, errW_some] <;> rfl) | (simp [*, errW_none, errW_some] <;> rfl), by repeat (first | (with_reducible first | exact HB.out | apply below_alloc | apply pw_below_drewN | apply below_drew1 | refine below_set ?_ GE139.out) | exact HB.out)⟩
                    · replace c32 := Bool.eq_false_iff.mpr c32
                      subst c32
                      have H1 : (if ((a0.extract (a1 : Int).toNat (x8_7 : Int).toNat).size : Int) > 16 then (some (0, 0, (⟨#[]⟩ : ByteArray), a1, 2)) else (some (1, a1, a0.extract (a1 : Int).toNat (x8_7 : Int).toNat, x8_7, 0))) = some (r1, r2, r3, r4, r5) := by rw [if_neg (show ¬ (false = true) by decide)] at H; exact H
                      clear H
                      have H := H1
                      clear H1
                      by_cases c36 : ((a0.extract (a1 : Int).toNat (x8_7 : Int).toNat).size : Int) > 16
                      · rw [if_pos c36] at H
                        have c36b0 : decide (16 < ((a0.extract (a1 : Int).toNat (x8_7 : Int).toNat).size : Int)) = true := decide_eq_true c36
                        have c36b1 : decide (16 < (a0.extract (a1 : Int).toNat (x8_7 : Int).toNat).size) = true := decide_eq_true (by omega)
                        clear c36
                        simp only [Option.some.injEq, Prod.mk.injEq] at H
                        obtain ⟨rfl, rfl, rfl, rfl, rfl⟩ := H
                        go_wp2_with (first | ((with_reducible refine gate_callee (f := 40) rfl ?_); refine goesL_ (some 34) rfl rfl Tryd.func40 (by kernel_rfl) rfl #[.string (a0.extract (a1 : Int).toNat (x8_7 : Int).toNat)] rfl (by (try simp only [List.map_toArray, List.map_cons, List.map_nil]); first | done | rfl | (simp only [List.length_drop, List.length_take]; rfl)) ?_; (with_reducible refine (supercargoref27_digits.calls kj7 (a0.extract (a1 : Int).toNat (x8_7 : Int).toNat) false _ A18.out).mono ?_); rintro e w' ⟨rfl, ⟨nd, rfl⟩⟩; refine ⟨_, rfl, ?_⟩; (try (rw [drewN_self wc]; generalize hq_ : World.drewN wc _ = wc; have n0_ : Aside0 (wc.heap[gb139]? = some (.cells #[.int .i64 0, .int .i64 0, .string (⟨#[]⟩ : ByteArray)] 31 (0, 0))) := ⟨by rw [← hq_]; exact (by (with_reducible repeat (first | refine blk_drewN ?_ _ | refine blk_drew ?_ | refine blk_alloc ?_ _)); exact BK139.out)⟩; have n1_ : Aside0 (Below w.heap.size w wc) := ⟨by rw [← hq_]; exact (by repeat (first | (with_reducible first | exact HB.out | apply below_alloc | apply pw_below_drewN | apply below_drew1 | refine below_set ?_ GE139.out) | exact HB.out))⟩; clear BK139 HB hq_; have BK139 := n0_; have HB := n1_; clear n0_ n1_))) | ((with_reducible refine gate_callee (f := 16) rfl ?_); refine goesL_ (some 53) rfl rfl Tryd.func16 (by kernel_rfl) rfl #[] rfl (by (try simp only [List.map_toArray, List.map_cons, List.map_nil]); first | done | rfl | (simp only [List.length_drop, List.length_take]; rfl)) ?_; (with_reducible refine (supercargoref27_Words.calls  t144 _ A30.out).mono ?_); rintro e w37 ⟨v145, rfl, ho0, hb⟩; refine ⟨_, rfl, ?_⟩; have n0_ := Aside0.mk (Kd.R_lower ho0 (below_size (by repeat (first | (with_reducible first | exact HB.out | apply below_alloc | apply pw_below_drewN | apply below_drew1 | refine below_set ?_ GE139.out) | exact HB.out)))); have n1_ := Aside0.mk (blk_below (g := gb139) (o := .cells #[.int .i64 0, .int .i64 0, .string (⟨#[]⟩ : ByteArray)] 31 (0, 0)) (by (with_reducible repeat (first | refine blk_drewN ?_ _ | refine blk_drew ?_ | refine blk_alloc ?_ _)); exact BK139.out) hb); have n2_ := Aside0.mk (below_step (by repeat (first | (with_reducible first | exact HB.out | apply below_alloc | apply pw_below_drewN | apply below_drew1 | refine below_set ?_ GE139.out) | exact HB.out)) hb); clear BK139; clear HB; have HO146 := n0_; have BK139 := n1_; have HB := n2_; clear n0_ n1_ n2_; (try clear hb); (try clear hb2); (try clear hk); (try clear hi); (try clear ho0); obtain ⟨Ao38, co38, eo38⟩ := Kd.R_slice HO146.out; subst eo38) | ((with_reducible refine gate_callee (f := 42) rfl ?_); refine goesL_ (some 55) rfl rfl Tryd.func42 (by kernel_rfl) rfl #[.slice Ao38 t144.length co38, .string (a0.extract (a1 : Int).toNat (x8_7 : Int).toNat)] rfl (by (try simp only [List.map_toArray, List.map_cons, List.map_nil]); first | done | rfl | (simp only [List.length_drop, List.length_take]; rfl)) ?_; (with_reducible refine (supercargoref27_in.calls kj7 _ _ t144 (a0.extract (a1 : Int).toNat (x8_7 : Int).toNat) false _ ?side1 ?side2 A31.out).mono ?_); (case side1 => repeat (first | exact (Kd.R_reads' HO146.out).2.2 | (with_reducible refine Kd.C_alloc ?_ _) | (with_reducible refine Kd.C_drewN ?_ _) | (with_reducible refine Kd.C_drew ?_))); (case side2 => exact (Kd.R_reads' HO146.out).2.1); rintro e w' ⟨rfl, ⟨nd, rfl⟩⟩; refine ⟨_, rfl, ?_⟩; (try (rw [drewN_self w37]; generalize hq_ : World.drewN w37 _ = w37; have n0_ : Aside0 (Kd.R Kd.string 9 w37 w.heap.size (fun _ => True) (.slice Ao38 t144.length co38) t144) := ⟨by rw [← hq_]; exact (by (with_reducible repeat (first | apply Kd.R_alloc | apply Kd.R_drewN | apply Kd.R_drew)); exact HO146.out)⟩; have n1_ : Aside0 (w37.heap[gb139]? = some (.cells #[.int .i64 0, .int .i64 0, .string (⟨#[]⟩ : ByteArray)] 31 (0, 0))) := ⟨by rw [← hq_]; exact (by (with_reducible repeat (first | refine blk_drewN ?_ _ | refine blk_drew ?_ | refine blk_alloc ?_ _)); exact BK139.out)⟩; have n2_ : Aside0 (Below w.heap.size w w37) := ⟨by rw [← hq_]; exact (by repeat (first | (with_reducible first | exact HB.out | apply below_alloc | apply pw_below_drewN | apply below_drew1 | refine below_set ?_ GE139.out) | exact HB.out))⟩; clear HO146 BK139 HB hq_; have HO146 := n0_; have BK139 := n1_; have HB := n2_; clear n0_ n1_ n2_)); have hcz39_0 : w37.cell? ⟨gb139, 0, none⟩ = some (.int .i64 0) := (blk_cell BK139.out 0).trans rfl; have hcz39_1 : w37.cell? ⟨gb139, 1, none⟩ = some (.int .i64 0) := (blk_cell BK139.out 1).trans rfl; have hcz39_2 : w37.cell? ⟨gb139, 2, none⟩ = some (.string (⟨#[]⟩ : ByteArray)) := (blk_cell BK139.out 2).trans rfl; have hfz39_0 := blk_frozen BK139.out 0; have hfz39_1 := blk_frozen BK139.out 1; have hfz39_2 := blk_frozen BK139.out 2))
                        refine bodyPost_ret (results_ctt rfl _ _ gb139 31 #[.int .i64 0, .int .i64 0, .string (⟨#[]⟩ : ByteArray)] (0, 0) _ rfl (by (with_reducible repeat (first | refine blk_drewN ?_ _ | refine blk_drew ?_ | refine blk_alloc ?_ _)); refine blk_put (cs := #[.int .i64 0, .int .i64 0, .string (⟨#[]⟩ : ByteArray)]) ?_ 2 _ rfl; (with_reducible repeat (first | refine blk_drewN ?_ _ | refine blk_drew ?_ | refine blk_alloc ?_ _)); refine blk_put (cs := #[.int .i64 0, .int .i64 0, .string (⟨#[]⟩ : ByteArray)]) ?_ 1 _ rfl; (with_reducible repeat (first | refine blk_drewN ?_ _ | refine blk_drew ?_ | refine blk_alloc ?_ _)); refine blk_put (cs := #[.int .i64 0, .int .i64 0, .string (⟨#[]⟩ : ByteArray)]) ?_ 0 _ rfl; (with_reducible repeat (first | refine blk_drewN ?_ _ | refine blk_drew ?_ | refine blk_alloc ?_ _)); exact BK139.out) Tryd.underlying31 rfl (by kernel_rfl)) rfl ?_
                        exact ⟨by first | rfl | (simp [errW_none, errW_some] <;> rfl) | (simp [*, errW_none, errW_some] <;> rfl), by repeat (first | (with_reducible first | exact HB.out | apply below_alloc | apply pw_below_drewN | apply below_drew1 | refine below_set ?_ GE139.out) | exact HB.out)⟩
                      · rw [if_neg c36] at H
                        have c36b0 : decide (16 < ((a0.extract (a1 : Int).toNat (x8_7 : Int).toNat).size : Int)) = false := decide_eq_false c36
                        have c36b1 : decide (16 < (a0.extract (a1 : Int).toNat (x8_7 : Int).toNat).size) = false := decide_eq_false (by omega)
                        clear c36
                        simp only [Option.some.injEq, Prod.mk.injEq] at H
                        obtain ⟨rfl, rfl, rfl, rfl, rfl⟩ := H
                        go_wp2_with (first | ((with_reducible refine gate_callee (f := 40) rfl ?_); refine goesL_ (some 34) rfl rfl Tryd.func40 (by kernel_rfl) rfl #[.string (a0.extract (a1 : Int).toNat (x8_7 : Int).toNat)] rfl (by (try simp only [List.map_toArray, List.map_cons, List.map_nil]); first | done | rfl | (simp only [List.length_drop, List.length_take]; rfl)) ?_; (with_reducible refine (supercargoref27_digits.calls kj7 (a0.extract (a1 : Int).toNat (x8_7 : Int).toNat) false _ A18.out).mono ?_); rintro e w' ⟨rfl, ⟨nd, rfl⟩⟩; refine ⟨_, rfl, ?_⟩; (try (rw [drewN_self wc]; generalize hq_ : World.drewN wc _ = wc; have n0_ : Aside0 (wc.heap[gb139]? = some (.cells #[.int .i64 0, .int .i64 0, .string (⟨#[]⟩ : ByteArray)] 31 (0, 0))) := ⟨by rw [← hq_]; exact (by (with_reducible repeat (first | refine blk_drewN ?_ _ | refine blk_drew ?_ | refine blk_alloc ?_ _)); exact BK139.out)⟩; have n1_ : Aside0 (Below w.heap.size w wc) := ⟨by rw [← hq_]; exact (by repeat (first | (with_reducible first | exact HB.out | apply below_alloc | apply pw_below_drewN | apply below_drew1 | refine below_set ?_ GE139.out) | exact HB.out))⟩; clear BK139 HB hq_; have BK139 := n0_; have HB := n1_; clear n0_ n1_))) | ((with_reducible refine gate_callee (f := 16) rfl ?_); refine goesL_ (some 53) rfl rfl Tryd.func16 (by kernel_rfl) rfl #[] rfl (by (try simp only [List.map_toArray, List.map_cons, List.map_nil]); first | done | rfl | (simp only [List.length_drop, List.length_take]; rfl)) ?_; (with_reducible refine (supercargoref27_Words.calls  t144 _ A30.out).mono ?_); rintro e w40 ⟨v145, rfl, ho0, hb⟩; refine ⟨_, rfl, ?_⟩; have n0_ := Aside0.mk (Kd.R_lower ho0 (below_size (by repeat (first | (with_reducible first | exact HB.out | apply below_alloc | apply pw_below_drewN | apply below_drew1 | refine below_set ?_ GE139.out) | exact HB.out)))); have n1_ := Aside0.mk (blk_below (g := gb139) (o := .cells #[.int .i64 0, .int .i64 0, .string (⟨#[]⟩ : ByteArray)] 31 (0, 0)) (by (with_reducible repeat (first | refine blk_drewN ?_ _ | refine blk_drew ?_ | refine blk_alloc ?_ _)); exact BK139.out) hb); have n2_ := Aside0.mk (below_step (by repeat (first | (with_reducible first | exact HB.out | apply below_alloc | apply pw_below_drewN | apply below_drew1 | refine below_set ?_ GE139.out) | exact HB.out)) hb); clear BK139; clear HB; have HO146 := n0_; have BK139 := n1_; have HB := n2_; clear n0_ n1_ n2_; (try clear hb); (try clear hb2); (try clear hk); (try clear hi); (try clear ho0); obtain ⟨Ao41, co41, eo41⟩ := Kd.R_slice HO146.out; subst eo41) | ((with_reducible refine gate_callee (f := 42) rfl ?_); refine goesL_ (some 55) rfl rfl Tryd.func42 (by kernel_rfl) rfl #[.slice Ao41 t144.length co41, .string (a0.extract (a1 : Int).toNat (x8_7 : Int).toNat)] rfl (by (try simp only [List.map_toArray, List.map_cons, List.map_nil]); first | done | rfl | (simp only [List.length_drop, List.length_take]; rfl)) ?_; (with_reducible refine (supercargoref27_in.calls kj7 _ _ t144 (a0.extract (a1 : Int).toNat (x8_7 : Int).toNat) false _ ?side1 ?side2 A31.out).mono ?_); (case side1 => repeat (first | exact (Kd.R_reads' HO146.out).2.2 | (with_reducible refine Kd.C_alloc ?_ _) | (with_reducible refine Kd.C_drewN ?_ _) | (with_reducible refine Kd.C_drew ?_))); (case side2 => exact (Kd.R_reads' HO146.out).2.1); rintro e w' ⟨rfl, ⟨nd, rfl⟩⟩; refine ⟨_, rfl, ?_⟩; (try (rw [drewN_self w40]; generalize hq_ : World.drewN w40 _ = w40; have n0_ : Aside0 (Kd.R Kd.string 9 w40 w.heap.size (fun _ => True) (.slice Ao41 t144.length co41) t144) := ⟨by rw [← hq_]; exact (by (with_reducible repeat (first | apply Kd.R_alloc | apply Kd.R_drewN | apply Kd.R_drew)); exact HO146.out)⟩; have n1_ : Aside0 (w40.heap[gb139]? = some (.cells #[.int .i64 0, .int .i64 0, .string (⟨#[]⟩ : ByteArray)] 31 (0, 0))) := ⟨by rw [← hq_]; exact (by (with_reducible repeat (first | refine blk_drewN ?_ _ | refine blk_drew ?_ | refine blk_alloc ?_ _)); exact BK139.out)⟩; have n2_ : Aside0 (Below w.heap.size w w40) := ⟨by rw [← hq_]; exact (by repeat (first | (with_reducible first | exact HB.out | apply below_alloc | apply pw_below_drewN | apply below_drew1 | refine below_set ?_ GE139.out) | exact HB.out))⟩; clear HO146 BK139 HB hq_; have HO146 := n0_; have BK139 := n1_; have HB := n2_; clear n0_ n1_ n2_)); have hcz42_0 : w40.cell? ⟨gb139, 0, none⟩ = some (.int .i64 0) := (blk_cell BK139.out 0).trans rfl; have hcz42_1 : w40.cell? ⟨gb139, 1, none⟩ = some (.int .i64 0) := (blk_cell BK139.out 1).trans rfl; have hcz42_2 : w40.cell? ⟨gb139, 2, none⟩ = some (.string (⟨#[]⟩ : ByteArray)) := (blk_cell BK139.out 2).trans rfl; have hfz42_0 := blk_frozen BK139.out 0; have hfz42_1 := blk_frozen BK139.out 1; have hfz42_2 := blk_frozen BK139.out 2))
                        refine bodyPost_ret (results_ctt rfl _ _ gb139 31 #[.int .i64 1, .int .i64 a1, .string (a0.extract (a1 : Int).toNat (x8_7 : Int).toNat)] (0, 0) _ rfl (by (with_reducible repeat (first | refine blk_drewN ?_ _ | refine blk_drew ?_ | refine blk_alloc ?_ _)); refine blk_put (cs := #[.int .i64 1, .int .i64 a1, .string (⟨#[]⟩ : ByteArray)]) ?_ 2 _ rfl; (with_reducible repeat (first | refine blk_drewN ?_ _ | refine blk_drew ?_ | refine blk_alloc ?_ _)); refine blk_put (cs := #[.int .i64 1, .int .i64 0, .string (⟨#[]⟩ : ByteArray)]) ?_ 1 _ rfl; (with_reducible repeat (first | refine blk_drewN ?_ _ | refine blk_drew ?_ | refine blk_alloc ?_ _)); refine blk_put (cs := #[.int .i64 0, .int .i64 0, .string (⟨#[]⟩ : ByteArray)]) ?_ 0 _ rfl; (with_reducible repeat (first | refine blk_drewN ?_ _ | refine blk_drew ?_ | refine blk_alloc ?_ _)); exact BK139.out) Tryd.underlying31 rfl (by kernel_rfl)) rfl ?_
                        exact ⟨by first | rfl | (simp [errW_none, errW_some] <;> rfl) | (simp [*, errW_none, errW_some] <;> rfl), by repeat (first | (with_reducible first | exact HB.out | apply below_alloc | apply pw_below_drewN | apply below_drew1 | refine below_set ?_ GE139.out) | exact HB.out)⟩
                · rw [if_neg c17] at H
                  exact absurd H (by simp)
              · rw [if_neg c16] at H
                exact absurd H (by simp)
            · rw [if_neg c15] at H
              exact absurd H (by simp)
      · replace c7 := Bool.eq_false_iff.mpr c7
        subst c7
        have H1 : (if (bt a0 a1) ≥ 65 then (supercargoref27_one.j3 k a0 a1 (bt a0 a1) (wrap64 (a1 + 1)) (decide ((bt a0 a1) ≤ 90))) else (supercargoref27_one.j3 k a0 a1 (bt a0 a1) (wrap64 (a1 + 1)) false)) = some (r1, r2, r3, r4, r5) := by rw [if_neg (show ¬ (false = true) by decide)] at H; exact H
        clear H
        have H := H1
        clear H1
        have HC43 := Aside0.mk H
        clear H
        go_enter Tryd.func26, Tryd.ntmps26
        go_upto_region 18 with (first | ((with_reducible refine gate_dst (N := 4) rfl ?_); (try (refine gate_guard (by rfl) ?_; dsimp only)); refine box_event ?hg (N := 4) ?hd (cs := #[.int .i64 0, .int .i64 0, .string (⟨#[]⟩ : ByteArray)]) (t := 31) ?hr ?_; (case hd => rfl); (case hg => rfl); (case hr => first | (go_simp; done) | (go_simp; rfl)); intro gb139 hg w44 hbox hb; have n0_ := Aside0.mk (below_step (by repeat (first | (with_reducible first | exact HB.out | apply below_alloc | apply pw_below_drewN | apply below_drew1) | exact HB.out)) hb); have n1_ := Aside0.mk (hbox); have n2_ := Aside0.mk ((by rw [hg]; exact (below_size (by repeat (first | (with_reducible first | exact HB.out | apply below_alloc | apply pw_below_drewN | apply below_drew1) | exact HB.out))) : w.heap.size ≤ gb139)); have n3_ := Aside0.mk ((by rw [hg]; exact (below_size (by repeat (first | (with_reducible first | exact HB.out | apply below_alloc | apply pw_below_drewN | apply below_drew1) | exact HB.out))) : w.heap.size ≤ gb139)); clear HB; have HB := n0_; have BK139 := n1_; have GW139 := n2_; have GE139 := n3_; clear n0_ n1_ n2_ n3_; clear hb hbox hg; have p5 : 0 ≤ (a1 : Int) := of_decide_eq_true (by first | (with_reducible assumption) | assumption); have q5 : a1 < (a0.size : Int) := of_decide_eq_true (by first | (with_reducible assumption) | assumption); have hx5 := bt_at a0 a1; replace p5 := eq_true p5; replace q5 := eq_true q5) | ((with_reducible refine gate_callee (f := 39) rfl ?_); refine goesL_ (some 16) rfl rfl Tryd.func39 (by kernel_rfl) rfl #[.int .u8 (bt a0 a1)] rfl (by (try simp only [List.map_toArray, List.map_cons, List.map_nil]); first | done | rfl | (simp only [List.length_drop, List.length_take]; rfl)) ?_; (with_reducible refine (supercargoref27_run.calls (bt a0 a1) false _ A6.out).mono ?_); rintro e w' ⟨rfl, ⟨nd, rfl⟩⟩; refine ⟨_, rfl, ?_⟩))
        (try simp only [Act.put, List.setIfInBounds_toArray, List.set_cons_zero, List.set_cons_succ])
        go_cut [74] (fun v74 wc => ∃ (kq : Nat) (x74_42 : Bool), v74 = .bool x74_42 ∧ Aside0 (supercargoref27_one.j3 kq a0 a1 (bt a0 a1) (wrap64 (a1 + 1)) x74_42 = some (r1, r2, r3, r4, r5)) ∧ Aside0 (kq ≤ k) ∧ Aside0 (wc.heap[gb139]? = some (.cells #[.int .i64 0, .int .i64 0, .string (⟨#[]⟩ : ByteArray)] 31 (0, 0))) ∧ Aside0 (Below w.heap.size w wc))
        case first =>
          have H := HC43.out
          clear HC43
          by_cases c45 : (bt a0 a1) ≥ 65
          · rw [if_pos c45] at H
            have c45b0 : decide (65 ≤ (bt a0 a1)) = true := decide_eq_true c45
            clear c45
            (first | rw [c45b0] | (simp only [i64_w, i32_w]; rw [c45b0]) | skip)
            have H' := Aside0.mk H
            clear H
            go_wp2
            go_meet
            case rel => exact ⟨_, (decide ((bt a0 a1) ≤ 90)), (by first | rfl | (simp; done) | (simp [*]; done)), H', ⟨by first | omega | exact Nat.le_refl _⟩, ⟨by (with_reducible repeat (first | refine blk_drewN ?_ _ | refine blk_drew ?_ | refine blk_alloc ?_ _)); exact BK139.out⟩, ⟨by repeat (first | (with_reducible first | exact HB.out | apply below_alloc | apply pw_below_drewN | apply below_drew1 | refine below_set ?_ GE139.out) | exact HB.out)⟩⟩
          · rw [if_neg c45] at H
            have c45b0 : decide (65 ≤ (bt a0 a1)) = false := decide_eq_false c45
            clear c45
            (first | rw [c45b0] | (simp only [i64_w, i32_w]; rw [c45b0]) | skip)
            have H' := Aside0.mk H
            clear H
            go_wp2
            go_meet
            case rel => exact ⟨_, (false), (by first | rfl | (simp; done) | (simp [*]; done)), H', ⟨by first | omega | exact Nat.le_refl _⟩, ⟨by (with_reducible repeat (first | refine blk_drewN ?_ _ | refine blk_drew ?_ | refine blk_alloc ?_ _)); exact BK139.out⟩, ⟨by repeat (first | (with_reducible first | exact HB.out | apply below_alloc | apply pw_below_drewN | apply below_drew1 | refine below_set ?_ GE139.out) | exact HB.out)⟩⟩
        case rest =>
          clear HC43
          try clear c1
          try clear p1
          try clear q1
          try clear hx1
          try clear c2
          try clear p2
          try clear q2
          try clear hx2
          try clear qi2
          try clear c3
          try clear c3b0
          try clear c4
          try clear c4b0
          try clear p5
          try clear q5
          try clear hx5
          try clear p6
          try clear c7
          try clear c10
          try clear c10b0
          try clear c11
          try clear c11b0
          try clear p12
          try clear q12
          try clear hx12
          try clear c14
          try clear c15
          try clear c15b0
          try clear c15b1
          try clear c16
          try clear c16b0
          try clear c16b1
          try clear c17
          try clear c17b0
          try clear c17b1
          try clear c19
          try clear c21
          try clear c21b0
          try clear c21b1
          try clear c22
          try clear c22b0
          try clear c22b1
          try clear p23
          try clear q23
          try clear hx23
          try clear qi23
          try clear c24
          try clear c26
          try clear c27
          try clear c32
          try clear c36
          try clear c36b0
          try clear c36b1
          try clear c39
          try clear c40
          try clear c41
          try clear c42
          try clear c45
          try clear c45b0
          try clear hcz25_0
          try clear hcz25_1
          try clear hcz25_2
          try clear hcz28_0
          try clear hcz28_1
          try clear hcz28_2
          try clear hcz29_0
          try clear hcz29_1
          try clear hcz29_2
          try clear hcz35_0
          try clear hcz35_1
          try clear hcz35_2
          try clear hcz39_0
          try clear hcz39_1
          try clear hcz39_2
          try clear hcz42_0
          try clear hcz42_1
          try clear hcz42_2
          try clear hfz25_0
          try clear hfz25_1
          try clear hfz25_2
          try clear hfz28_0
          try clear hfz28_1
          try clear hfz28_2
          try clear hfz29_0
          try clear hfz29_1
          try clear hfz29_2
          try clear hfz35_0
          try clear hfz35_1
          try clear hfz35_2
          try clear hfz39_0
          try clear hfz39_1
          try clear hfz39_2
          try clear hfz42_0
          try clear hfz42_1
          try clear hfz42_2
          try clear p1
          try clear p12
          try clear p2
          try clear p23
          try clear p5
          try clear p6
          try clear q1
          try clear q12
          try clear q2
          try clear q23
          try clear q5
          obtain ⟨kq, x74_42, rfl, HA, HJ42, BK139, HB⟩ := hcut
          cases kq with
          | zero => exact absurd HA.out (by simp [supercargoref27_one.j3])
          | succ kj42 =>
            have H := HA.out
            clear HA
            simp only [supercargoref27_one.j3] at H
            by_cases c46 : x74_42 = true
            · subst c46
              have H1 : (supercargoref27_one.l1 kj42 a0 a1 (wrap64 (a1 + 1))) = some (r1, r2, r3, r4, r5) := by rw [if_pos rfl] at H; exact H
              clear H
              have H := H1
              clear H1
              have H' := Aside0.mk H
              clear H
              go_wp2
              go_loopg [8] kj42 (fun kq v8 w' => ∃ (x8_2 : Int), v8 = .int .i64 x8_2 ∧ Aside0 (supercargoref27_one.l1 kq a0 a1 x8_2 = some (r1, r2, r3, r4, r5)) ∧ Aside0 (kq ≤ kj42) ∧ Aside0 (w'.heap[gb139]? = some (.cells #[.int .i64 0, .int .i64 0, .string (⟨#[]⟩ : ByteArray)] 31 (0, 0))) ∧ Aside0 (Below w.heap.size w w'))
              case atStart => exact ⟨((wrap64 (a1 + 1))), (by first | rfl | (simp; done) | (simp [*]; done)), H', ⟨Nat.le_refl _⟩, ⟨by (with_reducible repeat (first | refine blk_drewN ?_ _ | refine blk_drew ?_ | refine blk_alloc ?_ _)); exact BK139.out⟩, ⟨by repeat (first | (with_reducible first | exact HB.out | apply below_alloc | apply pw_below_drewN | apply below_drew1 | refine below_set ?_ GE139.out) | exact HB.out)⟩⟩
              case round =>
                clear H'
                try clear c1
                try clear p1
                try clear q1
                try clear hx1
                try clear c2
                try clear p2
                try clear q2
                try clear hx2
                try clear qi2
                try clear c3
                try clear c3b0
                try clear c4
                try clear c4b0
                try clear p5
                try clear q5
                try clear hx5
                try clear p6
                try clear c7
                try clear c10
                try clear c10b0
                try clear c11
                try clear c11b0
                try clear p12
                try clear q12
                try clear hx12
                try clear c14
                try clear c15
                try clear c15b0
                try clear c15b1
                try clear c16
                try clear c16b0
                try clear c16b1
                try clear c17
                try clear c17b0
                try clear c17b1
                try clear c19
                try clear c21
                try clear c21b0
                try clear c21b1
                try clear c22
                try clear c22b0
                try clear c22b1
                try clear p23
                try clear q23
                try clear hx23
                try clear qi23
                try clear c24
                try clear c26
                try clear c27
                try clear c32
                try clear c36
                try clear c36b0
                try clear c36b1
                try clear c39
                try clear c40
                try clear c41
                try clear c42
                try clear c45
                try clear c45b0
                try clear c46
                try clear hcz25_0
                try clear hcz25_1
                try clear hcz25_2
                try clear hcz28_0
                try clear hcz28_1
                try clear hcz28_2
                try clear hcz29_0
                try clear hcz29_1
                try clear hcz29_2
                try clear hcz35_0
                try clear hcz35_1
                try clear hcz35_2
                try clear hcz39_0
                try clear hcz39_1
                try clear hcz39_2
                try clear hcz42_0
                try clear hcz42_1
                try clear hcz42_2
                try clear hfz25_0
                try clear hfz25_1
                try clear hfz25_2
                try clear hfz28_0
                try clear hfz28_1
                try clear hfz28_2
                try clear hfz29_0
                try clear hfz29_1
                try clear hfz29_2
                try clear hfz35_0
                try clear hfz35_1
                try clear hfz35_2
                try clear hfz39_0
                try clear hfz39_1
                try clear hfz39_2
                try clear hfz42_0
                try clear hfz42_1
                try clear hfz42_2
                try clear p1
                try clear p12
                try clear p2
                try clear p23
                try clear p5
                try clear p6
                try clear q1
                try clear q12
                try clear q2
                try clear q23
                try clear q5
                obtain ⟨x8_2, rfl, HA, HK2, BK139, HB⟩ := hrel
                cases gk with
                | zero => exact absurd HA.out (by simp [supercargoref27_one.l1])
                | succ k2 =>
                  have H := HA.out
                  clear HA
                  simp only [supercargoref27_one.l1] at H
                  by_cases c47 : x8_2 < (a0.size : Int)
                  · rw [if_pos c47] at H
                    have c47b0 : decide (x8_2 < (a0.size : Int)) = true := decide_eq_true c47
                    clear c47
                    by_cases c48 : 0 ≤ x8_2
                    · rw [if_pos c48] at H
                      have c48b0 : decide (0 ≤ x8_2) = true := decide_eq_true c48
                      clear c48
                      by_cases c50 : (bt a0 x8_2) ≥ 65
                      · rw [if_pos c50] at H
                        have c50b0 : decide (65 ≤ (bt a0 x8_2)) = true := decide_eq_true c50
                        clear c50
                        by_cases c52 : (bt a0 x8_2) ≤ 90
                        · rw [if_pos c52] at H
                          have c52b0 : decide ((bt a0 x8_2) ≤ 90) = true := decide_eq_true c52
                          clear c52
                          have H' := Aside0.mk H
                          clear H
                          have p49 : 0 ≤ (x8_2 : Int) := of_decide_eq_true (by first | (with_reducible assumption) | assumption)
                          have q49 : x8_2 < (a0.size : Int) := of_decide_eq_true (by first | (with_reducible assumption) | assumption)
                          have hx49 := bt_at a0 x8_2
                          replace p49 := eq_true p49
                          replace q49 := eq_true q49
                          have p51 : 0 ≤ (x8_2 : Int) := of_decide_eq_true (by first | (with_reducible assumption) | assumption)
                          have q51 : x8_2 < (a0.size : Int) := of_decide_eq_true (by first | (with_reducible assumption) | assumption)
                          have hx51 := bt_at a0 x8_2
                          replace p51 := eq_true p51
                          replace q51 := eq_true q51
                          go_wp2
                          go_roundg k2
                          case measure => have := HJ42.out; have := HK2.out; omega
                          case rel => exact ⟨(wrap64 (x8_2 + 1)), (by first | rfl | (simp; done) | (simp [*]; done)), H', ⟨by have := HJ42.out; have := HK2.out; omega⟩, ⟨by (with_reducible repeat (first | refine blk_drewN ?_ _ | refine blk_drew ?_ | refine blk_alloc ?_ _)); exact BK139.out⟩, ⟨by repeat (first | (with_reducible first | exact HB.out | apply below_alloc | apply pw_below_drewN | apply below_drew1 | refine below_set ?_ GE139.out) | exact HB.out)⟩⟩
                        · rw [if_neg c52] at H
                          have c52b0 : decide ((bt a0 x8_2) ≤ 90) = false := decide_eq_false c52
                          clear c52
                          by_cases c53 : (wrap64 (x8_2 - a1)) = 3
                          · rw [if_pos c53] at H
                            have c53b0 : ((wrap64 (x8_2 - a1)) == 3) = true := beq_iff_eq.mpr c53
                            have c53b1 : ((wrap64 (x8_2 - a1)) != 3) = false := bne_eq_false_iff_eq.mpr c53
                            clear c53
                            by_cases c54 : 0 ≤ a1
                            · rw [if_pos c54] at H
                              have c54b0 := eq_true c54
                              have c54b1 : decide (0 ≤ a1) = true := decide_eq_true c54
                              clear c54
                              by_cases c55 : a1 ≤ x8_2
                              · rw [if_pos c55] at H
                                have c55b0 := eq_true c55
                                have c55b1 : decide (a1 ≤ x8_2) = true := decide_eq_true c55
                                clear c55
                                by_cases c56 : x8_2 ≤ (a0.size : Int)
                                · rw [if_pos c56] at H
                                  have c56b0 := eq_true c56
                                  have c56b1 : decide (x8_2 ≤ (a0.size : Int)) = true := decide_eq_true c56
                                  clear c56
                                  simp only [Option.some.injEq, Prod.mk.injEq] at H
                                  obtain ⟨rfl, rfl, rfl, rfl, rfl⟩ := H
                                  have p49 : 0 ≤ (x8_2 : Int) := of_decide_eq_true (by first | (with_reducible assumption) | assumption)
                                  have q49 : x8_2 < (a0.size : Int) := of_decide_eq_true (by first | (with_reducible assumption) | assumption)
                                  have hx49 := bt_at a0 x8_2
                                  replace p49 := eq_true p49
                                  replace q49 := eq_true q49
                                  have p51 : 0 ≤ (x8_2 : Int) := of_decide_eq_true (by first | (with_reducible assumption) | assumption)
                                  have q51 : x8_2 < (a0.size : Int) := of_decide_eq_true (by first | (with_reducible assumption) | assumption)
                                  have hx51 := bt_at a0 x8_2
                                  replace p51 := eq_true p51
                                  replace q51 := eq_true q51
                                  have hcz57_0 : wr.cell? ⟨gb139, 0, none⟩ = some (.int .i64 0) := (blk_cell BK139.out 0).trans rfl
                                  have hcz57_1 : wr.cell? ⟨gb139, 1, none⟩ = some (.int .i64 0) := (blk_cell BK139.out 1).trans rfl
                                  have hcz57_2 : wr.cell? ⟨gb139, 2, none⟩ = some (.string (⟨#[]⟩ : ByteArray)) := (blk_cell BK139.out 2).trans rfl
                                  have hfz57_0 := blk_frozen BK139.out 0
                                  have hfz57_1 := blk_frozen BK139.out 1
                                  have hfz57_2 := blk_frozen BK139.out 2
                                  go_wp2
                                  refine bodyPost_ret (results_ctt rfl _ _ gb139 31 #[.int .i64 4, .int .i64 a1, .string (a0.extract (a1 : Int).toNat (x8_2 : Int).toNat)] (0, 0) _ rfl (by (with_reducible repeat (first | refine blk_drewN ?_ _ | refine blk_drew ?_ | refine blk_alloc ?_ _)); refine blk_put (cs := #[.int .i64 4, .int .i64 a1, .string (⟨#[]⟩ : ByteArray)]) ?_ 2 _ rfl; (with_reducible repeat (first | refine blk_drewN ?_ _ | refine blk_drew ?_ | refine blk_alloc ?_ _)); refine blk_put (cs := #[.int .i64 4, .int .i64 0, .string (⟨#[]⟩ : ByteArray)]) ?_ 1 _ rfl; (with_reducible repeat (first | refine blk_drewN ?_ _ | refine blk_drew ?_ | refine blk_alloc ?_ _)); refine blk_put (cs := #[.int .i64 0, .int .i64 0, .string (⟨#[]⟩ : ByteArray)]) ?_ 0 _ rfl; (with_reducible repeat (first | refine blk_drewN ?_ _ | refine blk_drew ?_ | refine blk_alloc ?_ _)); exact BK139.out) Tryd.underlying31 rfl (by kernel_rfl)) rfl ?_
                                  exact ⟨by first | rfl | (simp [errW_none, errW_some] <;> rfl) | (simp [*, errW_none, errW_some] <;> rfl), by repeat (first | (with_reducible first | exact HB.out | apply below_alloc | apply pw_below_drewN | apply below_drew1 | refine below_set ?_ GE139.out) | exact HB.out)⟩
                                · rw [if_neg c56] at H
                                  exact absurd H (by simp)
                              · rw [if_neg c55] at H
                                exact absurd H (by simp)
                            · rw [if_neg c54] at H
                              exact absurd H (by simp)
                          · rw [if_neg c53] at H
                            have c53b0 : ((wrap64 (x8_2 - a1)) == 3) = false := beq_eq_false_iff_ne.mpr c53
                            have c53b1 : ((wrap64 (x8_2 - a1)) != 3) = true := bne_iff_ne.mpr c53
                            simp only [Option.some.injEq, Prod.mk.injEq] at H
                            obtain ⟨rfl, rfl, rfl, rfl, rfl⟩ := H
                            have p49 : 0 ≤ (x8_2 : Int) := of_decide_eq_true (by first | (with_reducible assumption) | assumption)
                            have q49 : x8_2 < (a0.size : Int) := of_decide_eq_true (by first | (with_reducible assumption) | assumption)
                            have hx49 := bt_at a0 x8_2
                            replace p49 := eq_true p49
                            replace q49 := eq_true q49
                            have p51 : 0 ≤ (x8_2 : Int) := of_decide_eq_true (by first | (with_reducible assumption) | assumption)
                            have q51 : x8_2 < (a0.size : Int) := of_decide_eq_true (by first | (with_reducible assumption) | assumption)
                            have hx51 := bt_at a0 x8_2
                            replace p51 := eq_true p51
                            replace q51 := eq_true q51
                            have hcz58_0 : wr.cell? ⟨gb139, 0, none⟩ = some (.int .i64 0) := (blk_cell BK139.out 0).trans rfl
                            have hcz58_1 : wr.cell? ⟨gb139, 1, none⟩ = some (.int .i64 0) := (blk_cell BK139.out 1).trans rfl
                            have hcz58_2 : wr.cell? ⟨gb139, 2, none⟩ = some (.string (⟨#[]⟩ : ByteArray)) := (blk_cell BK139.out 2).trans rfl
                            have hfz58_0 := blk_frozen BK139.out 0
                            have hfz58_1 := blk_frozen BK139.out 1
                            have hfz58_2 := blk_frozen BK139.out 2
                            go_wp2
                            refine bodyPost_ret (results_ctt rfl _ _ gb139 31 #[.int .i64 0, .int .i64 0, .string (⟨#[]⟩ : ByteArray)] (0, 0) _ rfl (by (with_reducible repeat (first | refine blk_drewN ?_ _ | refine blk_drew ?_ | refine blk_alloc ?_ _)); refine blk_put (cs := #[.int .i64 0, .int .i64 0, .string (⟨#[]⟩ : ByteArray)]) ?_ 2 _ rfl; (with_reducible repeat (first | refine blk_drewN ?_ _ | refine blk_drew ?_ | refine blk_alloc ?_ _)); refine blk_put (cs := #[.int .i64 0, .int .i64 0, .string (⟨#[]⟩ : ByteArray)]) ?_ 1 _ rfl; (with_reducible repeat (first | refine blk_drewN ?_ _ | refine blk_drew ?_ | refine blk_alloc ?_ _)); refine blk_put (cs := #[.int .i64 0, .int .i64 0, .string (⟨#[]⟩ : ByteArray)]) ?_ 0 _ rfl; (with_reducible repeat (first | refine blk_drewN ?_ _ | refine blk_drew ?_ | refine blk_alloc ?_ _)); exact BK139.out) Tryd.underlying31 rfl (by kernel_rfl)) rfl ?_
                            exact ⟨by first | rfl | (simp [errW_none, errW_some] <;> rfl) | (simp [*, errW_none, errW_some] <;> rfl), by repeat (first | (with_reducible first | exact HB.out | apply below_alloc | apply pw_below_drewN | apply below_drew1 | refine below_set ?_ GE139.out) | exact HB.out)⟩
                      · rw [if_neg c50] at H
                        have c50b0 : decide (65 ≤ (bt a0 x8_2)) = false := decide_eq_false c50
                        clear c50
                        by_cases c59 : (wrap64 (x8_2 - a1)) = 3
                        · rw [if_pos c59] at H
                          have c59b0 : ((wrap64 (x8_2 - a1)) == 3) = true := beq_iff_eq.mpr c59
                          have c59b1 : ((wrap64 (x8_2 - a1)) != 3) = false := bne_eq_false_iff_eq.mpr c59
                          clear c59
                          by_cases c60 : 0 ≤ a1
                          · rw [if_pos c60] at H
                            have c60b0 := eq_true c60
                            have c60b1 : decide (0 ≤ a1) = true := decide_eq_true c60
                            clear c60
                            by_cases c61 : a1 ≤ x8_2
                            · rw [if_pos c61] at H
                              have c61b0 := eq_true c61
                              have c61b1 : decide (a1 ≤ x8_2) = true := decide_eq_true c61
                              clear c61
                              by_cases c62 : x8_2 ≤ (a0.size : Int)
                              · rw [if_pos c62] at H
                                have c62b0 := eq_true c62
                                have c62b1 : decide (x8_2 ≤ (a0.size : Int)) = true := decide_eq_true c62
                                clear c62
                                simp only [Option.some.injEq, Prod.mk.injEq] at H
                                obtain ⟨rfl, rfl, rfl, rfl, rfl⟩ := H
                                have p49 : 0 ≤ (x8_2 : Int) := of_decide_eq_true (by first | (with_reducible assumption) | assumption)
                                have q49 : x8_2 < (a0.size : Int) := of_decide_eq_true (by first | (with_reducible assumption) | assumption)
                                have hx49 := bt_at a0 x8_2
                                replace p49 := eq_true p49
                                replace q49 := eq_true q49
                                have hcz63_0 : wr.cell? ⟨gb139, 0, none⟩ = some (.int .i64 0) := (blk_cell BK139.out 0).trans rfl
                                have hcz63_1 : wr.cell? ⟨gb139, 1, none⟩ = some (.int .i64 0) := (blk_cell BK139.out 1).trans rfl
                                have hcz63_2 : wr.cell? ⟨gb139, 2, none⟩ = some (.string (⟨#[]⟩ : ByteArray)) := (blk_cell BK139.out 2).trans rfl
                                have hfz63_0 := blk_frozen BK139.out 0
                                have hfz63_1 := blk_frozen BK139.out 1
                                have hfz63_2 := blk_frozen BK139.out 2
                                go_wp2
                                refine bodyPost_ret (results_ctt rfl _ _ gb139 31 #[.int .i64 4, .int .i64 a1, .string (a0.extract (a1 : Int).toNat (x8_2 : Int).toNat)] (0, 0) _ rfl (by (with_reducible repeat (first | refine blk_drewN ?_ _ | refine blk_drew ?_ | refine blk_alloc ?_ _)); refine blk_put (cs := #[.int .i64 4, .int .i64 a1, .string (⟨#[]⟩ : ByteArray)]) ?_ 2 _ rfl; (with_reducible repeat (first | refine blk_drewN ?_ _ | refine blk_drew ?_ | refine blk_alloc ?_ _)); refine blk_put (cs := #[.int .i64 4, .int .i64 0, .string (⟨#[]⟩ : ByteArray)]) ?_ 1 _ rfl; (with_reducible repeat (first | refine blk_drewN ?_ _ | refine blk_drew ?_ | refine blk_alloc ?_ _)); refine blk_put (cs := #[.int .i64 0, .int .i64 0, .string (⟨#[]⟩ : ByteArray)]) ?_ 0 _ rfl; (with_reducible repeat (first | refine blk_drewN ?_ _ | refine blk_drew ?_ | refine blk_alloc ?_ _)); exact BK139.out) Tryd.underlying31 rfl (by kernel_rfl)) rfl ?_
                                exact ⟨by first | rfl | (simp [errW_none, errW_some] <;> rfl) | (simp [*, errW_none, errW_some] <;> rfl), by repeat (first | (with_reducible first | exact HB.out | apply below_alloc | apply pw_below_drewN | apply below_drew1 | refine below_set ?_ GE139.out) | exact HB.out)⟩
                              · rw [if_neg c62] at H
                                exact absurd H (by simp)
                            · rw [if_neg c61] at H
                              exact absurd H (by simp)
                          · rw [if_neg c60] at H
                            exact absurd H (by simp)
                        · rw [if_neg c59] at H
                          have c59b0 : ((wrap64 (x8_2 - a1)) == 3) = false := beq_eq_false_iff_ne.mpr c59
                          have c59b1 : ((wrap64 (x8_2 - a1)) != 3) = true := bne_iff_ne.mpr c59
                          simp only [Option.some.injEq, Prod.mk.injEq] at H
                          obtain ⟨rfl, rfl, rfl, rfl, rfl⟩ := H
                          have p49 : 0 ≤ (x8_2 : Int) := of_decide_eq_true (by first | (with_reducible assumption) | assumption)
                          have q49 : x8_2 < (a0.size : Int) := of_decide_eq_true (by first | (with_reducible assumption) | assumption)
                          have hx49 := bt_at a0 x8_2
                          replace p49 := eq_true p49
                          replace q49 := eq_true q49
                          have hcz64_0 : wr.cell? ⟨gb139, 0, none⟩ = some (.int .i64 0) := (blk_cell BK139.out 0).trans rfl
                          have hcz64_1 : wr.cell? ⟨gb139, 1, none⟩ = some (.int .i64 0) := (blk_cell BK139.out 1).trans rfl
                          have hcz64_2 : wr.cell? ⟨gb139, 2, none⟩ = some (.string (⟨#[]⟩ : ByteArray)) := (blk_cell BK139.out 2).trans rfl
                          have hfz64_0 := blk_frozen BK139.out 0
                          have hfz64_1 := blk_frozen BK139.out 1
                          have hfz64_2 := blk_frozen BK139.out 2
                          go_wp2
                          refine bodyPost_ret (results_ctt rfl _ _ gb139 31 #[.int .i64 0, .int .i64 0, .string (⟨#[]⟩ : ByteArray)] (0, 0) _ rfl (by (with_reducible repeat (first | refine blk_drewN ?_ _ | refine blk_drew ?_ | refine blk_alloc ?_ _)); refine blk_put (cs := #[.int .i64 0, .int .i64 0, .string (⟨#[]⟩ : ByteArray)]) ?_ 2 _ rfl; (with_reducible repeat (first | refine blk_drewN ?_ _ | refine blk_drew ?_ | refine blk_alloc ?_ _)); refine blk_put (cs := #[.int .i64 0, .int .i64 0, .string (⟨#[]⟩ : ByteArray)]) ?_ 1 _ rfl; (with_reducible repeat (first | refine blk_drewN ?_ _ | refine blk_drew ?_ | refine blk_alloc ?_ _)); refine blk_put (cs := #[.int .i64 0, .int .i64 0, .string (⟨#[]⟩ : ByteArray)]) ?_ 0 _ rfl; (with_reducible repeat (first | refine blk_drewN ?_ _ | refine blk_drew ?_ | refine blk_alloc ?_ _)); exact BK139.out) Tryd.underlying31 rfl (by kernel_rfl)) rfl ?_
                          exact ⟨by first | rfl | (simp [errW_none, errW_some] <;> rfl) | (simp [*, errW_none, errW_some] <;> rfl), by repeat (first | (with_reducible first | exact HB.out | apply below_alloc | apply pw_below_drewN | apply below_drew1 | refine below_set ?_ GE139.out) | exact HB.out)⟩
                    · rw [if_neg c48] at H
                      exact absurd H (by simp)
                  · rw [if_neg c47] at H
                    have c47b0 : decide (x8_2 < (a0.size : Int)) = false := decide_eq_false c47
                    clear c47
                    by_cases c65 : (wrap64 (x8_2 - a1)) = 3
                    · rw [if_pos c65] at H
                      have c65b0 : ((wrap64 (x8_2 - a1)) == 3) = true := beq_iff_eq.mpr c65
                      have c65b1 : ((wrap64 (x8_2 - a1)) != 3) = false := bne_eq_false_iff_eq.mpr c65
                      clear c65
                      by_cases c66 : 0 ≤ a1
                      · rw [if_pos c66] at H
                        have c66b0 := eq_true c66
                        have c66b1 : decide (0 ≤ a1) = true := decide_eq_true c66
                        clear c66
                        by_cases c67 : a1 ≤ x8_2
                        · rw [if_pos c67] at H
                          have c67b0 := eq_true c67
                          have c67b1 : decide (a1 ≤ x8_2) = true := decide_eq_true c67
                          clear c67
                          by_cases c68 : x8_2 ≤ (a0.size : Int)
                          · rw [if_pos c68] at H
                            have c68b0 := eq_true c68
                            have c68b1 : decide (x8_2 ≤ (a0.size : Int)) = true := decide_eq_true c68
                            clear c68
                            simp only [Option.some.injEq, Prod.mk.injEq] at H
                            obtain ⟨rfl, rfl, rfl, rfl, rfl⟩ := H
                            have hcz69_0 : wr.cell? ⟨gb139, 0, none⟩ = some (.int .i64 0) := (blk_cell BK139.out 0).trans rfl
                            have hcz69_1 : wr.cell? ⟨gb139, 1, none⟩ = some (.int .i64 0) := (blk_cell BK139.out 1).trans rfl
                            have hcz69_2 : wr.cell? ⟨gb139, 2, none⟩ = some (.string (⟨#[]⟩ : ByteArray)) := (blk_cell BK139.out 2).trans rfl
                            have hfz69_0 := blk_frozen BK139.out 0
                            have hfz69_1 := blk_frozen BK139.out 1
                            have hfz69_2 := blk_frozen BK139.out 2
                            go_wp2
                            refine bodyPost_ret (results_ctt rfl _ _ gb139 31 #[.int .i64 4, .int .i64 a1, .string (a0.extract (a1 : Int).toNat (x8_2 : Int).toNat)] (0, 0) _ rfl (by (with_reducible repeat (first | refine blk_drewN ?_ _ | refine blk_drew ?_ | refine blk_alloc ?_ _)); refine blk_put (cs := #[.int .i64 4, .int .i64 a1, .string (⟨#[]⟩ : ByteArray)]) ?_ 2 _ rfl; (with_reducible repeat (first | refine blk_drewN ?_ _ | refine blk_drew ?_ | refine blk_alloc ?_ _)); refine blk_put (cs := #[.int .i64 4, .int .i64 0, .string (⟨#[]⟩ : ByteArray)]) ?_ 1 _ rfl; (with_reducible repeat (first | refine blk_drewN ?_ _ | refine blk_drew ?_ | refine blk_alloc ?_ _)); refine blk_put (cs := #[.int .i64 0, .int .i64 0, .string (⟨#[]⟩ : ByteArray)]) ?_ 0 _ rfl; (with_reducible repeat (first | refine blk_drewN ?_ _ | refine blk_drew ?_ | refine blk_alloc ?_ _)); exact BK139.out) Tryd.underlying31 rfl (by kernel_rfl)) rfl ?_
                            exact ⟨by first | rfl | (simp [errW_none, errW_some] <;> rfl) | (simp [*, errW_none, errW_some] <;> rfl), by repeat (first | (with_reducible first | exact HB.out | apply below_alloc | apply pw_below_drewN | apply below_drew1 | refine below_set ?_ GE139.out) | exact HB.out)⟩
                          · rw [if_neg c68] at H
                            exact absurd H (by simp)
                        · rw [if_neg c67] at H
                          exact absurd H (by simp)
                      · rw [if_neg c66] at H
                        exact absurd H (by simp)
                    · rw [if_neg c65] at H
                      have c65b0 : ((wrap64 (x8_2 - a1)) == 3) = false := beq_eq_false_iff_ne.mpr c65
                      have c65b1 : ((wrap64 (x8_2 - a1)) != 3) = true := bne_iff_ne.mpr c65
                      simp only [Option.some.injEq, Prod.mk.injEq] at H
                      obtain ⟨rfl, rfl, rfl, rfl, rfl⟩ := H
                      have hcz70_0 : wr.cell? ⟨gb139, 0, none⟩ = some (.int .i64 0) := (blk_cell BK139.out 0).trans rfl
                      have hcz70_1 : wr.cell? ⟨gb139, 1, none⟩ = some (.int .i64 0) := (blk_cell BK139.out 1).trans rfl
                      have hcz70_2 : wr.cell? ⟨gb139, 2, none⟩ = some (.string (⟨#[]⟩ : ByteArray)) := (blk_cell BK139.out 2).trans rfl
                      have hfz70_0 := blk_frozen BK139.out 0
                      have hfz70_1 := blk_frozen BK139.out 1
                      have hfz70_2 := blk_frozen BK139.out 2
                      go_wp2
                      refine bodyPost_ret (results_ctt rfl _ _ gb139 31 #[.int .i64 0, .int .i64 0, .string (⟨#[]⟩ : ByteArray)] (0, 0) _ rfl (by (with_reducible repeat (first | refine blk_drewN ?_ _ | refine blk_drew ?_ | refine blk_alloc ?_ _)); refine blk_put (cs := #[.int .i64 0, .int .i64 0, .string (⟨#[]⟩ : ByteArray)]) ?_ 2 _ rfl; (with_reducible repeat (first | refine blk_drewN ?_ _ | refine blk_drew ?_ | refine blk_alloc ?_ _)); refine blk_put (cs := #[.int .i64 0, .int .i64 0, .string (⟨#[]⟩ : ByteArray)]) ?_ 1 _ rfl; (with_reducible repeat (first | refine blk_drewN ?_ _ | refine blk_drew ?_ | refine blk_alloc ?_ _)); refine blk_put (cs := #[.int .i64 0, .int .i64 0, .string (⟨#[]⟩ : ByteArray)]) ?_ 0 _ rfl; (with_reducible repeat (first | refine blk_drewN ?_ _ | refine blk_drew ?_ | refine blk_alloc ?_ _)); exact BK139.out) Tryd.underlying31 rfl (by kernel_rfl)) rfl ?_
                      exact ⟨by first | rfl | (simp [errW_none, errW_some] <;> rfl) | (simp [*, errW_none, errW_some] <;> rfl), by repeat (first | (with_reducible first | exact HB.out | apply below_alloc | apply pw_below_drewN | apply below_drew1 | refine below_set ?_ GE139.out) | exact HB.out)⟩
            · replace c46 := Bool.eq_false_iff.mpr c46
              subst c46
              have H1 : (if (bt a0 a1) = 34 then (supercargoref27_one.l2 kj42 a0 a1 (wrap64 (a1 + 1))) else (if (bt a0 a1) = 60 then (if (wrap64 (a1 + 1)) < (a0.size : Int) then (if 0 ≤ (wrap64 (a1 + 1)) then (supercargoref27_one.j7 kj42 a0 a1 (bt a0 a1) (wrap64 (a1 + 1)) ((bt a0 (wrap64 (a1 + 1))) == 61)) else (none)) else (supercargoref27_one.j7 kj42 a0 a1 (bt a0 a1) (wrap64 (a1 + 1)) false)) else (if (bt a0 a1) = 62 then (if (wrap64 (a1 + 1)) < (a0.size : Int) then (if 0 ≤ (wrap64 (a1 + 1)) then (supercargoref27_one.j7 kj42 a0 a1 (bt a0 a1) (wrap64 (a1 + 1)) ((bt a0 (wrap64 (a1 + 1))) == 61)) else (none)) else (supercargoref27_one.j7 kj42 a0 a1 (bt a0 a1) (wrap64 (a1 + 1)) false)) else (supercargoref27_one.j7 kj42 a0 a1 (bt a0 a1) (wrap64 (a1 + 1)) false)))) = some (r1, r2, r3, r4, r5) := by rw [if_neg (show ¬ (false = true) by decide)] at H; exact H
              clear H
              have H := H1
              clear H1
              by_cases c71 : (bt a0 a1) = 34
              · rw [if_pos c71] at H
                have c71b0 : ((bt a0 a1) == 34) = true := beq_iff_eq.mpr c71
                have c71b1 : ((bt a0 a1) != 34) = false := bne_eq_false_iff_eq.mpr c71
                clear c71
                have H' := Aside0.mk H
                clear H
                go_wp2
                go_loopg [8] kj42 (fun kq v8 w' => ∃ (x8_2 : Int) (x140000_2 : Int) (x140001_2 : Int) (x140002_2 : ByteArray), v8 = .int .i64 x8_2 ∧ Aside0 (supercargoref27_one.l2 kq a0 a1 x8_2 = some (r1, r2, r3, r4, r5)) ∧ Aside0 (kq ≤ kj42) ∧ Aside0 (w'.heap[gb139]? = some (.cells #[.int .i64 x140000_2, .int .i64 x140001_2, .string x140002_2] 31 (0, 0))) ∧ Aside0 (Below w.heap.size w w'))
                case atStart => exact ⟨((wrap64 (a1 + 1))), (0), (0), ((⟨#[]⟩ : ByteArray)), (by first | rfl | (simp; done) | (simp [*]; done)), H', ⟨Nat.le_refl _⟩, ⟨by (with_reducible repeat (first | refine blk_drewN ?_ _ | refine blk_drew ?_ | refine blk_alloc ?_ _)); exact BK139.out⟩, ⟨by repeat (first | (with_reducible first | exact HB.out | apply below_alloc | apply pw_below_drewN | apply below_drew1 | refine below_set ?_ GE139.out) | exact HB.out)⟩⟩
                case round =>
                  clear H'
                  try clear c1
                  try clear p1
                  try clear q1
                  try clear hx1
                  try clear c2
                  try clear p2
                  try clear q2
                  try clear hx2
                  try clear qi2
                  try clear c3
                  try clear c3b0
                  try clear c4
                  try clear c4b0
                  try clear p4
                  try clear q4
                  try clear hx4
                  try clear c5
                  try clear p5
                  try clear q5
                  try clear hx5
                  try clear c6
                  try clear p6
                  try clear c7
                  try clear c10
                  try clear c10b0
                  try clear c11
                  try clear c11b0
                  try clear p12
                  try clear q12
                  try clear hx12
                  try clear c14
                  try clear c15
                  try clear c15b0
                  try clear c15b1
                  try clear c16
                  try clear c16b0
                  try clear c16b1
                  try clear c17
                  try clear c17b0
                  try clear c17b1
                  try clear c19
                  try clear c21
                  try clear c21b0
                  try clear c21b1
                  try clear c22
                  try clear c22b0
                  try clear c22b1
                  try clear p23
                  try clear q23
                  try clear hx23
                  try clear qi23
                  try clear c24
                  try clear c26
                  try clear c27
                  try clear c32
                  try clear c36
                  try clear c36b0
                  try clear c36b1
                  try clear c39
                  try clear c40
                  try clear c41
                  try clear c42
                  try clear c45
                  try clear c45b0
                  try clear c46
                  try clear c47
                  try clear c47b0
                  try clear c48
                  try clear c48b0
                  try clear p49
                  try clear q49
                  try clear hx49
                  try clear c50
                  try clear c50b0
                  try clear p51
                  try clear q51
                  try clear hx51
                  try clear c52
                  try clear c52b0
                  try clear c53
                  try clear c53b0
                  try clear c53b1
                  try clear c54
                  try clear c54b0
                  try clear c54b1
                  try clear c55
                  try clear c55b0
                  try clear c55b1
                  try clear c56
                  try clear c56b0
                  try clear c56b1
                  try clear c59
                  try clear c59b0
                  try clear c59b1
                  try clear c60
                  try clear c60b0
                  try clear c60b1
                  try clear c61
                  try clear c61b0
                  try clear c61b1
                  try clear c62
                  try clear c62b0
                  try clear c62b1
                  try clear p64
                  try clear c65
                  try clear c65b0
                  try clear c65b1
                  try clear c66
                  try clear c66b0
                  try clear c66b1
                  try clear c67
                  try clear c67b0
                  try clear c67b1
                  try clear c68
                  try clear c68b0
                  try clear c68b1
                  try clear c71
                  try clear c71b0
                  try clear c71b1
                  try clear hcz25_0
                  try clear hcz25_1
                  try clear hcz25_2
                  try clear hcz28_0
                  try clear hcz28_1
                  try clear hcz28_2
                  try clear hcz29_0
                  try clear hcz29_1
                  try clear hcz29_2
                  try clear hcz35_0
                  try clear hcz35_1
                  try clear hcz35_2
                  try clear hcz39_0
                  try clear hcz39_1
                  try clear hcz39_2
                  try clear hcz42_0
                  try clear hcz42_1
                  try clear hcz42_2
                  try clear hcz57_0
                  try clear hcz57_1
                  try clear hcz57_2
                  try clear hcz58_0
                  try clear hcz58_1
                  try clear hcz58_2
                  try clear hcz63_0
                  try clear hcz63_1
                  try clear hcz63_2
                  try clear hcz64_0
                  try clear hcz64_1
                  try clear hcz64_2
                  try clear hcz69_0
                  try clear hcz69_1
                  try clear hcz69_2
                  try clear hcz70_0
                  try clear hcz70_1
                  try clear hcz70_2
                  try clear hfz25_0
                  try clear hfz25_1
                  try clear hfz25_2
                  try clear hfz28_0
                  try clear hfz28_1
                  try clear hfz28_2
                  try clear hfz29_0
                  try clear hfz29_1
                  try clear hfz29_2
                  try clear hfz35_0
                  try clear hfz35_1
                  try clear hfz35_2
                  try clear hfz39_0
                  try clear hfz39_1
                  try clear hfz39_2
                  try clear hfz42_0
                  try clear hfz42_1
                  try clear hfz42_2
                  try clear hfz57_0
                  try clear hfz57_1
                  try clear hfz57_2
                  try clear hfz58_0
                  try clear hfz58_1
                  try clear hfz58_2
                  try clear hfz63_0
                  try clear hfz63_1
                  try clear hfz63_2
                  try clear hfz64_0
                  try clear hfz64_1
                  try clear hfz64_2
                  try clear hfz69_0
                  try clear hfz69_1
                  try clear hfz69_2
                  try clear hfz70_0
                  try clear hfz70_1
                  try clear hfz70_2
                  try clear p1
                  try clear p12
                  try clear p2
                  try clear p23
                  try clear p49
                  try clear p5
                  try clear p51
                  try clear p6
                  try clear q1
                  try clear q12
                  try clear q2
                  try clear q23
                  try clear q49
                  try clear q5
                  try clear q51
                  obtain ⟨x8_2, x140000_2, x140001_2, x140002_2, rfl, HA, HK2, BK139, HB⟩ := hrel
                  cases gk with
                  | zero => exact absurd HA.out (by simp [supercargoref27_one.l2])
                  | succ k2 =>
                    have H := HA.out
                    clear HA
                    simp only [supercargoref27_one.l2] at H
                    have HC72 := Aside0.mk H
                    clear H
                    go_upto_region 25 with (fail)
                    go_cut [117] (fun v117 wc => ∃ (kq : Nat) (x117_71 : Bool), v117 = .bool x117_71 ∧ Aside0 (supercargoref27_one.j6 kq a0 a1 x8_2 x117_71 = some (r1, r2, r3, r4, r5)) ∧ Aside0 (kq ≤ k2) ∧ Aside0 (wc.heap[gb139]? = some (.cells #[.int .i64 x140000_2, .int .i64 x140001_2, .string x140002_2] 31 (0, 0))) ∧ Aside0 (Below w.heap.size w wc))
                    case first =>
                      have H := HC72.out
                      clear HC72
                      by_cases c73 : x8_2 < (a0.size : Int)
                      · rw [if_pos c73] at H
                        have c73b0 : decide (x8_2 < (a0.size : Int)) = true := decide_eq_true c73
                        clear c73
                        (first | rw [c73b0] | (simp only [i64_w, i32_w]; rw [c73b0]) | skip)
                        by_cases c74 : 0 ≤ x8_2
                        · rw [if_pos c74] at H
                          have c74b0 : decide (0 ≤ x8_2) = true := decide_eq_true c74
                          clear c74
                          have H' := Aside0.mk H
                          clear H
                          have p75 : 0 ≤ (x8_2 : Int) := of_decide_eq_true (by first | (with_reducible assumption) | assumption)
                          have q75 : x8_2 < (a0.size : Int) := of_decide_eq_true (by first | (with_reducible assumption) | assumption)
                          have hx75 := bt_at a0 x8_2
                          replace p75 := eq_true p75
                          replace q75 := eq_true q75
                          go_wp2
                          go_meet
                          case rel => exact ⟨_, (((bt a0 x8_2) != 34)), (by first | rfl | (simp; done) | (simp [*]; done)), H', ⟨by have := HJ42.out; have := HK2.out; first | omega | exact Nat.le_refl _⟩, ⟨by (with_reducible repeat (first | refine blk_drewN ?_ _ | refine blk_drew ?_ | refine blk_alloc ?_ _)); exact BK139.out⟩, ⟨by repeat (first | (with_reducible first | exact HB.out | apply below_alloc | apply pw_below_drewN | apply below_drew1 | refine below_set ?_ GE139.out) | exact HB.out)⟩⟩
                        · rw [if_neg c74] at H
                          exact absurd H (by simp)
                      · rw [if_neg c73] at H
                        have c73b0 : decide (x8_2 < (a0.size : Int)) = false := decide_eq_false c73
                        clear c73
                        (first | rw [c73b0] | (simp only [i64_w, i32_w]; rw [c73b0]) | skip)
                        have H' := Aside0.mk H
                        clear H
                        go_wp2
                        go_meet
                        case rel => exact ⟨_, (false), (by first | rfl | (simp; done) | (simp [*]; done)), H', ⟨by have := HJ42.out; have := HK2.out; first | omega | exact Nat.le_refl _⟩, ⟨by (with_reducible repeat (first | refine blk_drewN ?_ _ | refine blk_drew ?_ | refine blk_alloc ?_ _)); exact BK139.out⟩, ⟨by repeat (first | (with_reducible first | exact HB.out | apply below_alloc | apply pw_below_drewN | apply below_drew1 | refine below_set ?_ GE139.out) | exact HB.out)⟩⟩
                    case rest =>
                      clear HC72
                      try clear c1
                      try clear p1
                      try clear q1
                      try clear hx1
                      try clear c2
                      try clear p2
                      try clear q2
                      try clear hx2
                      try clear qi2
                      try clear c3
                      try clear c3b0
                      try clear c4
                      try clear c4b0
                      try clear p4
                      try clear q4
                      try clear hx4
                      try clear c5
                      try clear p5
                      try clear q5
                      try clear hx5
                      try clear c6
                      try clear p6
                      try clear c7
                      try clear p7
                      try clear q7
                      try clear hx7
                      try clear c10
                      try clear c10b0
                      try clear c11
                      try clear c11b0
                      try clear p12
                      try clear q12
                      try clear hx12
                      try clear c14
                      try clear c15
                      try clear c15b0
                      try clear c15b1
                      try clear c16
                      try clear c16b0
                      try clear c16b1
                      try clear c17
                      try clear c17b0
                      try clear c17b1
                      try clear c19
                      try clear c21
                      try clear c21b0
                      try clear c21b1
                      try clear c22
                      try clear c22b0
                      try clear c22b1
                      try clear p23
                      try clear q23
                      try clear hx23
                      try clear qi23
                      try clear c24
                      try clear c26
                      try clear c27
                      try clear c32
                      try clear c36
                      try clear c36b0
                      try clear c36b1
                      try clear c39
                      try clear c40
                      try clear c41
                      try clear c42
                      try clear c45
                      try clear c45b0
                      try clear c46
                      try clear c47
                      try clear c47b0
                      try clear c48
                      try clear c48b0
                      try clear p49
                      try clear q49
                      try clear hx49
                      try clear c50
                      try clear c50b0
                      try clear p51
                      try clear q51
                      try clear hx51
                      try clear c52
                      try clear c52b0
                      try clear c53
                      try clear c53b0
                      try clear c53b1
                      try clear c54
                      try clear c54b0
                      try clear c54b1
                      try clear c55
                      try clear c55b0
                      try clear c55b1
                      try clear c56
                      try clear c56b0
                      try clear c56b1
                      try clear c59
                      try clear c59b0
                      try clear c59b1
                      try clear c60
                      try clear c60b0
                      try clear c60b1
                      try clear c61
                      try clear c61b0
                      try clear c61b1
                      try clear c62
                      try clear c62b0
                      try clear c62b1
                      try clear p64
                      try clear c65
                      try clear c65b0
                      try clear c65b1
                      try clear c66
                      try clear c66b0
                      try clear c66b1
                      try clear c67
                      try clear c67b0
                      try clear c67b1
                      try clear c68
                      try clear c68b0
                      try clear c68b1
                      try clear c71
                      try clear c71b0
                      try clear c71b1
                      try clear c73
                      try clear c73b0
                      try clear c74
                      try clear c74b0
                      try clear p75
                      try clear q75
                      try clear hx75
                      try clear hcz25_0
                      try clear hcz25_1
                      try clear hcz25_2
                      try clear hcz28_0
                      try clear hcz28_1
                      try clear hcz28_2
                      try clear hcz29_0
                      try clear hcz29_1
                      try clear hcz29_2
                      try clear hcz35_0
                      try clear hcz35_1
                      try clear hcz35_2
                      try clear hcz39_0
                      try clear hcz39_1
                      try clear hcz39_2
                      try clear hcz42_0
                      try clear hcz42_1
                      try clear hcz42_2
                      try clear hcz57_0
                      try clear hcz57_1
                      try clear hcz57_2
                      try clear hcz58_0
                      try clear hcz58_1
                      try clear hcz58_2
                      try clear hcz63_0
                      try clear hcz63_1
                      try clear hcz63_2
                      try clear hcz64_0
                      try clear hcz64_1
                      try clear hcz64_2
                      try clear hcz69_0
                      try clear hcz69_1
                      try clear hcz69_2
                      try clear hcz70_0
                      try clear hcz70_1
                      try clear hcz70_2
                      try clear hfz25_0
                      try clear hfz25_1
                      try clear hfz25_2
                      try clear hfz28_0
                      try clear hfz28_1
                      try clear hfz28_2
                      try clear hfz29_0
                      try clear hfz29_1
                      try clear hfz29_2
                      try clear hfz35_0
                      try clear hfz35_1
                      try clear hfz35_2
                      try clear hfz39_0
                      try clear hfz39_1
                      try clear hfz39_2
                      try clear hfz42_0
                      try clear hfz42_1
                      try clear hfz42_2
                      try clear hfz57_0
                      try clear hfz57_1
                      try clear hfz57_2
                      try clear hfz58_0
                      try clear hfz58_1
                      try clear hfz58_2
                      try clear hfz63_0
                      try clear hfz63_1
                      try clear hfz63_2
                      try clear hfz64_0
                      try clear hfz64_1
                      try clear hfz64_2
                      try clear hfz69_0
                      try clear hfz69_1
                      try clear hfz69_2
                      try clear hfz70_0
                      try clear hfz70_1
                      try clear hfz70_2
                      try clear p1
                      try clear p12
                      try clear p2
                      try clear p23
                      try clear p4
                      try clear p49
                      try clear p5
                      try clear p51
                      try clear p6
                      try clear p64
                      try clear p75
                      try clear q1
                      try clear q12
                      try clear q2
                      try clear q23
                      try clear q4
                      try clear q49
                      try clear q5
                      try clear q51
                      try clear q75
                      obtain ⟨kq, x117_71, rfl, HA, HJ71, BK139, HB⟩ := hcut
                      cases kq with
                      | zero => exact absurd HA.out (by simp [supercargoref27_one.j6])
                      | succ kj71 =>
                        have H := HA.out
                        clear HA
                        simp only [supercargoref27_one.j6] at H
                        by_cases c76 : x117_71 = true
                        · subst c76
                          have H1 : (if 0 ≤ x8_2 then (if x8_2 < (a0.size : Int) then (if (bt a0 x8_2) < 32 then (some (0, 0, (⟨#[]⟩ : ByteArray), a1, 2)) else (if (bt a0 x8_2) > 126 then (some (0, 0, (⟨#[]⟩ : ByteArray), a1, 2)) else (supercargoref27_one.l2 kj71 a0 a1 (wrap64 (x8_2 + 1))))) else (none)) else (none)) = some (r1, r2, r3, r4, r5) := by rw [if_pos rfl] at H; exact H
                          clear H
                          have H := H1
                          clear H1
                          by_cases c77 : 0 ≤ x8_2
                          · rw [if_pos c77] at H
                            have c77b0 : decide (0 ≤ x8_2) = true := decide_eq_true c77
                            clear c77
                            by_cases c78 : x8_2 < (a0.size : Int)
                            · rw [if_pos c78] at H
                              have c78b0 : decide (x8_2 < (a0.size : Int)) = true := decide_eq_true c78
                              clear c78
                              by_cases c80 : (bt a0 x8_2) < 32
                              · rw [if_pos c80] at H
                                have c80b0 : decide ((bt a0 x8_2) < 32) = true := decide_eq_true c80
                                clear c80
                                simp only [Option.some.injEq, Prod.mk.injEq] at H
                                obtain ⟨rfl, rfl, rfl, rfl, rfl⟩ := H
                                have p79 : 0 ≤ (x8_2 : Int) := of_decide_eq_true (by first | (with_reducible assumption) | assumption)
                                have q79 : x8_2 < (a0.size : Int) := of_decide_eq_true (by first | (with_reducible assumption) | assumption)
                                have hx79 := bt_at a0 x8_2
                                replace p79 := eq_true p79
                                replace q79 := eq_true q79
                                have hcz81_0 : wc.cell? ⟨gb139, 0, none⟩ = some (.int .i64 x140000_2) := (blk_cell BK139.out 0).trans rfl
                                have hcz81_1 : wc.cell? ⟨gb139, 1, none⟩ = some (.int .i64 x140001_2) := (blk_cell BK139.out 1).trans rfl
                                have hcz81_2 : wc.cell? ⟨gb139, 2, none⟩ = some (.string x140002_2) := (blk_cell BK139.out 2).trans rfl
                                have hfz81_0 := blk_frozen BK139.out 0
                                have hfz81_1 := blk_frozen BK139.out 1
                                have hfz81_2 := blk_frozen BK139.out 2
                                go_wp2
                                refine bodyPost_ret (results_ctt rfl _ _ gb139 31 #[.int .i64 0, .int .i64 0, .string (⟨#[]⟩ : ByteArray)] (0, 0) _ rfl (by (with_reducible repeat (first | refine blk_drewN ?_ _ | refine blk_drew ?_ | refine blk_alloc ?_ _)); refine blk_put (cs := #[.int .i64 0, .int .i64 0, .string x140002_2]) ?_ 2 _ rfl; (with_reducible repeat (first | refine blk_drewN ?_ _ | refine blk_drew ?_ | refine blk_alloc ?_ _)); refine blk_put (cs := #[.int .i64 0, .int .i64 x140001_2, .string x140002_2]) ?_ 1 _ rfl; (with_reducible repeat (first | refine blk_drewN ?_ _ | refine blk_drew ?_ | refine blk_alloc ?_ _)); refine blk_put (cs := #[.int .i64 x140000_2, .int .i64 x140001_2, .string x140002_2]) ?_ 0 _ rfl; (with_reducible repeat (first | refine blk_drewN ?_ _ | refine blk_drew ?_ | refine blk_alloc ?_ _)); exact BK139.out) Tryd.underlying31 rfl (by kernel_rfl)) rfl ?_
                                exact ⟨by first | rfl | (simp [errW_none, errW_some] <;> rfl) | (simp [*, errW_none, errW_some] <;> rfl), by repeat (first | (with_reducible first | exact HB.out | apply below_alloc | apply pw_below_drewN | apply below_drew1 | refine below_set ?_ GE139.out) | exact HB.out)⟩
                              · rw [if_neg c80] at H
                                have c80b0 : decide ((bt a0 x8_2) < 32) = false := decide_eq_false c80
                                clear c80
                                by_cases c83 : (bt a0 x8_2) > 126
                                · rw [if_pos c83] at H
                                  have c83b0 : decide (126 < (bt a0 x8_2)) = true := decide_eq_true c83
                                  clear c83
                                  simp only [Option.some.injEq, Prod.mk.injEq] at H
                                  obtain ⟨rfl, rfl, rfl, rfl, rfl⟩ := H
                                  have p79 : 0 ≤ (x8_2 : Int) := of_decide_eq_true (by first | (with_reducible assumption) | assumption)
                                  have q79 : x8_2 < (a0.size : Int) := of_decide_eq_true (by first | (with_reducible assumption) | assumption)
                                  have hx79 := bt_at a0 x8_2
                                  replace p79 := eq_true p79
                                  replace q79 := eq_true q79
                                  have p82 : 0 ≤ (x8_2 : Int) := of_decide_eq_true (by first | (with_reducible assumption) | assumption)
                                  have q82 : x8_2 < (a0.size : Int) := of_decide_eq_true (by first | (with_reducible assumption) | assumption)
                                  have hx82 := bt_at a0 x8_2
                                  replace p82 := eq_true p82
                                  replace q82 := eq_true q82
                                  have hcz84_0 : wc.cell? ⟨gb139, 0, none⟩ = some (.int .i64 x140000_2) := (blk_cell BK139.out 0).trans rfl
                                  have hcz84_1 : wc.cell? ⟨gb139, 1, none⟩ = some (.int .i64 x140001_2) := (blk_cell BK139.out 1).trans rfl
                                  have hcz84_2 : wc.cell? ⟨gb139, 2, none⟩ = some (.string x140002_2) := (blk_cell BK139.out 2).trans rfl
                                  have hfz84_0 := blk_frozen BK139.out 0
                                  have hfz84_1 := blk_frozen BK139.out 1
                                  have hfz84_2 := blk_frozen BK139.out 2
                                  go_wp2
                                  refine bodyPost_ret (results_ctt rfl _ _ gb139 31 #[.int .i64 0, .int .i64 0, .string (⟨#[]⟩ : ByteArray)] (0, 0) _ rfl (by (with_reducible repeat (first | refine blk_drewN ?_ _ | refine blk_drew ?_ | refine blk_alloc ?_ _)); refine blk_put (cs := #[.int .i64 0, .int .i64 0, .string x140002_2]) ?_ 2 _ rfl; (with_reducible repeat (first | refine blk_drewN ?_ _ | refine blk_drew ?_ | refine blk_alloc ?_ _)); refine blk_put (cs := #[.int .i64 0, .int .i64 x140001_2, .string x140002_2]) ?_ 1 _ rfl; (with_reducible repeat (first | refine blk_drewN ?_ _ | refine blk_drew ?_ | refine blk_alloc ?_ _)); refine blk_put (cs := #[.int .i64 x140000_2, .int .i64 x140001_2, .string x140002_2]) ?_ 0 _ rfl; (with_reducible repeat (first | refine blk_drewN ?_ _ | refine blk_drew ?_ | refine blk_alloc ?_ _)); exact BK139.out) Tryd.underlying31 rfl (by kernel_rfl)) rfl ?_
                                  exact ⟨by first | rfl | (simp [errW_none, errW_some] <;> rfl) | (simp [*, errW_none, errW_some] <;> rfl), by repeat (first | (with_reducible first | exact HB.out | apply below_alloc | apply pw_below_drewN | apply below_drew1 | refine below_set ?_ GE139.out) | exact HB.out)⟩
                                · rw [if_neg c83] at H
                                  have c83b0 : decide (126 < (bt a0 x8_2)) = false := decide_eq_false c83
                                  clear c83
                                  have H' := Aside0.mk H
                                  clear H
                                  have p79 : 0 ≤ (x8_2 : Int) := of_decide_eq_true (by first | (with_reducible assumption) | assumption)
                                  have q79 : x8_2 < (a0.size : Int) := of_decide_eq_true (by first | (with_reducible assumption) | assumption)
                                  have hx79 := bt_at a0 x8_2
                                  replace p79 := eq_true p79
                                  replace q79 := eq_true q79
                                  have p82 : 0 ≤ (x8_2 : Int) := of_decide_eq_true (by first | (with_reducible assumption) | assumption)
                                  have q82 : x8_2 < (a0.size : Int) := of_decide_eq_true (by first | (with_reducible assumption) | assumption)
                                  have hx82 := bt_at a0 x8_2
                                  replace p82 := eq_true p82
                                  replace q82 := eq_true q82
                                  go_wp2
                                  go_roundg kj71
                                  case measure => have := HJ42.out; have := HK2.out; have := HJ71.out; omega
                                  case rel => exact ⟨(wrap64 (x8_2 + 1)), (x140000_2), (x140001_2), (x140002_2), (by first | rfl | (simp; done) | (simp [*]; done)), H', ⟨by have := HJ42.out; have := HK2.out; have := HJ71.out; omega⟩, ⟨by (with_reducible repeat (first | refine blk_drewN ?_ _ | refine blk_drew ?_ | refine blk_alloc ?_ _)); exact BK139.out⟩, ⟨by repeat (first | (with_reducible first | exact HB.out | apply below_alloc | apply pw_below_drewN | apply below_drew1 | refine below_set ?_ GE139.out) | exact HB.out)⟩⟩
                            · rw [if_neg c78] at H
                              exact absurd H (by simp)
                          · rw [if_neg c77] at H
                            exact absurd H (by simp)
                        · replace c76 := Bool.eq_false_iff.mpr c76
                          subst c76
                          have H1 : (if x8_2 = (a0.size : Int) then (some (0, 0, (⟨#[]⟩ : ByteArray), a1, 2)) else (if 0 ≤ (wrap64 (a1 + 1)) then (if (wrap64 (a1 + 1)) ≤ x8_2 then (if x8_2 ≤ (a0.size : Int) then (some (3, a1, a0.extract ((wrap64 (a1 + 1)) : Int).toNat (x8_2 : Int).toNat, wrap64 (x8_2 + 1), 0)) else (none)) else (none)) else (none))) = some (r1, r2, r3, r4, r5) := by rw [if_neg (show ¬ (false = true) by decide)] at H; exact H
                          clear H
                          have H := H1
                          clear H1
                          by_cases c85 : x8_2 = (a0.size : Int)
                          · rw [if_pos c85] at H
                            have c85b0 : (x8_2 == (a0.size : Int)) = true := beq_iff_eq.mpr c85
                            have c85b1 : (x8_2 != (a0.size : Int)) = false := bne_eq_false_iff_eq.mpr c85
                            clear c85
                            simp only [Option.some.injEq, Prod.mk.injEq] at H
                            obtain ⟨rfl, rfl, rfl, rfl, rfl⟩ := H
                            have hcz86_0 : wc.cell? ⟨gb139, 0, none⟩ = some (.int .i64 x140000_2) := (blk_cell BK139.out 0).trans rfl
                            have hcz86_1 : wc.cell? ⟨gb139, 1, none⟩ = some (.int .i64 x140001_2) := (blk_cell BK139.out 1).trans rfl
                            have hcz86_2 : wc.cell? ⟨gb139, 2, none⟩ = some (.string x140002_2) := (blk_cell BK139.out 2).trans rfl
                            have hfz86_0 := blk_frozen BK139.out 0
                            have hfz86_1 := blk_frozen BK139.out 1
                            have hfz86_2 := blk_frozen BK139.out 2
                            go_wp2
                            refine bodyPost_ret (results_ctt rfl _ _ gb139 31 #[.int .i64 0, .int .i64 0, .string (⟨#[]⟩ : ByteArray)] (0, 0) _ rfl (by (with_reducible repeat (first | refine blk_drewN ?_ _ | refine blk_drew ?_ | refine blk_alloc ?_ _)); refine blk_put (cs := #[.int .i64 0, .int .i64 0, .string x140002_2]) ?_ 2 _ rfl; (with_reducible repeat (first | refine blk_drewN ?_ _ | refine blk_drew ?_ | refine blk_alloc ?_ _)); refine blk_put (cs := #[.int .i64 0, .int .i64 x140001_2, .string x140002_2]) ?_ 1 _ rfl; (with_reducible repeat (first | refine blk_drewN ?_ _ | refine blk_drew ?_ | refine blk_alloc ?_ _)); refine blk_put (cs := #[.int .i64 x140000_2, .int .i64 x140001_2, .string x140002_2]) ?_ 0 _ rfl; (with_reducible repeat (first | refine blk_drewN ?_ _ | refine blk_drew ?_ | refine blk_alloc ?_ _)); exact BK139.out) Tryd.underlying31 rfl (by kernel_rfl)) rfl ?_
                            exact ⟨by first | rfl | (simp [errW_none, errW_some] <;> rfl) | (simp [*, errW_none, errW_some] <;> rfl), by repeat (first | (with_reducible first | exact HB.out | apply below_alloc | apply pw_below_drewN | apply below_drew1 | refine below_set ?_ GE139.out) | exact HB.out)⟩
                          · rw [if_neg c85] at H
                            have c85b0 : (x8_2 == (a0.size : Int)) = false := beq_eq_false_iff_ne.mpr c85
                            have c85b1 : (x8_2 != (a0.size : Int)) = true := bne_iff_ne.mpr c85
                            obtain ⟨ji87, hji87⟩ : ∃ j_ : Int, (wrap64 (a1 + 1)) = j_ := ⟨_, rfl⟩
                            replace H : (if 0 ≤ (ji87) then (if (ji87) ≤ x8_2 then (if x8_2 ≤ (a0.size : Int) then (some (3, a1, a0.extract ((ji87) : Int).toNat (x8_2 : Int).toNat, wrap64 (x8_2 + 1), 0)) else (none)) else (none)) else (none)) = some (r1, r2, r3, r4, r5) := by first | (rw [hji87] at H; exact H) | (simp only [hji87] at H ⊢; exact H)
                            have hji87w : (IntKind.i64.wrap (a1 + 1)) = ji87 := (i64_w _).trans hji87
                            by_cases c88 : 0 ≤ (ji87)
                            · rw [if_pos c88] at H
                              have c88b0 := eq_true c88
                              have c88b1 : decide (0 ≤ (ji87)) = true := decide_eq_true c88
                              clear c88
                              by_cases c89 : (ji87) ≤ x8_2
                              · rw [if_pos c89] at H
                                have c89b0 := eq_true c89
                                have c89b1 : decide ((ji87) ≤ x8_2) = true := decide_eq_true c89
                                clear c89
                                by_cases c90 : x8_2 ≤ (a0.size : Int)
                                · rw [if_pos c90] at H
                                  have c90b0 := eq_true c90
                                  have c90b1 : decide (x8_2 ≤ (a0.size : Int)) = true := decide_eq_true c90
                                  clear c90
                                  simp only [Option.some.injEq, Prod.mk.injEq] at H
                                  obtain ⟨rfl, rfl, rfl, rfl, rfl⟩ := H
                                  have hcz91_0 : wc.cell? ⟨gb139, 0, none⟩ = some (.int .i64 x140000_2) := (blk_cell BK139.out 0).trans rfl
                                  have hcz91_1 : wc.cell? ⟨gb139, 1, none⟩ = some (.int .i64 x140001_2) := (blk_cell BK139.out 1).trans rfl
                                  have hcz91_2 : wc.cell? ⟨gb139, 2, none⟩ = some (.string x140002_2) := (blk_cell BK139.out 2).trans rfl
                                  have hfz91_0 := blk_frozen BK139.out 0
                                  have hfz91_1 := blk_frozen BK139.out 1
                                  have hfz91_2 := blk_frozen BK139.out 2
                                  go_wp2
                                  refine bodyPost_ret (results_ctt rfl _ _ gb139 31 #[.int .i64 3, .int .i64 a1, .string (a0.extract ((ji87) : Int).toNat (x8_2 : Int).toNat)] (0, 0) _ rfl (by (with_reducible repeat (first | refine blk_drewN ?_ _ | refine blk_drew ?_ | refine blk_alloc ?_ _)); refine blk_put (cs := #[.int .i64 3, .int .i64 a1, .string x140002_2]) ?_ 2 _ rfl; (with_reducible repeat (first | refine blk_drewN ?_ _ | refine blk_drew ?_ | refine blk_alloc ?_ _)); refine blk_put (cs := #[.int .i64 3, .int .i64 x140001_2, .string x140002_2]) ?_ 1 _ rfl; (with_reducible repeat (first | refine blk_drewN ?_ _ | refine blk_drew ?_ | refine blk_alloc ?_ _)); refine blk_put (cs := #[.int .i64 x140000_2, .int .i64 x140001_2, .string x140002_2]) ?_ 0 _ rfl; (with_reducible repeat (first | refine blk_drewN ?_ _ | refine blk_drew ?_ | refine blk_alloc ?_ _)); exact BK139.out) Tryd.underlying31 rfl (by kernel_rfl)) rfl ?_
                                  exact ⟨by first | rfl | (simp [errW_none, errW_some] <;> rfl) | (simp only [← hji87]; first | rfl | (simp [errW_none, errW_some] <;> rfl)) | (simp [*, errW_none, errW_some] <;> rfl), by repeat (first | (with_reducible first | exact HB.out | apply below_alloc | apply pw_below_drewN | apply below_drew1 | refine below_set ?_ GE139.out) | exact HB.out)⟩
                                · rw [if_neg c90] at H
                                  exact absurd H (by simp)
                              · rw [if_neg c89] at H
                                exact absurd H (by simp)
                            · rw [if_neg c88] at H
                              exact absurd H (by simp)
              · rw [if_neg c71] at H
                have c71b0 : ((bt a0 a1) == 34) = false := beq_eq_false_iff_ne.mpr c71
                have c71b1 : ((bt a0 a1) != 34) = true := bne_iff_ne.mpr c71
                have HC92 := Aside0.mk H
                clear H
                go_upto_region 32 with (fail)
                go_cut [164] (fun v164 wc => ∃ (kq : Nat) (x164_91 : Bool), v164 = .bool x164_91 ∧ Aside0 (supercargoref27_one.j7 kq a0 a1 (bt a0 a1) (wrap64 (a1 + 1)) x164_91 = some (r1, r2, r3, r4, r5)) ∧ Aside0 (kq ≤ kj42) ∧ Aside0 (wc.heap[gb139]? = some (.cells #[.int .i64 0, .int .i64 0, .string (⟨#[]⟩ : ByteArray)] 31 (0, 0))) ∧ Aside0 (Below w.heap.size w wc))
                case first =>
                  have H := HC92.out
                  clear HC92
                  by_cases c93 : (bt a0 a1) = 60
                  · rw [if_pos c93] at H
                    have c93b0 : ((bt a0 a1) == 60) = true := beq_iff_eq.mpr c93
                    have c93b1 : ((bt a0 a1) != 60) = false := bne_eq_false_iff_eq.mpr c93
                    clear c93
                    (first | rw [c93b0] | (simp only [i64_w, i32_w]; rw [c93b0]) | skip)
                    by_cases c94 : (wrap64 (a1 + 1)) < (a0.size : Int)
                    · rw [if_pos c94] at H
                      have c94b0 : decide ((wrap64 (a1 + 1)) < (a0.size : Int)) = true := decide_eq_true c94
                      clear c94
                      obtain ⟨ji95, hji95⟩ : ∃ j_ : Int, (wrap64 (a1 + 1)) = j_ := ⟨_, rfl⟩
                      replace H : (if 0 ≤ (ji95) then (supercargoref27_one.j7 kj42 a0 a1 (bt a0 a1) (ji95) ((bt a0 (ji95)) == 61)) else (none)) = some (r1, r2, r3, r4, r5) := by first | (rw [hji95] at H; exact H) | (simp only [hji95] at H ⊢; exact H)
                      (try rw [hji95] at c94b0)
                      have hji95w : (IntKind.i64.wrap (a1 + 1)) = ji95 := (i64_w _).trans hji95
                      by_cases c96 : 0 ≤ (ji95)
                      · rw [if_pos c96] at H
                        have c96b0 : decide (0 ≤ (ji95)) = true := decide_eq_true c96
                        clear c96
                        have H' := Aside0.mk H
                        clear H
                        have p97 : 0 ≤ ((ji95) : Int) := of_decide_eq_true (by first | (with_reducible assumption) | assumption)
                        have q97 : (ji95) < (a0.size : Int) := of_decide_eq_true (by first | (with_reducible assumption) | assumption)
                        have hx97 := bt_at a0 (ji95)
                        replace p97 := eq_true p97
                        replace q97 := eq_true q97
                        go_wp2
                        go_meet
                        case rel => exact ⟨_, (((bt a0 (ji95)) == 61)), (by first | rfl | (simp; done) | (simp only [← hji95] <;> (first | rfl | simp)) | (simp [*]; done)), ⟨by rw [hji95]; exact H'.out⟩, ⟨by have := HJ42.out; first | omega | exact Nat.le_refl _⟩, ⟨by (with_reducible repeat (first | refine blk_drewN ?_ _ | refine blk_drew ?_ | refine blk_alloc ?_ _)); exact BK139.out⟩, ⟨by repeat (first | (with_reducible first | exact HB.out | apply below_alloc | apply pw_below_drewN | apply below_drew1 | refine below_set ?_ GE139.out) | exact HB.out)⟩⟩
                      · rw [if_neg c96] at H
                        exact absurd H (by simp)
                    · rw [if_neg c94] at H
                      have c94b0 : decide ((wrap64 (a1 + 1)) < (a0.size : Int)) = false := decide_eq_false c94
                      clear c94
                      have H' := Aside0.mk H
                      clear H
                      go_wp2
                      go_meet
                      case rel => exact ⟨_, (false), (by first | rfl | (simp; done) | (simp [*]; done)), H', ⟨by have := HJ42.out; first | omega | exact Nat.le_refl _⟩, ⟨by (with_reducible repeat (first | refine blk_drewN ?_ _ | refine blk_drew ?_ | refine blk_alloc ?_ _)); exact BK139.out⟩, ⟨by repeat (first | (with_reducible first | exact HB.out | apply below_alloc | apply pw_below_drewN | apply below_drew1 | refine below_set ?_ GE139.out) | exact HB.out)⟩⟩
                  · rw [if_neg c93] at H
                    have c93b0 : ((bt a0 a1) == 60) = false := beq_eq_false_iff_ne.mpr c93
                    have c93b1 : ((bt a0 a1) != 60) = true := bne_iff_ne.mpr c93
                    (first | rw [c93b0] | (simp only [i64_w, i32_w]; rw [c93b0]) | skip)
                    by_cases c98 : (bt a0 a1) = 62
                    · rw [if_pos c98] at H
                      have c98b0 : ((bt a0 a1) == 62) = true := beq_iff_eq.mpr c98
                      have c98b1 : ((bt a0 a1) != 62) = false := bne_eq_false_iff_eq.mpr c98
                      clear c98
                      by_cases c99 : (wrap64 (a1 + 1)) < (a0.size : Int)
                      · rw [if_pos c99] at H
                        have c99b0 : decide ((wrap64 (a1 + 1)) < (a0.size : Int)) = true := decide_eq_true c99
                        clear c99
                        obtain ⟨ji100, hji100⟩ : ∃ j_ : Int, (wrap64 (a1 + 1)) = j_ := ⟨_, rfl⟩
                        replace H : (if 0 ≤ (ji100) then (supercargoref27_one.j7 kj42 a0 a1 (bt a0 a1) (ji100) ((bt a0 (ji100)) == 61)) else (none)) = some (r1, r2, r3, r4, r5) := by first | (rw [hji100] at H; exact H) | (simp only [hji100] at H ⊢; exact H)
                        (try rw [hji100] at c99b0)
                        have hji100w : (IntKind.i64.wrap (a1 + 1)) = ji100 := (i64_w _).trans hji100
                        by_cases c101 : 0 ≤ (ji100)
                        · rw [if_pos c101] at H
                          have c101b0 : decide (0 ≤ (ji100)) = true := decide_eq_true c101
                          clear c101
                          have H' := Aside0.mk H
                          clear H
                          have p102 : 0 ≤ ((ji100) : Int) := of_decide_eq_true (by first | (with_reducible assumption) | assumption)
                          have q102 : (ji100) < (a0.size : Int) := of_decide_eq_true (by first | (with_reducible assumption) | assumption)
                          have hx102 := bt_at a0 (ji100)
                          replace p102 := eq_true p102
                          replace q102 := eq_true q102
                          go_wp2
                          go_meet
                          case rel => exact ⟨_, (((bt a0 (ji100)) == 61)), (by first | rfl | (simp; done) | (simp only [← hji100] <;> (first | rfl | simp)) | (simp [*]; done)), ⟨by rw [hji100]; exact H'.out⟩, ⟨by have := HJ42.out; first | omega | exact Nat.le_refl _⟩, ⟨by (with_reducible repeat (first | refine blk_drewN ?_ _ | refine blk_drew ?_ | refine blk_alloc ?_ _)); exact BK139.out⟩, ⟨by repeat (first | (with_reducible first | exact HB.out | apply below_alloc | apply pw_below_drewN | apply below_drew1 | refine below_set ?_ GE139.out) | exact HB.out)⟩⟩
                        · rw [if_neg c101] at H
                          exact absurd H (by simp)
                      · rw [if_neg c99] at H
                        have c99b0 : decide ((wrap64 (a1 + 1)) < (a0.size : Int)) = false := decide_eq_false c99
                        clear c99
                        have H' := Aside0.mk H
                        clear H
                        go_wp2
                        go_meet
                        case rel => exact ⟨_, (false), (by first | rfl | (simp; done) | (simp [*]; done)), H', ⟨by have := HJ42.out; first | omega | exact Nat.le_refl _⟩, ⟨by (with_reducible repeat (first | refine blk_drewN ?_ _ | refine blk_drew ?_ | refine blk_alloc ?_ _)); exact BK139.out⟩, ⟨by repeat (first | (with_reducible first | exact HB.out | apply below_alloc | apply pw_below_drewN | apply below_drew1 | refine below_set ?_ GE139.out) | exact HB.out)⟩⟩
                    · rw [if_neg c98] at H
                      have c98b0 : ((bt a0 a1) == 62) = false := beq_eq_false_iff_ne.mpr c98
                      have c98b1 : ((bt a0 a1) != 62) = true := bne_iff_ne.mpr c98
                      have H' := Aside0.mk H
                      clear H
                      go_wp2
                      go_meet
                      case rel => exact ⟨_, (false), (by first | rfl | (simp; done) | (simp [*]; done)), H', ⟨by have := HJ42.out; first | omega | exact Nat.le_refl _⟩, ⟨by (with_reducible repeat (first | refine blk_drewN ?_ _ | refine blk_drew ?_ | refine blk_alloc ?_ _)); exact BK139.out⟩, ⟨by repeat (first | (with_reducible first | exact HB.out | apply below_alloc | apply pw_below_drewN | apply below_drew1 | refine below_set ?_ GE139.out) | exact HB.out)⟩⟩
                case rest =>
                  clear HC92
                  try clear c1
                  try clear p1
                  try clear q1
                  try clear hx1
                  try clear c2
                  try clear p2
                  try clear q2
                  try clear hx2
                  try clear qi2
                  try clear c3
                  try clear c3b0
                  try clear c4
                  try clear c4b0
                  try clear p4
                  try clear q4
                  try clear hx4
                  try clear c5
                  try clear p5
                  try clear q5
                  try clear hx5
                  try clear c6
                  try clear p6
                  try clear c7
                  try clear p7
                  try clear q7
                  try clear hx7
                  try clear c8
                  try clear p8
                  try clear q8
                  try clear hx8
                  try clear c9
                  try clear p9
                  try clear q9
                  try clear hx9
                  try clear c10
                  try clear c10b0
                  try clear p10
                  try clear q10
                  try clear hx10
                  try clear c11
                  try clear c11b0
                  try clear p12
                  try clear q12
                  try clear hx12
                  try clear c14
                  try clear c15
                  try clear c15b0
                  try clear c15b1
                  try clear c16
                  try clear c16b0
                  try clear c16b1
                  try clear c17
                  try clear c17b0
                  try clear c17b1
                  try clear c19
                  try clear c21
                  try clear c21b0
                  try clear c21b1
                  try clear c22
                  try clear c22b0
                  try clear c22b1
                  try clear p23
                  try clear q23
                  try clear hx23
                  try clear qi23
                  try clear c24
                  try clear c26
                  try clear c27
                  try clear c32
                  try clear c36
                  try clear c36b0
                  try clear c36b1
                  try clear c39
                  try clear c40
                  try clear c41
                  try clear c42
                  try clear c45
                  try clear c45b0
                  try clear c46
                  try clear c47
                  try clear c47b0
                  try clear c48
                  try clear c48b0
                  try clear p49
                  try clear q49
                  try clear hx49
                  try clear c50
                  try clear c50b0
                  try clear p51
                  try clear q51
                  try clear hx51
                  try clear c52
                  try clear c52b0
                  try clear c53
                  try clear c53b0
                  try clear c53b1
                  try clear c54
                  try clear c54b0
                  try clear c54b1
                  try clear c55
                  try clear c55b0
                  try clear c55b1
                  try clear c56
                  try clear c56b0
                  try clear c56b1
                  try clear c59
                  try clear c59b0
                  try clear c59b1
                  try clear c60
                  try clear c60b0
                  try clear c60b1
                  try clear c61
                  try clear c61b0
                  try clear c61b1
                  try clear c62
                  try clear c62b0
                  try clear c62b1
                  try clear p64
                  try clear c65
                  try clear c65b0
                  try clear c65b1
                  try clear c66
                  try clear c66b0
                  try clear c66b1
                  try clear c67
                  try clear c67b0
                  try clear c67b1
                  try clear c68
                  try clear c68b0
                  try clear c68b1
                  try clear c71
                  try clear c71b0
                  try clear c71b1
                  try clear c73
                  try clear c73b0
                  try clear c74
                  try clear c74b0
                  try clear p75
                  try clear q75
                  try clear hx75
                  try clear c76
                  try clear c77
                  try clear c77b0
                  try clear c78
                  try clear c78b0
                  try clear p79
                  try clear q79
                  try clear hx79
                  try clear c80
                  try clear c80b0
                  try clear p82
                  try clear q82
                  try clear hx82
                  try clear c83
                  try clear c83b0
                  try clear c85
                  try clear c85b0
                  try clear c85b1
                  try clear c88
                  try clear c88b0
                  try clear c88b1
                  try clear c89
                  try clear c89b0
                  try clear c89b1
                  try clear c90
                  try clear c90b0
                  try clear c90b1
                  try clear c93
                  try clear c93b0
                  try clear c93b1
                  try clear c94
                  try clear c94b0
                  try clear c96
                  try clear c96b0
                  try clear p97
                  try clear q97
                  try clear hx97
                  try clear c98
                  try clear c98b0
                  try clear c98b1
                  try clear c99
                  try clear c99b0
                  try clear c101
                  try clear c101b0
                  try clear p102
                  try clear q102
                  try clear hx102
                  try clear hcz25_0
                  try clear hcz25_1
                  try clear hcz25_2
                  try clear hcz28_0
                  try clear hcz28_1
                  try clear hcz28_2
                  try clear hcz29_0
                  try clear hcz29_1
                  try clear hcz29_2
                  try clear hcz35_0
                  try clear hcz35_1
                  try clear hcz35_2
                  try clear hcz39_0
                  try clear hcz39_1
                  try clear hcz39_2
                  try clear hcz42_0
                  try clear hcz42_1
                  try clear hcz42_2
                  try clear hcz57_0
                  try clear hcz57_1
                  try clear hcz57_2
                  try clear hcz58_0
                  try clear hcz58_1
                  try clear hcz58_2
                  try clear hcz63_0
                  try clear hcz63_1
                  try clear hcz63_2
                  try clear hcz64_0
                  try clear hcz64_1
                  try clear hcz64_2
                  try clear hcz69_0
                  try clear hcz69_1
                  try clear hcz69_2
                  try clear hcz70_0
                  try clear hcz70_1
                  try clear hcz70_2
                  try clear hcz81_0
                  try clear hcz81_1
                  try clear hcz81_2
                  try clear hcz84_0
                  try clear hcz84_1
                  try clear hcz84_2
                  try clear hcz86_0
                  try clear hcz86_1
                  try clear hcz86_2
                  try clear hcz91_0
                  try clear hcz91_1
                  try clear hcz91_2
                  try clear hfz25_0
                  try clear hfz25_1
                  try clear hfz25_2
                  try clear hfz28_0
                  try clear hfz28_1
                  try clear hfz28_2
                  try clear hfz29_0
                  try clear hfz29_1
                  try clear hfz29_2
                  try clear hfz35_0
                  try clear hfz35_1
                  try clear hfz35_2
                  try clear hfz39_0
                  try clear hfz39_1
                  try clear hfz39_2
                  try clear hfz42_0
                  try clear hfz42_1
                  try clear hfz42_2
                  try clear hfz57_0
                  try clear hfz57_1
                  try clear hfz57_2
                  try clear hfz58_0
                  try clear hfz58_1
                  try clear hfz58_2
                  try clear hfz63_0
                  try clear hfz63_1
                  try clear hfz63_2
                  try clear hfz64_0
                  try clear hfz64_1
                  try clear hfz64_2
                  try clear hfz69_0
                  try clear hfz69_1
                  try clear hfz69_2
                  try clear hfz70_0
                  try clear hfz70_1
                  try clear hfz70_2
                  try clear hfz81_0
                  try clear hfz81_1
                  try clear hfz81_2
                  try clear hfz84_0
                  try clear hfz84_1
                  try clear hfz84_2
                  try clear hfz86_0
                  try clear hfz86_1
                  try clear hfz86_2
                  try clear hfz91_0
                  try clear hfz91_1
                  try clear hfz91_2
                  try clear p1
                  try clear p102
                  try clear p12
                  try clear p2
                  try clear p23
                  try clear p4
                  try clear p49
                  try clear p5
                  try clear p51
                  try clear p6
                  try clear p64
                  try clear p7
                  try clear p75
                  try clear p79
                  try clear p82
                  try clear p97
                  try clear q1
                  try clear q102
                  try clear q12
                  try clear q2
                  try clear q23
                  try clear q4
                  try clear q49
                  try clear q5
                  try clear q51
                  try clear q7
                  try clear q75
                  try clear q79
                  try clear q82
                  try clear q97
                  obtain ⟨kq, x164_91, rfl, HA, HJ91, BK139, HB⟩ := hcut
                  cases kq with
                  | zero => exact absurd HA.out (by simp [supercargoref27_one.j7])
                  | succ kj91 =>
                    have H := HA.out
                    clear HA
                    simp only [supercargoref27_one.j7] at H
                    by_cases c103 : x164_91 = true
                    · subst c103
                      have H1 : (if 0 ≤ a1 then (if a1 ≤ (wrap64 ((wrap64 (a1 + 1)) + 1)) then (if (wrap64 ((wrap64 (a1 + 1)) + 1)) ≤ (a0.size : Int) then (some (5, a1, a0.extract (a1 : Int).toNat ((wrap64 ((wrap64 (a1 + 1)) + 1)) : Int).toNat, wrap64 ((wrap64 (a1 + 1)) + 1), 0)) else (none)) else (none)) else (none)) = some (r1, r2, r3, r4, r5) := by rw [if_pos rfl] at H; exact H
                      clear H
                      have H := H1
                      clear H1
                      by_cases c104 : 0 ≤ a1
                      · rw [if_pos c104] at H
                        have c104b0 := eq_true c104
                        have c104b1 : decide (0 ≤ a1) = true := decide_eq_true c104
                        clear c104
                        by_cases c105 : a1 ≤ (wrap64 ((wrap64 (a1 + 1)) + 1))
                        · rw [if_pos c105] at H
                          have c105b0 := eq_true c105
                          have c105b1 : decide (a1 ≤ (wrap64 ((wrap64 (a1 + 1)) + 1))) = true := decide_eq_true c105
                          by_cases c106 : (wrap64 ((wrap64 (a1 + 1)) + 1)) ≤ (a0.size : Int)
                          · rw [if_pos c106] at H
                            have c106b0 := eq_true c106
                            have c106b1 : decide ((wrap64 ((wrap64 (a1 + 1)) + 1)) ≤ (a0.size : Int)) = true := decide_eq_true c106
                            simp only [Option.some.injEq, Prod.mk.injEq] at H
                            obtain ⟨rfl, rfl, rfl, rfl, rfl⟩ := H
                            have hcz107_0 : wc.cell? ⟨gb139, 0, none⟩ = some (.int .i64 0) := (blk_cell BK139.out 0).trans rfl
                            have hcz107_1 : wc.cell? ⟨gb139, 1, none⟩ = some (.int .i64 0) := (blk_cell BK139.out 1).trans rfl
                            have hcz107_2 : wc.cell? ⟨gb139, 2, none⟩ = some (.string (⟨#[]⟩ : ByteArray)) := (blk_cell BK139.out 2).trans rfl
                            have hfz107_0 := blk_frozen BK139.out 0
                            have hfz107_1 := blk_frozen BK139.out 1
                            have hfz107_2 := blk_frozen BK139.out 2
                            go_wp2
                            refine bodyPost_ret (results_ctt rfl _ _ gb139 31 #[.int .i64 5, .int .i64 a1, .string (a0.extract (a1 : Int).toNat ((wrap64 ((wrap64 (a1 + 1)) + 1)) : Int).toNat)] (0, 0) _ rfl (by (with_reducible repeat (first | refine blk_drewN ?_ _ | refine blk_drew ?_ | refine blk_alloc ?_ _)); refine blk_put (cs := #[.int .i64 5, .int .i64 a1, .string (⟨#[]⟩ : ByteArray)]) ?_ 2 _ rfl; (with_reducible repeat (first | refine blk_drewN ?_ _ | refine blk_drew ?_ | refine blk_alloc ?_ _)); refine blk_put (cs := #[.int .i64 5, .int .i64 0, .string (⟨#[]⟩ : ByteArray)]) ?_ 1 _ rfl; (with_reducible repeat (first | refine blk_drewN ?_ _ | refine blk_drew ?_ | refine blk_alloc ?_ _)); refine blk_put (cs := #[.int .i64 0, .int .i64 0, .string (⟨#[]⟩ : ByteArray)]) ?_ 0 _ rfl; (with_reducible repeat (first | refine blk_drewN ?_ _ | refine blk_drew ?_ | refine blk_alloc ?_ _)); exact BK139.out) Tryd.underlying31 rfl (by kernel_rfl)) rfl ?_
                            exact ⟨by first | rfl | (simp [errW_none, errW_some] <;> rfl) | (simp [*, errW_none, errW_some] <;> rfl), by repeat (first | (with_reducible first | exact HB.out | apply below_alloc | apply pw_below_drewN | apply below_drew1 | refine below_set ?_ GE139.out) | exact HB.out)⟩
                          · rw [if_neg c106] at H
                            exact absurd H (by simp)
                        · rw [if_neg c105] at H
                          exact absurd H (by simp)
                      · rw [if_neg c104] at H
                        exact absurd H (by simp)
                    · replace c103 := Bool.eq_false_iff.mpr c103
                      subst c103
                      have H1 : ((supercargoref27_in.f kj91 (([(⟨#[40]⟩ : ByteArray), (⟨#[41]⟩ : ByteArray), (⟨#[44]⟩ : ByteArray), (⟨#[59]⟩ : ByteArray), (⟨#[58]⟩ : ByteArray), (⟨#[46]⟩ : ByteArray), (⟨#[61]⟩ : ByteArray), (⟨#[126]⟩ : ByteArray)] : List ByteArray)) (strOfNums (([(bt a0 a1)] : List Int)))).bind fun t154 => (if t154 = true then (if 0 ≤ a1 then (if a1 ≤ (wrap64 (a1 + 1)) then (if (wrap64 (a1 + 1)) ≤ (a0.size : Int) then (some (5, a1, a0.extract (a1 : Int).toNat ((wrap64 (a1 + 1)) : Int).toNat, (wrap64 (a1 + 1)), 0)) else (none)) else (none)) else (none)) else (some (0, 0, (⟨#[]⟩ : ByteArray), a1, 2)))) = some (r1, r2, r3, r4, r5) := by rw [if_neg (show ¬ (false = true) by decide)] at H; exact H
                      clear H
                      have H := H1
                      clear H1
                      obtain ⟨y148, hy148⟩ : ∃ y_ : List ByteArray, y_ = (([(⟨#[40]⟩ : ByteArray), (⟨#[41]⟩ : ByteArray), (⟨#[44]⟩ : ByteArray), (⟨#[59]⟩ : ByteArray), (⟨#[58]⟩ : ByteArray), (⟨#[46]⟩ : ByteArray), (⟨#[61]⟩ : ByteArray), (⟨#[126]⟩ : ByteArray)] : List ByteArray)) := ⟨_, rfl⟩
                      replace H : ((supercargoref27_in.f kj91 y148 (strOfNums (([(bt a0 a1)] : List Int)))).bind fun t154 => (if t154 = true then (if 0 ≤ a1 then (if a1 ≤ (wrap64 (a1 + 1)) then (if (wrap64 (a1 + 1)) ≤ (a0.size : Int) then (some (5, a1, a0.extract (a1 : Int).toNat ((wrap64 (a1 + 1)) : Int).toNat, (wrap64 (a1 + 1)), 0)) else (none)) else (none)) else (none)) else (some (0, 0, (⟨#[]⟩ : ByteArray), a1, 2)))) = some (r1, r2, r3, r4, r5) := by first | (rw [hy148]; with_reducible exact H) | (have H2_ := (Option.bind_some _ _).symm.trans H; rw [hy148]; with_reducible exact H2_) | (have H2_ := (Option.bind_some _ _).symm.trans H; with_reducible exact H2_) | with_reducible exact H | (rw [hy148]; exact H) | exact H
                      have Ny148 := Aside0.mk hy148
                      clear hy148
                      obtain ⟨y151, hy151⟩ : ∃ y_ : List Int, y_ = (([(bt a0 a1)] : List Int)) := ⟨_, rfl⟩
                      replace H : ((supercargoref27_in.f kj91 y148 (strOfNums y151)).bind fun t154 => (if t154 = true then (if 0 ≤ a1 then (if a1 ≤ (wrap64 (a1 + 1)) then (if (wrap64 (a1 + 1)) ≤ (a0.size : Int) then (some (5, a1, a0.extract (a1 : Int).toNat ((wrap64 (a1 + 1)) : Int).toNat, (wrap64 (a1 + 1)), 0)) else (none)) else (none)) else (none)) else (some (0, 0, (⟨#[]⟩ : ByteArray), a1, 2)))) = some (r1, r2, r3, r4, r5) := by first | (rw [hy151]; with_reducible exact H) | (have H2_ := (Option.bind_some _ _).symm.trans H; rw [hy151]; with_reducible exact H2_) | (have H2_ := (Option.bind_some _ _).symm.trans H; with_reducible exact H2_) | with_reducible exact H | (rw [hy151]; exact H) | exact H
                      have Ny151 := Aside0.mk hy151
                      clear hy151
                      replace H := Option.bind_eq_some_iff.mp H
                      obtain ⟨t154, A1080, H⟩ := H
                      replace H : (if t154 = true then (if 0 ≤ a1 then (if a1 ≤ (wrap64 (a1 + 1)) then (if (wrap64 (a1 + 1)) ≤ (a0.size : Int) then (some (5, a1, a0.extract (a1 : Int).toNat ((wrap64 (a1 + 1)) : Int).toNat, (wrap64 (a1 + 1)), 0)) else (none)) else (none)) else (none)) else (some (0, 0, (⟨#[]⟩ : ByteArray), a1, 2))) = some (r1, r2, r3, r4, r5) := H
                      have A108 := Aside0.mk A1080
                      clear A1080
                      by_cases c109 : t154 = true
                      · subst c109
                        have H1 : (if 0 ≤ a1 then (if a1 ≤ (wrap64 (a1 + 1)) then (if (wrap64 (a1 + 1)) ≤ (a0.size : Int) then (some (5, a1, a0.extract (a1 : Int).toNat ((wrap64 (a1 + 1)) : Int).toNat, (wrap64 (a1 + 1)), 0)) else (none)) else (none)) else (none)) = some (r1, r2, r3, r4, r5) := by rw [if_pos rfl] at H; exact H
                        clear H
                        have H := H1
                        clear H1
                        by_cases c110 : 0 ≤ a1
                        · rw [if_pos c110] at H
                          have c110b0 := eq_true c110
                          have c110b1 : decide (0 ≤ a1) = true := decide_eq_true c110
                          clear c110
                          by_cases c111 : a1 ≤ (wrap64 (a1 + 1))
                          · rw [if_pos c111] at H
                            have c111b0 := eq_true c111
                            have c111b1 : decide (a1 ≤ (wrap64 (a1 + 1))) = true := decide_eq_true c111
                            by_cases c112 : (wrap64 (a1 + 1)) ≤ (a0.size : Int)
                            · rw [if_pos c112] at H
                              have c112b0 := eq_true c112
                              have c112b1 : decide ((wrap64 (a1 + 1)) ≤ (a0.size : Int)) = true := decide_eq_true c112
                              simp only [Option.some.injEq, Prod.mk.injEq] at H
                              obtain ⟨rfl, rfl, rfl, rfl, rfl⟩ := H
                              go_wp2_with (first | ((with_reducible refine gate_dst (N := 174) rfl ?_); (try (refine gate_guard (by rfl) ?_; dsimp only)); refine Kd.R_lit Kd.string _ 9 ?hg (N := 174) ?hd (xs := ([(⟨#[40]⟩ : ByteArray), (⟨#[41]⟩ : ByteArray), (⟨#[44]⟩ : ByteArray), (⟨#[59]⟩ : ByteArray), (⟨#[58]⟩ : ByteArray), (⟨#[46]⟩ : ByteArray), (⟨#[61]⟩ : ByteArray), (⟨#[126]⟩ : ByteArray)] : List ByteArray)) (inner := [.string (⟨#[40]⟩ : ByteArray), .string (⟨#[41]⟩ : ByteArray), .string (⟨#[44]⟩ : ByteArray), .string (⟨#[59]⟩ : ByteArray), .string (⟨#[58]⟩ : ByteArray), .string (⟨#[46]⟩ : ByteArray), .string (⟨#[61]⟩ : ByteArray), .string (⟨#[126]⟩ : ByteArray)]) (ok := fun _ => True) (okp := fun _ => True) ?hr ?hp (fun _ hk => hk) trivial (Below.refl _ _) (Nat.le_refl _) (by simp) ?_; (case hd => rfl); (case hg => rfl); (case hr => first | (go_simp; done) | (go_simp; rfl)); (case hp => exact (Reps.one (show Kd.M Kd.string _ _ _ (⟨#[40]⟩ : ByteArray) [.string (⟨#[40]⟩ : ByteArray)] from rfl) (Reps.one (show Kd.M Kd.string _ _ _ (⟨#[41]⟩ : ByteArray) [.string (⟨#[41]⟩ : ByteArray)] from rfl) (Reps.one (show Kd.M Kd.string _ _ _ (⟨#[44]⟩ : ByteArray) [.string (⟨#[44]⟩ : ByteArray)] from rfl) (Reps.one (show Kd.M Kd.string _ _ _ (⟨#[59]⟩ : ByteArray) [.string (⟨#[59]⟩ : ByteArray)] from rfl) (Reps.one (show Kd.M Kd.string _ _ _ (⟨#[58]⟩ : ByteArray) [.string (⟨#[58]⟩ : ByteArray)] from rfl) (Reps.one (show Kd.M Kd.string _ _ _ (⟨#[46]⟩ : ByteArray) [.string (⟨#[46]⟩ : ByteArray)] from rfl) (Reps.one (show Kd.M Kd.string _ _ _ (⟨#[61]⟩ : ByteArray) [.string (⟨#[61]⟩ : ByteArray)] from rfl) (Reps.one (show Kd.M Kd.string _ _ _ (⟨#[126]⟩ : ByteArray) [.string (⟨#[126]⟩ : ByteArray)] from rfl) (Reps.none _ _)))))))))); intro v149 w113 ho114 hb hg_ hnew_; clear hg_ hnew_; (first | rw [← Ny148.out] at ho114 | (simp only [Int.reduceToNat] at ho114; rw [← Ny148.out] at ho114)); have n0_ := Aside0.mk (Kd.R_lower ho114 (below_size (by repeat (first | (with_reducible first | exact HB.out | apply below_alloc | apply pw_below_drewN | apply below_drew1 | refine below_set ?_ GE139.out) | exact HB.out)))); have n1_ := Aside0.mk (blk_below (g := gb139) (o := .cells #[.int .i64 0, .int .i64 0, .string (⟨#[]⟩ : ByteArray)] 31 (0, 0)) (by (with_reducible repeat (first | refine blk_drewN ?_ _ | refine blk_drew ?_ | refine blk_alloc ?_ _)); exact BK139.out) hb); have n2_ := Aside0.mk (below_step (by repeat (first | (with_reducible first | exact HB.out | apply below_alloc | apply pw_below_drewN | apply below_drew1 | refine below_set ?_ GE139.out) | exact HB.out)) hb); clear BK139; clear HB; have HO150 := n0_; have BK139 := n1_; have HB := n2_; clear n0_ n1_ n2_; clear hb ho114) | ((with_reducible refine gate_dst (N := 176) rfl ?_); (try (refine gate_guard (by rfl) ?_; dsimp only)); refine Kd.R_lit (Kd.int .u8) _ 5 ?hg (N := 176) ?hd (xs := ([(bt a0 a1)] : List Int)) (inner := [.int .u8 (bt a0 a1)]) (ok := fun _ => True) (okp := fun _ => True) ?hr ?hp (fun _ hk => hk) trivial (Below.refl _ _) (Nat.le_refl _) (by simp) ?_; (case hd => rfl); (case hg => rfl); (case hr => first | (go_simp; done) | (go_simp; rfl)); (case hp => exact (Reps.one (show Kd.M (Kd.int .u8) _ _ _ (bt a0 a1) [.int .u8 (bt a0 a1)] from rfl) (Reps.none _ _))); intro v152 w115 ho116 hb hg_ hnew_; clear hg_ hnew_; (first | rw [← Ny151.out] at ho116 | (simp only [Int.reduceToNat] at ho116; rw [← Ny151.out] at ho116)); have n0_ := Aside0.mk (Kd.R_below (by (with_reducible repeat (first | apply Kd.R_alloc | apply Kd.R_drewN | apply Kd.R_drew)); exact HO150.out) hb); have n1_ := Aside0.mk (Kd.R_lower ho116 (below_size (by repeat (first | (with_reducible first | exact HB.out | apply below_alloc | apply pw_below_drewN | apply below_drew1 | refine below_set ?_ GE139.out) | exact HB.out)))); have n2_ := Aside0.mk (blk_below (g := gb139) (o := .cells #[.int .i64 0, .int .i64 0, .string (⟨#[]⟩ : ByteArray)] 31 (0, 0)) (by (with_reducible repeat (first | refine blk_drewN ?_ _ | refine blk_drew ?_ | refine blk_alloc ?_ _)); exact BK139.out) hb); have n3_ := Aside0.mk (below_step (by repeat (first | (with_reducible first | exact HB.out | apply below_alloc | apply pw_below_drewN | apply below_drew1 | refine below_set ?_ GE139.out) | exact HB.out)) hb); clear HO150; clear BK139; clear HB; have HO150 := n0_; have HO153 := n1_; have BK139 := n2_; have HB := n3_; clear n0_ n1_ n2_ n3_; clear hb ho116; have hcv117 := own_string (P := Tryd.prog) Tryd.underlying29 Tryd.underlying5 Tryd.underlying9 (Kd.own_of_R HO153.out); obtain ⟨Ao118, co118, eo118⟩ := Kd.R_slice HO150.out; subst eo118) | ((with_reducible refine gate_callee (f := 42) rfl ?_); refine goesL_ (some 178) rfl rfl Tryd.func42 (by kernel_rfl) rfl #[.slice Ao118 y148.length co118, .string (strOfNums y151)] rfl (by (try simp only [List.map_toArray, List.map_cons, List.map_nil]); first | done | rfl | (simp only [List.length_drop, List.length_take]; rfl)) ?_; (with_reducible refine (supercargoref27_in.calls kj91 _ _ y148 (strOfNums y151) true _ ?side1 ?side2 A108.out).mono ?_); (case side1 => repeat (first | exact (Kd.R_reads' HO150.out).2.2 | (with_reducible refine Kd.C_alloc ?_ _) | (with_reducible refine Kd.C_drewN ?_ _) | (with_reducible refine Kd.C_drew ?_))); (case side2 => exact (Kd.R_reads' HO150.out).2.1); rintro e w' ⟨rfl, ⟨nd, rfl⟩⟩; refine ⟨_, rfl, ?_⟩; (try (rw [drewN_self w115]; generalize hq_ : World.drewN w115 _ = w115; have n0_ : Aside0 (Kd.R Kd.string 9 w115 w.heap.size (fun _ => True) (.slice Ao118 y148.length co118) y148) := ⟨by rw [← hq_]; exact (by (with_reducible repeat (first | apply Kd.R_alloc | apply Kd.R_drewN | apply Kd.R_drew)); exact HO150.out)⟩; have n1_ : Aside0 (Kd.R (Kd.int .u8) 5 w115 w.heap.size (fun _ => True) v152 y151) := ⟨by rw [← hq_]; exact (by (with_reducible repeat (first | apply Kd.R_alloc | apply Kd.R_drewN | apply Kd.R_drew)); exact HO153.out)⟩; have n2_ : Aside0 (w115.heap[gb139]? = some (.cells #[.int .i64 0, .int .i64 0, .string (⟨#[]⟩ : ByteArray)] 31 (0, 0))) := ⟨by rw [← hq_]; exact (by (with_reducible repeat (first | refine blk_drewN ?_ _ | refine blk_drew ?_ | refine blk_alloc ?_ _)); exact BK139.out)⟩; have n3_ : Aside0 (Below w.heap.size w w115) := ⟨by rw [← hq_]; exact (by repeat (first | (with_reducible first | exact HB.out | apply below_alloc | apply pw_below_drewN | apply below_drew1 | refine below_set ?_ GE139.out) | exact HB.out))⟩; clear HO150 HO153 BK139 HB hq_; have HO150 := n0_; have HO153 := n1_; have BK139 := n2_; have HB := n3_; clear n0_ n1_ n2_ n3_)); have hcz119_0 : w115.cell? ⟨gb139, 0, none⟩ = some (.int .i64 0) := (blk_cell BK139.out 0).trans rfl; have hcz119_1 : w115.cell? ⟨gb139, 1, none⟩ = some (.int .i64 0) := (blk_cell BK139.out 1).trans rfl; have hcz119_2 : w115.cell? ⟨gb139, 2, none⟩ = some (.string (⟨#[]⟩ : ByteArray)) := (blk_cell BK139.out 2).trans rfl; have hfz119_0 := blk_frozen BK139.out 0; have hfz119_1 := blk_frozen BK139.out 1; have hfz119_2 := blk_frozen BK139.out 2))
                              refine bodyPost_ret (results_ctt rfl _ _ gb139 31 #[.int .i64 5, .int .i64 a1, .string (a0.extract (a1 : Int).toNat ((wrap64 (a1 + 1)) : Int).toNat)] (0, 0) _ rfl (by (with_reducible repeat (first | refine blk_drewN ?_ _ | refine blk_drew ?_ | refine blk_alloc ?_ _)); refine blk_put (cs := #[.int .i64 5, .int .i64 a1, .string (⟨#[]⟩ : ByteArray)]) ?_ 2 _ rfl; (with_reducible repeat (first | refine blk_drewN ?_ _ | refine blk_drew ?_ | refine blk_alloc ?_ _)); refine blk_put (cs := #[.int .i64 5, .int .i64 0, .string (⟨#[]⟩ : ByteArray)]) ?_ 1 _ rfl; (with_reducible repeat (first | refine blk_drewN ?_ _ | refine blk_drew ?_ | refine blk_alloc ?_ _)); refine blk_put (cs := #[.int .i64 0, .int .i64 0, .string (⟨#[]⟩ : ByteArray)]) ?_ 0 _ rfl; (with_reducible repeat (first | refine blk_drewN ?_ _ | refine blk_drew ?_ | refine blk_alloc ?_ _)); exact BK139.out) Tryd.underlying31 rfl (by kernel_rfl)) rfl ?_
                              exact ⟨by first | rfl | (simp [errW_none, errW_some] <;> rfl) | (simp [*, errW_none, errW_some] <;> rfl), by repeat (first | (with_reducible first | exact HB.out | apply below_alloc | apply pw_below_drewN | apply below_drew1 | refine below_set ?_ GE139.out) | exact HB.out)⟩
                            · rw [if_neg c112] at H
                              exact absurd H (by simp)
                          · rw [if_neg c111] at H
                            exact absurd H (by simp)
                        · rw [if_neg c110] at H
                          exact absurd H (by simp)
                      · replace c109 := Bool.eq_false_iff.mpr c109
                        subst c109
                        have H1 : (some (0, 0, (⟨#[]⟩ : ByteArray), a1, 2)) = some (r1, r2, r3, r4, r5) := by rw [if_neg (show ¬ (false = true) by decide)] at H; exact H
                        clear H
                        have H := H1
                        clear H1
                        simp only [Option.some.injEq, Prod.mk.injEq] at H
                        obtain ⟨rfl, rfl, rfl, rfl, rfl⟩ := H
                        go_wp2_with (first | ((with_reducible refine gate_dst (N := 174) rfl ?_); (try (refine gate_guard (by rfl) ?_; dsimp only)); refine Kd.R_lit Kd.string _ 9 ?hg (N := 174) ?hd (xs := ([(⟨#[40]⟩ : ByteArray), (⟨#[41]⟩ : ByteArray), (⟨#[44]⟩ : ByteArray), (⟨#[59]⟩ : ByteArray), (⟨#[58]⟩ : ByteArray), (⟨#[46]⟩ : ByteArray), (⟨#[61]⟩ : ByteArray), (⟨#[126]⟩ : ByteArray)] : List ByteArray)) (inner := [.string (⟨#[40]⟩ : ByteArray), .string (⟨#[41]⟩ : ByteArray), .string (⟨#[44]⟩ : ByteArray), .string (⟨#[59]⟩ : ByteArray), .string (⟨#[58]⟩ : ByteArray), .string (⟨#[46]⟩ : ByteArray), .string (⟨#[61]⟩ : ByteArray), .string (⟨#[126]⟩ : ByteArray)]) (ok := fun _ => True) (okp := fun _ => True) ?hr ?hp (fun _ hk => hk) trivial (Below.refl _ _) (Nat.le_refl _) (by simp) ?_; (case hd => rfl); (case hg => rfl); (case hr => first | (go_simp; done) | (go_simp; rfl)); (case hp => exact (Reps.one (show Kd.M Kd.string _ _ _ (⟨#[40]⟩ : ByteArray) [.string (⟨#[40]⟩ : ByteArray)] from rfl) (Reps.one (show Kd.M Kd.string _ _ _ (⟨#[41]⟩ : ByteArray) [.string (⟨#[41]⟩ : ByteArray)] from rfl) (Reps.one (show Kd.M Kd.string _ _ _ (⟨#[44]⟩ : ByteArray) [.string (⟨#[44]⟩ : ByteArray)] from rfl) (Reps.one (show Kd.M Kd.string _ _ _ (⟨#[59]⟩ : ByteArray) [.string (⟨#[59]⟩ : ByteArray)] from rfl) (Reps.one (show Kd.M Kd.string _ _ _ (⟨#[58]⟩ : ByteArray) [.string (⟨#[58]⟩ : ByteArray)] from rfl) (Reps.one (show Kd.M Kd.string _ _ _ (⟨#[46]⟩ : ByteArray) [.string (⟨#[46]⟩ : ByteArray)] from rfl) (Reps.one (show Kd.M Kd.string _ _ _ (⟨#[61]⟩ : ByteArray) [.string (⟨#[61]⟩ : ByteArray)] from rfl) (Reps.one (show Kd.M Kd.string _ _ _ (⟨#[126]⟩ : ByteArray) [.string (⟨#[126]⟩ : ByteArray)] from rfl) (Reps.none _ _)))))))))); intro v149 w120 ho121 hb hg_ hnew_; clear hg_ hnew_; (first | rw [← Ny148.out] at ho121 | (simp only [Int.reduceToNat] at ho121; rw [← Ny148.out] at ho121)); have n0_ := Aside0.mk (Kd.R_lower ho121 (below_size (by repeat (first | (with_reducible first | exact HB.out | apply below_alloc | apply pw_below_drewN | apply below_drew1 | refine below_set ?_ GE139.out) | exact HB.out)))); have n1_ := Aside0.mk (blk_below (g := gb139) (o := .cells #[.int .i64 0, .int .i64 0, .string (⟨#[]⟩ : ByteArray)] 31 (0, 0)) (by (with_reducible repeat (first | refine blk_drewN ?_ _ | refine blk_drew ?_ | refine blk_alloc ?_ _)); exact BK139.out) hb); have n2_ := Aside0.mk (below_step (by repeat (first | (with_reducible first | exact HB.out | apply below_alloc | apply pw_below_drewN | apply below_drew1 | refine below_set ?_ GE139.out) | exact HB.out)) hb); clear BK139; clear HB; have HO150 := n0_; have BK139 := n1_; have HB := n2_; clear n0_ n1_ n2_; clear hb ho121) | ((with_reducible refine gate_dst (N := 176) rfl ?_); (try (refine gate_guard (by rfl) ?_; dsimp only)); refine Kd.R_lit (Kd.int .u8) _ 5 ?hg (N := 176) ?hd (xs := ([(bt a0 a1)] : List Int)) (inner := [.int .u8 (bt a0 a1)]) (ok := fun _ => True) (okp := fun _ => True) ?hr ?hp (fun _ hk => hk) trivial (Below.refl _ _) (Nat.le_refl _) (by simp) ?_; (case hd => rfl); (case hg => rfl); (case hr => first | (go_simp; done) | (go_simp; rfl)); (case hp => exact (Reps.one (show Kd.M (Kd.int .u8) _ _ _ (bt a0 a1) [.int .u8 (bt a0 a1)] from rfl) (Reps.none _ _))); intro v152 w122 ho123 hb hg_ hnew_; clear hg_ hnew_; (first | rw [← Ny151.out] at ho123 | (simp only [Int.reduceToNat] at ho123; rw [← Ny151.out] at ho123)); have n0_ := Aside0.mk (Kd.R_below (by (with_reducible repeat (first | apply Kd.R_alloc | apply Kd.R_drewN | apply Kd.R_drew)); exact HO150.out) hb); have n1_ := Aside0.mk (Kd.R_lower ho123 (below_size (by repeat (first | (with_reducible first | exact HB.out | apply below_alloc | apply pw_below_drewN | apply below_drew1 | refine below_set ?_ GE139.out) | exact HB.out)))); have n2_ := Aside0.mk (blk_below (g := gb139) (o := .cells #[.int .i64 0, .int .i64 0, .string (⟨#[]⟩ : ByteArray)] 31 (0, 0)) (by (with_reducible repeat (first | refine blk_drewN ?_ _ | refine blk_drew ?_ | refine blk_alloc ?_ _)); exact BK139.out) hb); have n3_ := Aside0.mk (below_step (by repeat (first | (with_reducible first | exact HB.out | apply below_alloc | apply pw_below_drewN | apply below_drew1 | refine below_set ?_ GE139.out) | exact HB.out)) hb); clear HO150; clear BK139; clear HB; have HO150 := n0_; have HO153 := n1_; have BK139 := n2_; have HB := n3_; clear n0_ n1_ n2_ n3_; clear hb ho123; have hcv124 := own_string (P := Tryd.prog) Tryd.underlying29 Tryd.underlying5 Tryd.underlying9 (Kd.own_of_R HO153.out); obtain ⟨Ao125, co125, eo125⟩ := Kd.R_slice HO150.out; subst eo125) | ((with_reducible refine gate_callee (f := 42) rfl ?_); refine goesL_ (some 178) rfl rfl Tryd.func42 (by kernel_rfl) rfl #[.slice Ao125 y148.length co125, .string (strOfNums y151)] rfl (by (try simp only [List.map_toArray, List.map_cons, List.map_nil]); first | done | rfl | (simp only [List.length_drop, List.length_take]; rfl)) ?_; (with_reducible refine (supercargoref27_in.calls kj91 _ _ y148 (strOfNums y151) false _ ?side1 ?side2 A108.out).mono ?_); (case side1 => repeat (first | exact (Kd.R_reads' HO150.out).2.2 | (with_reducible refine Kd.C_alloc ?_ _) | (with_reducible refine Kd.C_drewN ?_ _) | (with_reducible refine Kd.C_drew ?_))); (case side2 => exact (Kd.R_reads' HO150.out).2.1); rintro e w' ⟨rfl, ⟨nd, rfl⟩⟩; refine ⟨_, rfl, ?_⟩; (try (rw [drewN_self w122]; generalize hq_ : World.drewN w122 _ = w122; have n0_ : Aside0 (Kd.R Kd.string 9 w122 w.heap.size (fun _ => True) (.slice Ao125 y148.length co125) y148) := ⟨by rw [← hq_]; exact (by (with_reducible repeat (first | apply Kd.R_alloc | apply Kd.R_drewN | apply Kd.R_drew)); exact HO150.out)⟩; have n1_ : Aside0 (Kd.R (Kd.int .u8) 5 w122 w.heap.size (fun _ => True) v152 y151) := ⟨by rw [← hq_]; exact (by (with_reducible repeat (first | apply Kd.R_alloc | apply Kd.R_drewN | apply Kd.R_drew)); exact HO153.out)⟩; have n2_ : Aside0 (w122.heap[gb139]? = some (.cells #[.int .i64 0, .int .i64 0, .string (⟨#[]⟩ : ByteArray)] 31 (0, 0))) := ⟨by rw [← hq_]; exact (by (with_reducible repeat (first | refine blk_drewN ?_ _ | refine blk_drew ?_ | refine blk_alloc ?_ _)); exact BK139.out)⟩; have n3_ : Aside0 (Below w.heap.size w w122) := ⟨by rw [← hq_]; exact (by repeat (first | (with_reducible first | exact HB.out | apply below_alloc | apply pw_below_drewN | apply below_drew1 | refine below_set ?_ GE139.out) | exact HB.out))⟩; clear HO150 HO153 BK139 HB hq_; have HO150 := n0_; have HO153 := n1_; have BK139 := n2_; have HB := n3_; clear n0_ n1_ n2_ n3_)); have hcz126_0 : w122.cell? ⟨gb139, 0, none⟩ = some (.int .i64 0) := (blk_cell BK139.out 0).trans rfl; have hcz126_1 : w122.cell? ⟨gb139, 1, none⟩ = some (.int .i64 0) := (blk_cell BK139.out 1).trans rfl; have hcz126_2 : w122.cell? ⟨gb139, 2, none⟩ = some (.string (⟨#[]⟩ : ByteArray)) := (blk_cell BK139.out 2).trans rfl; have hfz126_0 := blk_frozen BK139.out 0; have hfz126_1 := blk_frozen BK139.out 1; have hfz126_2 := blk_frozen BK139.out 2))
                        refine bodyPost_ret (results_ctt rfl _ _ gb139 31 #[.int .i64 0, .int .i64 0, .string (⟨#[]⟩ : ByteArray)] (0, 0) _ rfl (by (with_reducible repeat (first | refine blk_drewN ?_ _ | refine blk_drew ?_ | refine blk_alloc ?_ _)); refine blk_put (cs := #[.int .i64 0, .int .i64 0, .string (⟨#[]⟩ : ByteArray)]) ?_ 2 _ rfl; (with_reducible repeat (first | refine blk_drewN ?_ _ | refine blk_drew ?_ | refine blk_alloc ?_ _)); refine blk_put (cs := #[.int .i64 0, .int .i64 0, .string (⟨#[]⟩ : ByteArray)]) ?_ 1 _ rfl; (with_reducible repeat (first | refine blk_drewN ?_ _ | refine blk_drew ?_ | refine blk_alloc ?_ _)); refine blk_put (cs := #[.int .i64 0, .int .i64 0, .string (⟨#[]⟩ : ByteArray)]) ?_ 0 _ rfl; (with_reducible repeat (first | refine blk_drewN ?_ _ | refine blk_drew ?_ | refine blk_alloc ?_ _)); exact BK139.out) Tryd.underlying31 rfl (by kernel_rfl)) rfl ?_
                        exact ⟨by first | rfl | (simp [errW_none, errW_some] <;> rfl) | (simp [*, errW_none, errW_some] <;> rfl), by repeat (first | (with_reducible first | exact HB.out | apply below_alloc | apply pw_below_drewN | apply below_drew1 | refine below_set ?_ GE139.out) | exact HB.out)⟩
    · rw [if_neg c4] at H
      exact absurd H (by simp)
  · rw [if_neg c3] at H
    exact absurd H (by simp)

end Go.Proofs.YtamgmceogjgijaaDoor.G
