-- Printed by a program of this session's (wip/lab) after the kit's print: Lean checks it.
import Derived.Test.YtkjcblbpeoijhaaDoorGx0
import Derived.Test.YtkjcblbpeoijhaaDoorGx1
import Derived.Test.YtkjcblbpeoijhaaDoorH21
import Derived.Test.YtkjcblbpeoijhaaDoorExtB
namespace Go.Proofs.YtkjcblbpeoijhaaDoor.G
open Go.Proofs.YtkjcblbpeoijhaaDoor.Ext
open Go.RowKit Go.Proofs.YtkjcblbpeoijhaaDoorW.PrintWords Go.Proofs.YtkjcblbpeoijhaaDoorW.PrintLast Go.Proofs.YtkjcblbpeoijhaaDoorW.PrintMore
attribute [local go_sem] max2_int min2_int max_two min_two max_three min_three max_four min_four   -- for this text's walks alone
set_option linter.unusedVariables false
set_option linter.unusedSimpArgs false

/-! ### supercargoref42_Doc: function 12 -/
def supercargoref42_Doc.l0 : Nat → ByteArray → ByteArray → Int → ByteArray → ByteArray → ByteArray → Int → Int → List Int → Int → Int → Int → Option (Int × ByteArray × ByteArray × (List (S47)))
  | 0, _, _, _, _, _, _, _, _, _, _, _, _ => none
  | k + 1, x1, x5, x6, x174000, x174001, x174002, x174003, x174004, x174005, x174006, x174007, x174008 => if x6 < (x174005.length : Int) then (if x6 > 0 then (if x5.size + 1 ≤ 9223372036854775807 then (if 0 ≤ x6 then ((supercargoref42_digits.f k (rd x174005 x6)).bind fun t176 => (if (x5 ++ (⟨#[44]⟩ : ByteArray)).size + t176.size ≤ 9223372036854775807 then (supercargoref42_Doc.l0 k x1 ((x5 ++ (⟨#[44]⟩ : ByteArray)) ++ t176) (wrap64 (x6 + 1)) x174000 x174001 x174002 x174003 x174004 x174005 x174006 x174007 x174008) else (none))) else (none)) else (none)) else (if 0 ≤ x6 then ((supercargoref42_digits.f k (rd x174005 x6)).bind fun t178 => (if x5.size + t178.size ≤ 9223372036854775807 then (supercargoref42_Doc.l0 k x1 (x5 ++ t178) (wrap64 (x6 + 1)) x174000 x174001 x174002 x174003 x174004 x174005 x174006 x174007 x174008) else (none))) else (none))) else ((supercargoref42_digits.f k x174003).bind fun t179 => ((supercargoref42_digits.f k x174004).bind fun t180 => ((supercargoref42_digits.f k x174008).bind fun t181 => ((supercargoref42_digits.f k x174006).bind fun t182 => ((supercargoref42_digits.f k x174007).bind fun t183 => (some (3, x1, x174000, (([(⟨(⟨#[102, 114, 111, 109]⟩ : ByteArray), x174001⟩ : S47), (⟨(⟨#[116, 111]⟩ : ByteArray), x174002⟩ : S47), (⟨(⟨#[115, 117, 109]⟩ : ByteArray), t179⟩ : S47), (⟨(⟨#[111, 119, 110]⟩ : ByteArray), t180⟩ : S47), (⟨(⟨#[115, 104, 97, 114, 101]⟩ : ByteArray), t181⟩ : S47), (⟨(⟨#[102, 105, 114, 115, 116]⟩ : ByteArray), t182⟩ : S47), (⟨(⟨#[108, 97, 115, 116]⟩ : ByteArray), t183⟩ : S47), (⟨(⟨#[99, 97, 117, 115, 101, 115]⟩ : ByteArray), x5⟩ : S47)] : List (S47))))))))))
def supercargoref42_Doc.f (k : Nat) (a0_0 : ByteArray) (a0_1 : ByteArray) (a0_2 : ByteArray) (a0_3 : Int) (a0_4 : Int) (l0_5 : List Int) (a0_6 : Int) (a0_7 : Int) (a0_8 : Int) (a1 : ByteArray) : Option (Int × ByteArray × ByteArray × (List (S47))) := supercargoref42_Doc.l0 k a1 (⟨#[]⟩ : ByteArray) 0 a0_0 a0_1 a0_2 a0_3 a0_4 l0_5 a0_6 a0_7 a0_8
def supercargoref42_Doc.T8 : Bool × List (List Nat × List Nat) := (true, [([], []), ([], []), ([1], [1]), ([], []), ([3], [3]), ([4], [4]), ([], []), ([6], [6]), ([7], [7]), ([], []), ([9], [9]), ([10], [10]), ([11], [11]), ([], []), ([13], [13]), ([14, 11], [14]), ([15], [15]), ([], []), ([17], [17]), ([18, 15], [18]), ([19], [19]), ([], []), ([21], [21]), ([22, 19], [22]), ([23], [23]), ([], []), ([25], [25]), ([26, 23], [26]), ([27], [27]), ([], []), ([29], [29]), ([5, 8, 12, 16, 20, 24, 28, 30], [5, 8, 12, 16, 20, 24, 28, 30]), ([0, 2, 31], [0, 2, 31]), ([32, 27, 0, 1, 2, 3, 4, 5, 6, 7, 8, 9, 10, 11, 12, 13, 14, 15, 16, 17, 18, 19, 20, 21, 22, 23, 24, 25, 26, 27, 28, 29, 30, 31, 32], [32])])
def supercargoref42_Doc.B8 : List Nat := [0, 0, 2, 0, 8, 24, 0, 64, 192, 0, 512, 1536, 3584, 0, 8192, 28160, 60928, 0, 131072, 454144, 978432, 0, 2097152, 7269888, 15658496, 0, 33554432, 116321792, 250539520, 0, 536870912, 2147483640, 4294967295, 8589934591]
theorem supercargoref42_Doc.tab8 : rtab .any (opsOf Tryd.f12 8) = supercargoref42_Doc.T8 := by kernel_rfl
theorem supercargoref42_Doc.bits8 : waitsOk supercargoref42_Doc.T8.2 supercargoref42_Doc.B8 = true := by kernel_rfl
set_option maxHeartbeats 8000000 in
set_option maxRecDepth 100000 in
theorem supercargoref42_Doc.calls (k : Nat) (a0_0 : ByteArray) (a0_1 : ByteArray) (a0_2 : ByteArray) (a0_3 : Int) (a0_4 : Int) (A0_5 : Option Addr) (c0_5 : Nat) (l0_5 : List Int) (a0_6 : Int) (a0_7 : Int) (a0_8 : Int) (a1 : ByteArray) (r1 : Int) (r2 : ByteArray) (r3 : ByteArray) (r4 : List (S47)) (w : World) (hr0_5 : Kd.C (Kd.int .i64) w A0_5 l0_5.length l0_5) (hc0_5 : l0_5.length ≤ c0_5) (h : supercargoref42_Doc.f k a0_0 a0_1 a0_2 a0_3 a0_4 l0_5 a0_6 a0_7 a0_8 a1 = some (r1, r2, r3, r4)) :
    Calls Tryd.prog 12 #[.agg #[.string a0_0, .string a0_1, .string a0_2, .int .i64 a0_3, .int .i64 a0_4, .slice A0_5 l0_5.length c0_5, .int .i64 a0_6, .int .i64 a0_7, .int .i64 a0_8], .string a1] w fun e w' => ∃ v3_ : Value, e = .returned (.agg #[.int .i64 r1, .string r2, .string r3, v3_]) ∧ Kd.R k47 47 w' w.heap.size (fun _ => True) v3_ r4 ∧ Below w.heap.size w w' := by
  have hu24 := Tryd.underlying24
  have hu29 := Tryd.underlying29
  have hu47 := Tryd.underlying47
  have HR0_5 := Aside0.mk hr0_5
  have HC0_5 := Aside0.mk hc0_5
  clear hr0_5 hc0_5
  have HB := Aside0.mk (Below.refl w.heap.size w)
  have H : (supercargoref42_Doc.l0 k a1 (⟨#[]⟩ : ByteArray) 0 a0_0 a0_1 a0_2 a0_3 a0_4 l0_5 a0_6 a0_7 a0_8) = some (r1, r2, r3, r4) := h
  clear h
  have H' := Aside0.mk H
  clear H
  go_enter Tryd.func12, Tryd.ntmps12
  go_wp2_with (first | ((with_reducible refine gate_dst (N := 2) rfl ?_); refine box_event ?hg (N := 2) ?hd (cs := #[.string a0_0, .string a0_1, .string a0_2, .int .i64 a0_3, .int .i64 a0_4, .slice A0_5 l0_5.length c0_5, .int .i64 a0_6, .int .i64 a0_7, .int .i64 a0_8]) (t := 24) ?hr ?_; (case hd => rfl); (case hg => rfl); (case hr => first | (go_simp; done) | (go_simp; rfl)); intro gb173 hg w3 hbox hb; have n0_ := Aside0.mk (below_step (by repeat (first | (with_reducible first | exact HB.out | apply below_alloc | apply pw_below_drewN | apply below_drew1) | exact HB.out)) hb); have n1_ := Aside0.mk (hbox); have n2_ := Aside0.mk ((by rw [hg]; exact (below_size (by repeat (first | (with_reducible first | exact HB.out | apply below_alloc | apply pw_below_drewN | apply below_drew1) | exact HB.out))) : w.heap.size ≤ gb173)); have n3_ := Aside0.mk ((by rw [hg]; exact (below_size (by repeat (first | (with_reducible first | exact HB.out | apply below_alloc | apply pw_below_drewN | apply below_drew1) | exact HB.out))) : w.heap.size ≤ gb173)); clear HB; have HB := n0_; have BK173 := n1_; have GW173 := n2_; have GE173 := n3_; clear n0_ n1_ n2_ n3_; clear hb hbox hg) | ((with_reducible refine gate_dst (N := 4) rfl ?_); refine box_event ?hg (N := 4) ?hd (cs := #[.int .i64 0, .string (⟨#[]⟩ : ByteArray), .string (⟨#[]⟩ : ByteArray), .slice none 0 0]) (t := 29) ?hr ?_; (case hd => rfl); (case hg => rfl); (case hr => first | (go_simp; done) | (go_simp; rfl)); intro gb174 hg w4 hbox hb; have n0_ := Aside0.mk (blk_below (g := gb173) (o := .cells #[.string a0_0, .string a0_1, .string a0_2, .int .i64 a0_3, .int .i64 a0_4, .slice A0_5 l0_5.length c0_5, .int .i64 a0_6, .int .i64 a0_7, .int .i64 a0_8] 24 (0, 0)) (by (with_reducible repeat (first | refine blk_drewN ?_ _ | refine blk_drew ?_ | refine blk_alloc ?_ _)); exact BK173.out) hb); have n1_ := Aside0.mk (below_step (by repeat (first | (with_reducible first | exact HB.out | apply below_alloc | apply pw_below_drewN | apply below_drew1 | refine below_set ?_ GE173.out) | exact HB.out)) hb); have n2_ := Aside0.mk (hbox); have n3_ := Aside0.mk ((by rw [hg]; exact (below_size (by repeat (first | (with_reducible first | exact HB.out | apply below_alloc | apply pw_below_drewN | apply below_drew1 | refine below_set ?_ GE173.out) | exact HB.out))) : w.heap.size ≤ gb174)); have n4_ := Aside0.mk ((by rw [hg]; exact (below_size (by repeat (first | (with_reducible first | exact HB.out | apply below_alloc | apply pw_below_drewN | apply below_drew1 | refine below_set ?_ GE173.out) | exact HB.out))) : w.heap.size ≤ gb174)); have n5_ := Aside0.mk ((by rw [hg]; exact Nat.ne_of_lt (blk_lt (g := gb173) (o := .cells #[.string a0_0, .string a0_1, .string a0_2, .int .i64 a0_3, .int .i64 a0_4, .slice A0_5 l0_5.length c0_5, .int .i64 a0_6, .int .i64 a0_7, .int .i64 a0_8] 24 (0, 0)) (by (with_reducible repeat (first | refine blk_drewN ?_ _ | refine blk_drew ?_ | refine blk_alloc ?_ _)); exact BK173.out)) : gb173 ≠ gb174)); have n6_ := Aside0.mk ((by rw [hg]; exact Nat.ne_of_gt (blk_lt (g := gb173) (o := .cells #[.string a0_0, .string a0_1, .string a0_2, .int .i64 a0_3, .int .i64 a0_4, .slice A0_5 l0_5.length c0_5, .int .i64 a0_6, .int .i64 a0_7, .int .i64 a0_8] 24 (0, 0)) (by (with_reducible repeat (first | refine blk_drewN ?_ _ | refine blk_drew ?_ | refine blk_alloc ?_ _)); exact BK173.out)) : gb174 ≠ gb173)); clear BK173; clear HB; have BK173 := n0_; have HB := n1_; have BK174 := n2_; have GW174 := n3_; have GE174 := n4_; have NB173_174 := n5_; have NB174_173 := n6_; clear n0_ n1_ n2_ n3_ n4_ n5_ n6_; clear hb hbox hg))
  go_loopg [5, 6] k (fun kq v5 v6 w' => ∃ (x5_1 : ByteArray) (x6_1 : Int), v5 = .string x5_1 ∧ v6 = .int .i64 x6_1 ∧ Aside0 (supercargoref42_Doc.l0 kq a1 x5_1 x6_1 a0_0 a0_1 a0_2 a0_3 a0_4 l0_5 a0_6 a0_7 a0_8 = some (r1, r2, r3, r4)) ∧ Aside0 (kq ≤ k) ∧ Aside0 (w'.heap[gb173]? = some (.cells #[.string a0_0, .string a0_1, .string a0_2, .int .i64 a0_3, .int .i64 a0_4, (.slice A0_5 l0_5.length c0_5), .int .i64 a0_6, .int .i64 a0_7, .int .i64 a0_8] 24 (0, 0))) ∧ Aside0 (w'.heap[gb174]? = some (.cells #[.int .i64 0, .string (⟨#[]⟩ : ByteArray), .string (⟨#[]⟩ : ByteArray), (.slice none 0 0)] 29 (0, 0))) ∧ Aside0 (Below w.heap.size w w'))
  case atStart => exact ⟨((⟨#[]⟩ : ByteArray)), (0), (by first | rfl | (simp; done) | (simp [*]; done)), (by first | rfl | (simp; done) | (simp [*]; done)), H', ⟨Nat.le_refl _⟩, ⟨by (with_reducible repeat (first | refine blk_drewN ?_ _ | refine blk_drew ?_ | refine blk_alloc ?_ _)); exact BK173.out⟩, ⟨by (with_reducible repeat (first | refine blk_drewN ?_ _ | refine blk_drew ?_ | refine blk_alloc ?_ _)); exact BK174.out⟩, ⟨by repeat (first | (with_reducible first | exact HB.out | apply below_alloc | apply pw_below_drewN | apply below_drew1 | refine below_set ?_ GE173.out | refine below_set ?_ GE174.out) | exact HB.out)⟩⟩
  case round =>
    clear H'
    try clear c1
    try clear p2
    obtain ⟨x5_1, x6_1, rfl, rfl, HA, HK1, BK173, BK174, HB⟩ := hrel
    cases gk with
    | zero => exact absurd HA.out (by simp [supercargoref42_Doc.l0])
    | succ k1 =>
      have H := HA.out
      clear HA
      simp only [supercargoref42_Doc.l0] at H
      by_cases c5 : x6_1 < (l0_5.length : Int)
      · rw [if_pos c5] at H
        have c5b0 : decide (x6_1 < (l0_5.length : Int)) = true := decide_eq_true c5
        clear c5
        by_cases c6 : x6_1 > 0
        · rw [if_pos c6] at H
          have c6b0 : decide (0 < x6_1) = true := decide_eq_true c6
          clear c6
          by_cases c7 : x5_1.size + 1 ≤ 9223372036854775807
          · rw [if_pos c7] at H
            have c7b0 := eq_true c7
            have c7b1 : decide (x5_1.size + 1 ≤ 9223372036854775807) = true := decide_eq_true c7
            try have c7b2 : (9223372036854775807 < x5_1.size + 1) = False := eq_false (Nat.not_lt.2 c7)
            by_cases c8 : 0 ≤ x6_1
            · rw [if_pos c8] at H
              have c8b0 : decide (0 ≤ x6_1) = true := decide_eq_true c8
              clear c8
              replace H := Option.bind_eq_some_iff.mp H
              obtain ⟨t176, A90, H⟩ := H
              replace H : (if (x5_1 ++ (⟨#[44]⟩ : ByteArray)).size + t176.size ≤ 9223372036854775807 then (supercargoref42_Doc.l0 k1 a1 ((x5_1 ++ (⟨#[44]⟩ : ByteArray)) ++ t176) (wrap64 (x6_1 + 1)) a0_0 a0_1 a0_2 a0_3 a0_4 l0_5 a0_6 a0_7 a0_8) else (none)) = some (r1, r2, r3, r4) := H
              have A9 := Aside0.mk A90
              clear A90
              by_cases c10 : (x5_1 ++ (⟨#[44]⟩ : ByteArray)).size + t176.size ≤ 9223372036854775807
              · rw [if_pos c10] at H
                have c10b0 := eq_true c10
                have c10b1 : decide ((x5_1 ++ (⟨#[44]⟩ : ByteArray)).size + t176.size ≤ 9223372036854775807) = true := decide_eq_true c10
                try have c10b2 : (9223372036854775807 < (x5_1 ++ (⟨#[44]⟩ : ByteArray)).size + t176.size) = False := eq_false (Nat.not_lt.2 c10)
                try have c10b3 : (9223372036854775807 < (x5_1).size + 1 + t176.size) = False := eq_false (Nat.not_lt.2 (by have h_ := c10; rw [ByteArray.size_append] at h_; exact h_))
                have H' := Aside0.mk H
                clear H
                have hnb11 := NB173_174.out
                have hnc11 := NB174_173.out
                have hcz12_0 : wr.cell? ⟨gb173, 0, none⟩ = some (.string a0_0) := (blk_cell BK173.out 0).trans rfl
                have hcz12_1 : wr.cell? ⟨gb173, 1, none⟩ = some (.string a0_1) := (blk_cell BK173.out 1).trans rfl
                have hcz12_2 : wr.cell? ⟨gb173, 2, none⟩ = some (.string a0_2) := (blk_cell BK173.out 2).trans rfl
                have hcz12_3 : wr.cell? ⟨gb173, 3, none⟩ = some (.int .i64 a0_3) := (blk_cell BK173.out 3).trans rfl
                have hcz12_4 : wr.cell? ⟨gb173, 4, none⟩ = some (.int .i64 a0_4) := (blk_cell BK173.out 4).trans rfl
                have hcz12_5 : wr.cell? ⟨gb173, 5, none⟩ = some (.slice A0_5 l0_5.length c0_5) := (blk_cell BK173.out 5).trans rfl
                have hcz12_6 : wr.cell? ⟨gb173, 6, none⟩ = some (.int .i64 a0_6) := (blk_cell BK173.out 6).trans rfl
                have hcz12_7 : wr.cell? ⟨gb173, 7, none⟩ = some (.int .i64 a0_7) := (blk_cell BK173.out 7).trans rfl
                have hcz12_8 : wr.cell? ⟨gb173, 8, none⟩ = some (.int .i64 a0_8) := (blk_cell BK173.out 8).trans rfl
                have hfz12_0 := blk_frozen BK173.out 0
                have hfz12_1 := blk_frozen BK173.out 1
                have hfz12_2 := blk_frozen BK173.out 2
                have hfz12_3 := blk_frozen BK173.out 3
                have hfz12_4 := blk_frozen BK173.out 4
                have hfz12_5 := blk_frozen BK173.out 5
                have hfz12_6 := blk_frozen BK173.out 6
                have hfz12_7 := blk_frozen BK173.out 7
                have hfz12_8 := blk_frozen BK173.out 8
                have p175 : 0 ≤ (x6_1 : Int) := of_decide_eq_true (by first | (with_reducible assumption) | assumption)
                have q175 : x6_1 < (l0_5.length : Int) := of_decide_eq_true (by first | (with_reducible assumption) | assumption)
                obtain ⟨ad175, e175, hx175_0⟩ := Kd.at_int HR0_5.out x6_1 p175 q175
                cases e175
                replace hx175_0 := (HB.out.cell (World.block_lt_of_cell? w _ hx175_0)).trans hx175_0
                replace p175 := eq_true p175
                replace q175 := eq_true q175
                go_wp2_with (first | ((with_reducible refine gate_callee (f := 21) rfl ?_); refine goesL_ (some 24) rfl rfl Tryd.func21 (by kernel_rfl) rfl #[.int .i64 (rd l0_5 x6_1)] rfl (by (try simp only [List.map_toArray, List.map_cons, List.map_nil]); first | done | rfl | (simp only [List.length_drop, List.length_take]; rfl)) ?_; (with_reducible refine (supercargoref42_digits.calls k1 (rd l0_5 x6_1) t176 _ A9.out).mono ?_); rintro e w13 ⟨rfl, hb⟩; refine ⟨_, rfl, ?_⟩; have n0_ := Aside0.mk (blk_below (g := gb173) (o := .cells #[.string a0_0, .string a0_1, .string a0_2, .int .i64 a0_3, .int .i64 a0_4, .slice (some ad175) l0_5.length c0_5, .int .i64 a0_6, .int .i64 a0_7, .int .i64 a0_8] 24 (0, 0)) (by (with_reducible repeat (first | refine blk_drewN ?_ _ | refine blk_drew ?_ | refine blk_alloc ?_ _)); exact BK173.out) hb); have n1_ := Aside0.mk (blk_below (g := gb174) (o := .cells #[.int .i64 0, .string (⟨#[]⟩ : ByteArray), .string (⟨#[]⟩ : ByteArray), .slice none 0 0] 29 (0, 0)) (by (with_reducible repeat (first | refine blk_drewN ?_ _ | refine blk_drew ?_ | refine blk_alloc ?_ _)); exact BK174.out) hb); have n2_ := Aside0.mk (below_step (by repeat (first | (with_reducible first | exact HB.out | apply below_alloc | apply pw_below_drewN | apply below_drew1 | refine below_set ?_ GE173.out | refine below_set ?_ GE174.out) | exact HB.out)) hb); clear BK173; clear BK174; clear HB; have BK173 := n0_; have BK174 := n1_; have HB := n2_; clear n0_ n1_ n2_; (try clear hb); (try clear hb2); (try clear hk); (try clear hi)))
                go_roundg k1
                case measure => have := HK1.out; omega
                case rel => exact ⟨((x5_1 ++ (⟨#[44]⟩ : ByteArray)) ++ t176), (wrap64 (x6_1 + 1)), (by first | rfl | (simp; done) | (simp [*]; done)), (by first | rfl | (simp; done) | (simp [*]; done)), H', ⟨by have := HK1.out; omega⟩, ⟨by (with_reducible repeat (first | refine blk_drewN ?_ _ | refine blk_drew ?_ | refine blk_alloc ?_ _)); exact BK173.out⟩, ⟨by (with_reducible repeat (first | refine blk_drewN ?_ _ | refine blk_drew ?_ | refine blk_alloc ?_ _)); exact BK174.out⟩, ⟨by repeat (first | (with_reducible first | exact HB.out | apply below_alloc | apply pw_below_drewN | apply below_drew1 | refine below_set ?_ GE173.out | refine below_set ?_ GE174.out) | exact HB.out)⟩⟩
              · rw [if_neg c10] at H
                exact absurd H (by simp)
            · rw [if_neg c8] at H
              exact absurd H (by simp)
          · rw [if_neg c7] at H
            exact absurd H (by simp)
        · rw [if_neg c6] at H
          have c6b0 : decide (0 < x6_1) = false := decide_eq_false c6
          clear c6
          by_cases c14 : 0 ≤ x6_1
          · rw [if_pos c14] at H
            have c14b0 : decide (0 ≤ x6_1) = true := decide_eq_true c14
            clear c14
            replace H := Option.bind_eq_some_iff.mp H
            obtain ⟨t178, A150, H⟩ := H
            replace H : (if x5_1.size + t178.size ≤ 9223372036854775807 then (supercargoref42_Doc.l0 k1 a1 (x5_1 ++ t178) (wrap64 (x6_1 + 1)) a0_0 a0_1 a0_2 a0_3 a0_4 l0_5 a0_6 a0_7 a0_8) else (none)) = some (r1, r2, r3, r4) := H
            have A15 := Aside0.mk A150
            clear A150
            by_cases c16 : x5_1.size + t178.size ≤ 9223372036854775807
            · rw [if_pos c16] at H
              have c16b0 := eq_true c16
              have c16b1 : decide (x5_1.size + t178.size ≤ 9223372036854775807) = true := decide_eq_true c16
              try have c16b2 : (9223372036854775807 < x5_1.size + t178.size) = False := eq_false (Nat.not_lt.2 c16)
              have H' := Aside0.mk H
              clear H
              have hnb17 := NB173_174.out
              have hnc17 := NB174_173.out
              have hcz18_0 : wr.cell? ⟨gb173, 0, none⟩ = some (.string a0_0) := (blk_cell BK173.out 0).trans rfl
              have hcz18_1 : wr.cell? ⟨gb173, 1, none⟩ = some (.string a0_1) := (blk_cell BK173.out 1).trans rfl
              have hcz18_2 : wr.cell? ⟨gb173, 2, none⟩ = some (.string a0_2) := (blk_cell BK173.out 2).trans rfl
              have hcz18_3 : wr.cell? ⟨gb173, 3, none⟩ = some (.int .i64 a0_3) := (blk_cell BK173.out 3).trans rfl
              have hcz18_4 : wr.cell? ⟨gb173, 4, none⟩ = some (.int .i64 a0_4) := (blk_cell BK173.out 4).trans rfl
              have hcz18_5 : wr.cell? ⟨gb173, 5, none⟩ = some (.slice A0_5 l0_5.length c0_5) := (blk_cell BK173.out 5).trans rfl
              have hcz18_6 : wr.cell? ⟨gb173, 6, none⟩ = some (.int .i64 a0_6) := (blk_cell BK173.out 6).trans rfl
              have hcz18_7 : wr.cell? ⟨gb173, 7, none⟩ = some (.int .i64 a0_7) := (blk_cell BK173.out 7).trans rfl
              have hcz18_8 : wr.cell? ⟨gb173, 8, none⟩ = some (.int .i64 a0_8) := (blk_cell BK173.out 8).trans rfl
              have hfz18_0 := blk_frozen BK173.out 0
              have hfz18_1 := blk_frozen BK173.out 1
              have hfz18_2 := blk_frozen BK173.out 2
              have hfz18_3 := blk_frozen BK173.out 3
              have hfz18_4 := blk_frozen BK173.out 4
              have hfz18_5 := blk_frozen BK173.out 5
              have hfz18_6 := blk_frozen BK173.out 6
              have hfz18_7 := blk_frozen BK173.out 7
              have hfz18_8 := blk_frozen BK173.out 8
              have p177 : 0 ≤ (x6_1 : Int) := of_decide_eq_true (by first | (with_reducible assumption) | assumption)
              have q177 : x6_1 < (l0_5.length : Int) := of_decide_eq_true (by first | (with_reducible assumption) | assumption)
              obtain ⟨ad177, e177, hx177_0⟩ := Kd.at_int HR0_5.out x6_1 p177 q177
              cases e177
              replace hx177_0 := (HB.out.cell (World.block_lt_of_cell? w _ hx177_0)).trans hx177_0
              replace p177 := eq_true p177
              replace q177 := eq_true q177
              go_wp2_with (first | ((with_reducible refine gate_callee (f := 21) rfl ?_); refine goesL_ (some 24) rfl rfl Tryd.func21 (by kernel_rfl) rfl #[.int .i64 (rd l0_5 x6_1)] rfl (by (try simp only [List.map_toArray, List.map_cons, List.map_nil]); first | done | rfl | (simp only [List.length_drop, List.length_take]; rfl)) ?_; (with_reducible refine (supercargoref42_digits.calls k1 (rd l0_5 x6_1) t178 _ A15.out).mono ?_); rintro e w19 ⟨rfl, hb⟩; refine ⟨_, rfl, ?_⟩; have n0_ := Aside0.mk (blk_below (g := gb173) (o := .cells #[.string a0_0, .string a0_1, .string a0_2, .int .i64 a0_3, .int .i64 a0_4, .slice (some ad177) l0_5.length c0_5, .int .i64 a0_6, .int .i64 a0_7, .int .i64 a0_8] 24 (0, 0)) (by (with_reducible repeat (first | refine blk_drewN ?_ _ | refine blk_drew ?_ | refine blk_alloc ?_ _)); exact BK173.out) hb); have n1_ := Aside0.mk (blk_below (g := gb174) (o := .cells #[.int .i64 0, .string (⟨#[]⟩ : ByteArray), .string (⟨#[]⟩ : ByteArray), .slice none 0 0] 29 (0, 0)) (by (with_reducible repeat (first | refine blk_drewN ?_ _ | refine blk_drew ?_ | refine blk_alloc ?_ _)); exact BK174.out) hb); have n2_ := Aside0.mk (below_step (by repeat (first | (with_reducible first | exact HB.out | apply below_alloc | apply pw_below_drewN | apply below_drew1 | refine below_set ?_ GE173.out | refine below_set ?_ GE174.out) | exact HB.out)) hb); clear BK173; clear BK174; clear HB; have BK173 := n0_; have BK174 := n1_; have HB := n2_; clear n0_ n1_ n2_; (try clear hb); (try clear hb2); (try clear hk); (try clear hi)))
              go_roundg k1
              case measure => have := HK1.out; omega
              case rel => exact ⟨(x5_1 ++ t178), (wrap64 (x6_1 + 1)), (by first | rfl | (simp; done) | (simp [*]; done)), (by first | rfl | (simp; done) | (simp [*]; done)), H', ⟨by have := HK1.out; omega⟩, ⟨by (with_reducible repeat (first | refine blk_drewN ?_ _ | refine blk_drew ?_ | refine blk_alloc ?_ _)); exact BK173.out⟩, ⟨by (with_reducible repeat (first | refine blk_drewN ?_ _ | refine blk_drew ?_ | refine blk_alloc ?_ _)); exact BK174.out⟩, ⟨by repeat (first | (with_reducible first | exact HB.out | apply below_alloc | apply pw_below_drewN | apply below_drew1 | refine below_set ?_ GE173.out | refine below_set ?_ GE174.out) | exact HB.out)⟩⟩
            · rw [if_neg c16] at H
              exact absurd H (by simp)
          · rw [if_neg c14] at H
            exact absurd H (by simp)
      · rw [if_neg c5] at H
        have c5b0 : decide (x6_1 < (l0_5.length : Int)) = false := decide_eq_false c5
        clear c5
        replace H := Option.bind_eq_some_iff.mp H
        obtain ⟨t179, A200, H⟩ := H
        replace H : ((supercargoref42_digits.f k1 a0_4).bind fun t180 => ((supercargoref42_digits.f k1 a0_8).bind fun t181 => ((supercargoref42_digits.f k1 a0_6).bind fun t182 => ((supercargoref42_digits.f k1 a0_7).bind fun t183 => (some (3, a1, a0_0, (([(⟨(⟨#[102, 114, 111, 109]⟩ : ByteArray), a0_1⟩ : S47), (⟨(⟨#[116, 111]⟩ : ByteArray), a0_2⟩ : S47), (⟨(⟨#[115, 117, 109]⟩ : ByteArray), t179⟩ : S47), (⟨(⟨#[111, 119, 110]⟩ : ByteArray), t180⟩ : S47), (⟨(⟨#[115, 104, 97, 114, 101]⟩ : ByteArray), t181⟩ : S47), (⟨(⟨#[102, 105, 114, 115, 116]⟩ : ByteArray), t182⟩ : S47), (⟨(⟨#[108, 97, 115, 116]⟩ : ByteArray), t183⟩ : S47), (⟨(⟨#[99, 97, 117, 115, 101, 115]⟩ : ByteArray), x5_1⟩ : S47)] : List (S47))))))))) = some (r1, r2, r3, r4) := H
        have A20 := Aside0.mk A200
        clear A200
        replace H := Option.bind_eq_some_iff.mp H
        obtain ⟨t180, A210, H⟩ := H
        replace H : ((supercargoref42_digits.f k1 a0_8).bind fun t181 => ((supercargoref42_digits.f k1 a0_6).bind fun t182 => ((supercargoref42_digits.f k1 a0_7).bind fun t183 => (some (3, a1, a0_0, (([(⟨(⟨#[102, 114, 111, 109]⟩ : ByteArray), a0_1⟩ : S47), (⟨(⟨#[116, 111]⟩ : ByteArray), a0_2⟩ : S47), (⟨(⟨#[115, 117, 109]⟩ : ByteArray), t179⟩ : S47), (⟨(⟨#[111, 119, 110]⟩ : ByteArray), t180⟩ : S47), (⟨(⟨#[115, 104, 97, 114, 101]⟩ : ByteArray), t181⟩ : S47), (⟨(⟨#[102, 105, 114, 115, 116]⟩ : ByteArray), t182⟩ : S47), (⟨(⟨#[108, 97, 115, 116]⟩ : ByteArray), t183⟩ : S47), (⟨(⟨#[99, 97, 117, 115, 101, 115]⟩ : ByteArray), x5_1⟩ : S47)] : List (S47)))))))) = some (r1, r2, r3, r4) := H
        have A21 := Aside0.mk A210
        clear A210
        replace H := Option.bind_eq_some_iff.mp H
        obtain ⟨t181, A220, H⟩ := H
        replace H : ((supercargoref42_digits.f k1 a0_6).bind fun t182 => ((supercargoref42_digits.f k1 a0_7).bind fun t183 => (some (3, a1, a0_0, (([(⟨(⟨#[102, 114, 111, 109]⟩ : ByteArray), a0_1⟩ : S47), (⟨(⟨#[116, 111]⟩ : ByteArray), a0_2⟩ : S47), (⟨(⟨#[115, 117, 109]⟩ : ByteArray), t179⟩ : S47), (⟨(⟨#[111, 119, 110]⟩ : ByteArray), t180⟩ : S47), (⟨(⟨#[115, 104, 97, 114, 101]⟩ : ByteArray), t181⟩ : S47), (⟨(⟨#[102, 105, 114, 115, 116]⟩ : ByteArray), t182⟩ : S47), (⟨(⟨#[108, 97, 115, 116]⟩ : ByteArray), t183⟩ : S47), (⟨(⟨#[99, 97, 117, 115, 101, 115]⟩ : ByteArray), x5_1⟩ : S47)] : List (S47))))))) = some (r1, r2, r3, r4) := H
        have A22 := Aside0.mk A220
        clear A220
        replace H := Option.bind_eq_some_iff.mp H
        obtain ⟨t182, A230, H⟩ := H
        replace H : ((supercargoref42_digits.f k1 a0_7).bind fun t183 => (some (3, a1, a0_0, (([(⟨(⟨#[102, 114, 111, 109]⟩ : ByteArray), a0_1⟩ : S47), (⟨(⟨#[116, 111]⟩ : ByteArray), a0_2⟩ : S47), (⟨(⟨#[115, 117, 109]⟩ : ByteArray), t179⟩ : S47), (⟨(⟨#[111, 119, 110]⟩ : ByteArray), t180⟩ : S47), (⟨(⟨#[115, 104, 97, 114, 101]⟩ : ByteArray), t181⟩ : S47), (⟨(⟨#[102, 105, 114, 115, 116]⟩ : ByteArray), t182⟩ : S47), (⟨(⟨#[108, 97, 115, 116]⟩ : ByteArray), t183⟩ : S47), (⟨(⟨#[99, 97, 117, 115, 101, 115]⟩ : ByteArray), x5_1⟩ : S47)] : List (S47)))))) = some (r1, r2, r3, r4) := H
        have A23 := Aside0.mk A230
        clear A230
        replace H := Option.bind_eq_some_iff.mp H
        obtain ⟨t183, A240, H⟩ := H
        replace H : (some (3, a1, a0_0, (([(⟨(⟨#[102, 114, 111, 109]⟩ : ByteArray), a0_1⟩ : S47), (⟨(⟨#[116, 111]⟩ : ByteArray), a0_2⟩ : S47), (⟨(⟨#[115, 117, 109]⟩ : ByteArray), t179⟩ : S47), (⟨(⟨#[111, 119, 110]⟩ : ByteArray), t180⟩ : S47), (⟨(⟨#[115, 104, 97, 114, 101]⟩ : ByteArray), t181⟩ : S47), (⟨(⟨#[102, 105, 114, 115, 116]⟩ : ByteArray), t182⟩ : S47), (⟨(⟨#[108, 97, 115, 116]⟩ : ByteArray), t183⟩ : S47), (⟨(⟨#[99, 97, 117, 115, 101, 115]⟩ : ByteArray), x5_1⟩ : S47)] : List (S47))))) = some (r1, r2, r3, r4) := H
        have A24 := Aside0.mk A240
        clear A240
        obtain ⟨y184, hy184⟩ : ∃ y_ : List (S47), y_ = (([(⟨(⟨#[102, 114, 111, 109]⟩ : ByteArray), a0_1⟩ : S47), (⟨(⟨#[116, 111]⟩ : ByteArray), a0_2⟩ : S47), (⟨(⟨#[115, 117, 109]⟩ : ByteArray), t179⟩ : S47), (⟨(⟨#[111, 119, 110]⟩ : ByteArray), t180⟩ : S47), (⟨(⟨#[115, 104, 97, 114, 101]⟩ : ByteArray), t181⟩ : S47), (⟨(⟨#[102, 105, 114, 115, 116]⟩ : ByteArray), t182⟩ : S47), (⟨(⟨#[108, 97, 115, 116]⟩ : ByteArray), t183⟩ : S47), (⟨(⟨#[99, 97, 117, 115, 101, 115]⟩ : ByteArray), x5_1⟩ : S47)] : List (S47))) := ⟨_, rfl⟩
        replace H : (some (3, a1, a0_0, y184)) = some (r1, r2, r3, r4) := by first | (rw [hy184]; with_reducible exact H) | (have H2_ := (Option.bind_some _ _).symm.trans H; rw [hy184]; with_reducible exact H2_) | (have H2_ := (Option.bind_some _ _).symm.trans H; with_reducible exact H2_) | with_reducible exact H | (rw [hy184]; exact H) | exact H
        have Ny184 := Aside0.mk hy184
        clear hy184
        simp only [Option.some.injEq, Prod.mk.injEq] at H
        obtain ⟨rfl, rfl, rfl, rfl⟩ := H
        have hnb25 := NB173_174.out
        have hnc25 := NB174_173.out
        have hcz26_0 : wr.cell? ⟨gb173, 0, none⟩ = some (.string a0_0) := (blk_cell BK173.out 0).trans rfl
        have hcz26_1 : wr.cell? ⟨gb173, 1, none⟩ = some (.string a0_1) := (blk_cell BK173.out 1).trans rfl
        have hcz26_2 : wr.cell? ⟨gb173, 2, none⟩ = some (.string a0_2) := (blk_cell BK173.out 2).trans rfl
        have hcz26_3 : wr.cell? ⟨gb173, 3, none⟩ = some (.int .i64 a0_3) := (blk_cell BK173.out 3).trans rfl
        have hcz26_4 : wr.cell? ⟨gb173, 4, none⟩ = some (.int .i64 a0_4) := (blk_cell BK173.out 4).trans rfl
        have hcz26_5 : wr.cell? ⟨gb173, 5, none⟩ = some (.slice A0_5 l0_5.length c0_5) := (blk_cell BK173.out 5).trans rfl
        have hcz26_6 : wr.cell? ⟨gb173, 6, none⟩ = some (.int .i64 a0_6) := (blk_cell BK173.out 6).trans rfl
        have hcz26_7 : wr.cell? ⟨gb173, 7, none⟩ = some (.int .i64 a0_7) := (blk_cell BK173.out 7).trans rfl
        have hcz26_8 : wr.cell? ⟨gb173, 8, none⟩ = some (.int .i64 a0_8) := (blk_cell BK173.out 8).trans rfl
        have hfz26_0 := blk_frozen BK173.out 0
        have hfz26_1 := blk_frozen BK173.out 1
        have hfz26_2 := blk_frozen BK173.out 2
        have hfz26_3 := blk_frozen BK173.out 3
        have hfz26_4 := blk_frozen BK173.out 4
        have hfz26_5 := blk_frozen BK173.out 5
        have hfz26_6 := blk_frozen BK173.out 6
        have hfz26_7 := blk_frozen BK173.out 7
        have hfz26_8 := blk_frozen BK173.out 8
        try go_wp2
        have n0_ := Aside0.mk (blk_drew BK173.out)
        have n1_ := Aside0.mk (blk_drew BK174.out)
        have n2_ := Aside0.mk (below_drew1 HB.out)
        clear BK173
        clear BK174
        clear HB
        have BK173 := n0_
        have BK174 := n1_
        have HB := n2_
        clear n0_ n1_ n2_
        refine start_ (n := 34) (S := fun w' => w'.cell? ⟨gb173, 0, none⟩ = some (.string a0_0) ∧ w'.cell? ⟨gb173, 1, none⟩ = some (.string a0_1) ∧ w'.cell? ⟨gb173, 2, none⟩ = some (.string a0_2) ∧ w'.cell? ⟨gb173, 3, none⟩ = some (.int .i64 a0_3) ∧ w'.cell? ⟨gb173, 4, none⟩ = some (.int .i64 a0_4) ∧ w'.cell? ⟨gb173, 5, none⟩ = some (.slice A0_5 l0_5.length c0_5) ∧ w'.cell? ⟨gb173, 6, none⟩ = some (.int .i64 a0_6) ∧ w'.cell? ⟨gb173, 7, none⟩ = some (.int .i64 a0_7) ∧ w'.cell? ⟨gb173, 8, none⟩ = some (.int .i64 a0_8)) (ds := []) #[false, false, false, false, false, false, false, false, false, false, false, false, false, false, false, false, false, false, false, false, false, false, false, false, false, false, false, false, false, false, false, false, false, false] (by kernel_rfl) rfl rfl ⟨(blk_cell BK173.out 0).trans rfl, (blk_cell BK173.out 1).trans rfl, (blk_cell BK173.out 2).trans rfl, (blk_cell BK173.out 3).trans rfl, (blk_cell BK173.out 4).trans rfl, (blk_cell BK173.out 5).trans rfl, (blk_cell BK173.out 6).trans rfl, (blk_cell BK173.out 7).trans rfl, (blk_cell BK173.out 8).trans rfl⟩ (fun hHeld => ?_); refine with_tabW supercargoref42_Doc.tab8 supercargoref42_Doc.bits8 (fun HT_ HW_ => ?_)
        generalize wr.drew = w27 at BK173 BK174 HB hHeld ⊢
        refine pure_ (i := 0) (N := some 26) (v := ?_) (a' := ?_) #[true, false, false, false, false, false, false, false, false, false, false, false, false, false, false, false, false, false, false, false, false, false, false, false, false, false, false, false, false, false, false, false, false, false] rfl rfl (any_of HT_.out (by kernel_rfl)) (fun _ _ _ h => h) (Or.inl ⟨by rfl, ?_⟩) ?_ ?_
        rotate_left
        · intro w'
          go_simp
          with_reducible rfl
        rotate_left
        · simp only [Act.put, List.setIfInBounds_toArray, List.set_cons_zero, List.set_cons_succ, i64_w, i32_w]
          rfl
        refine pure_ (i := 1) (N := some 27) (v := ?_) (a' := ?_) #[true, true, false, false, false, false, false, false, false, false, false, false, false, false, false, false, false, false, false, false, false, false, false, false, false, false, false, false, false, false, false, false, false, false] rfl rfl (any_of HT_.out (by kernel_rfl)) (fun _ _ _ h => h) (Or.inl ⟨by rfl, ?_⟩) ?_ ?_
        rotate_left
        · intro w'
          go_simp
          with_reducible rfl
        rotate_left
        · simp only [Act.put, List.setIfInBounds_toArray, List.set_cons_zero, List.set_cons_succ, i64_w, i32_w]
          rfl
        refine pure_ (i := 3) (N := some 29) (v := ?_) (a' := ?_) #[true, true, false, true, false, false, false, false, false, false, false, false, false, false, false, false, false, false, false, false, false, false, false, false, false, false, false, false, false, false, false, false, false, false] rfl rfl (any_of HT_.out (by kernel_rfl)) (fun _ _ _ h => h) (Or.inl ⟨by rfl, ?_⟩) ?_ ?_
        rotate_left
        · intro w'
          go_simp
          with_reducible rfl
        rotate_left
        · simp only [Act.put, List.setIfInBounds_toArray, List.set_cons_zero, List.set_cons_succ, i64_w, i32_w]
          rfl
        refine pure_ (i := 6) (N := some 32) (v := ?_) (a' := ?_) #[true, true, false, true, false, false, true, false, false, false, false, false, false, false, false, false, false, false, false, false, false, false, false, false, false, false, false, false, false, false, false, false, false, false] rfl rfl (any_of HT_.out (by kernel_rfl)) (fun _ _ _ h => h) (Or.inl ⟨by rfl, ?_⟩) ?_ ?_
        rotate_left
        · intro w'
          go_simp
          with_reducible rfl
        rotate_left
        · simp only [Act.put, List.setIfInBounds_toArray, List.set_cons_zero, List.set_cons_succ, i64_w, i32_w]
          rfl
        refine pure_ (i := 9) (N := some 35) (v := ?_) (a' := ?_) #[true, true, false, true, false, false, true, false, false, true, false, false, false, false, false, false, false, false, false, false, false, false, false, false, false, false, false, false, false, false, false, false, false, false] rfl rfl (any_of HT_.out (by kernel_rfl)) (fun _ _ _ h => h) (Or.inl ⟨by rfl, ?_⟩) ?_ ?_
        rotate_left
        · intro w'
          go_simp
          with_reducible rfl
        rotate_left
        · simp only [Act.put, List.setIfInBounds_toArray, List.set_cons_zero, List.set_cons_succ, i64_w, i32_w]
          rfl
        refine pure_ (i := 13) (N := some 39) (v := ?_) (a' := ?_) #[true, true, false, true, false, false, true, false, false, true, false, false, false, true, false, false, false, false, false, false, false, false, false, false, false, false, false, false, false, false, false, false, false, false] rfl rfl (any_of HT_.out (by kernel_rfl)) (fun _ _ _ h => h) (Or.inl ⟨by rfl, ?_⟩) ?_ ?_
        rotate_left
        · intro w'
          go_simp
          with_reducible rfl
        rotate_left
        · simp only [Act.put, List.setIfInBounds_toArray, List.set_cons_zero, List.set_cons_succ, i64_w, i32_w]
          rfl
        refine pure_ (i := 17) (N := some 43) (v := ?_) (a' := ?_) #[true, true, false, true, false, false, true, false, false, true, false, false, false, true, false, false, false, true, false, false, false, false, false, false, false, false, false, false, false, false, false, false, false, false] rfl rfl (any_of HT_.out (by kernel_rfl)) (fun _ _ _ h => h) (Or.inl ⟨by rfl, ?_⟩) ?_ ?_
        rotate_left
        · intro w'
          go_simp
          with_reducible rfl
        rotate_left
        · simp only [Act.put, List.setIfInBounds_toArray, List.set_cons_zero, List.set_cons_succ, i64_w, i32_w]
          rfl
        refine pure_ (i := 21) (N := some 47) (v := ?_) (a' := ?_) #[true, true, false, true, false, false, true, false, false, true, false, false, false, true, false, false, false, true, false, false, false, true, false, false, false, false, false, false, false, false, false, false, false, false] rfl rfl (any_of HT_.out (by kernel_rfl)) (fun _ _ _ h => h) (Or.inl ⟨by rfl, ?_⟩) ?_ ?_
        rotate_left
        · intro w'
          go_simp
          with_reducible rfl
        rotate_left
        · simp only [Act.put, List.setIfInBounds_toArray, List.set_cons_zero, List.set_cons_succ, i64_w, i32_w]
          rfl
        refine pure_ (i := 25) (N := some 51) (v := ?_) (a' := ?_) #[true, true, false, true, false, false, true, false, false, true, false, false, false, true, false, false, false, true, false, false, false, true, false, false, false, true, false, false, false, false, false, false, false, false] rfl rfl (any_of HT_.out (by kernel_rfl)) (fun _ _ _ h => h) (Or.inl ⟨by rfl, ?_⟩) ?_ ?_
        rotate_left
        · intro w'
          go_simp
          with_reducible rfl
        rotate_left
        · simp only [Act.put, List.setIfInBounds_toArray, List.set_cons_zero, List.set_cons_succ, i64_w, i32_w]
          rfl
        refine pure_ (i := 29) (N := some 55) (v := ?_) (a' := ?_) #[true, true, false, true, false, false, true, false, false, true, false, false, false, true, false, false, false, true, false, false, false, true, false, false, false, true, false, false, false, true, false, false, false, false] rfl rfl (any_of HT_.out (by kernel_rfl)) (fun _ _ _ h => h) (Or.inl ⟨by rfl, ?_⟩) ?_ ?_
        rotate_left
        · intro w'
          go_simp
          with_reducible rfl
        rotate_left
        · simp only [Act.put, List.setIfInBounds_toArray, List.set_cons_zero, List.set_cons_succ, i64_w, i32_w]
          rfl
        refine pure_ (i := 30) (N := some 56) (v := ?_) (a' := ?_) #[true, true, false, true, false, false, true, false, false, true, false, false, false, true, false, false, false, true, false, false, false, true, false, false, false, true, false, false, false, true, true, false, false, false] rfl rfl (any_of HT_.out (by kernel_rfl)) (fun _ _ _ h => h) (Or.inl ⟨by rfl, ?_⟩) ?_ ?_
        rotate_left
        · intro w'
          go_simp
          with_reducible rfl
        rotate_left
        · simp only [Act.put, List.setIfInBounds_toArray, List.set_cons_zero, List.set_cons_succ, i64_w, i32_w]
          rfl
        refine take_ (i := 2) (N := some 28) (v := ?_) (a' := ?_) #[true, true, true, true, false, false, true, false, false, true, false, false, false, true, false, false, false, true, false, false, false, true, false, false, false, true, false, false, false, true, true, false, false, false] rfl rfl (take_ofW HT_.out HW_.out (by kernel_rfl)) (fun _ _ _ h => h) (Or.inl ⟨by rfl, ?_⟩) hHeld ?_ ?_
        rotate_left
        · rintro w' ⟨s0, s1, s2, s3, s4, s5, s6, s7, s8⟩
          go_simp
          with_reducible rfl
        rotate_left
        · simp only [Act.put, List.setIfInBounds_toArray, List.set_cons_zero, List.set_cons_succ, i64_w, i32_w]
          rfl
        refine take_ (i := 4) (N := some 30) (v := ?_) (a' := ?_) #[true, true, true, true, true, false, true, false, false, true, false, false, false, true, false, false, false, true, false, false, false, true, false, false, false, true, false, false, false, true, true, false, false, false] rfl rfl (take_ofW HT_.out HW_.out (by kernel_rfl)) (fun _ _ _ h => h) (Or.inl ⟨by rfl, ?_⟩) hHeld ?_ ?_
        rotate_left
        · rintro w' ⟨s0, s1, s2, s3, s4, s5, s6, s7, s8⟩
          go_simp
          with_reducible rfl
        rotate_left
        · simp only [Act.put, List.setIfInBounds_toArray, List.set_cons_zero, List.set_cons_succ, i64_w, i32_w]
          rfl
        refine pure_ (i := 5) (N := some 31) (v := ?_) (a' := ?_) #[true, true, true, true, true, true, true, false, false, true, false, false, false, true, false, false, false, true, false, false, false, true, false, false, false, true, false, false, false, true, true, false, false, false] rfl rfl (any_of HT_.out (by kernel_rfl)) (fun _ _ _ h => h) (Or.inl ⟨by rfl, ?_⟩) ?_ ?_
        rotate_left
        · intro w'
          go_simp
          with_reducible rfl
        rotate_left
        · simp only [Act.put, List.setIfInBounds_toArray, List.set_cons_zero, List.set_cons_succ, i64_w, i32_w]
          rfl
        refine take_ (i := 7) (N := some 33) (v := ?_) (a' := ?_) #[true, true, true, true, true, true, true, true, false, true, false, false, false, true, false, false, false, true, false, false, false, true, false, false, false, true, false, false, false, true, true, false, false, false] rfl rfl (take_ofW HT_.out HW_.out (by kernel_rfl)) (fun _ _ _ h => h) (Or.inl ⟨by rfl, ?_⟩) hHeld ?_ ?_
        rotate_left
        · rintro w' ⟨s0, s1, s2, s3, s4, s5, s6, s7, s8⟩
          go_simp
          with_reducible rfl
        rotate_left
        · simp only [Act.put, List.setIfInBounds_toArray, List.set_cons_zero, List.set_cons_succ, i64_w, i32_w]
          rfl
        refine pure_ (i := 8) (N := some 34) (v := ?_) (a' := ?_) #[true, true, true, true, true, true, true, true, true, true, false, false, false, true, false, false, false, true, false, false, false, true, false, false, false, true, false, false, false, true, true, false, false, false] rfl rfl (any_of HT_.out (by kernel_rfl)) (fun _ _ _ h => h) (Or.inl ⟨by rfl, ?_⟩) ?_ ?_
        rotate_left
        · intro w'
          go_simp
          with_reducible rfl
        rotate_left
        · simp only [Act.put, List.setIfInBounds_toArray, List.set_cons_zero, List.set_cons_succ, i64_w, i32_w]
          rfl
        refine take_ (i := 10) (N := some 36) (v := ?_) (a' := ?_) #[true, true, true, true, true, true, true, true, true, true, true, false, false, true, false, false, false, true, false, false, false, true, false, false, false, true, false, false, false, true, true, false, false, false] rfl rfl (take_ofW HT_.out HW_.out (by kernel_rfl)) (fun _ _ _ h => h) (Or.inl ⟨by rfl, ?_⟩) hHeld ?_ ?_
        rotate_left
        · rintro w' ⟨s0, s1, s2, s3, s4, s5, s6, s7, s8⟩
          go_simp
          with_reducible rfl
        rotate_left
        · simp only [Act.put, List.setIfInBounds_toArray, List.set_cons_zero, List.set_cons_succ, i64_w, i32_w]
          rfl
        refine take_ (i := 14) (N := some 40) (v := ?_) (a' := ?_) #[true, true, true, true, true, true, true, true, true, true, true, false, false, true, true, false, false, true, false, false, false, true, false, false, false, true, false, false, false, true, true, false, false, false] rfl rfl (take_ofW HT_.out HW_.out (by kernel_rfl)) (fun _ _ _ h => h) (Or.inl ⟨by rfl, ?_⟩) hHeld ?_ ?_
        rotate_left
        · rintro w' ⟨s0, s1, s2, s3, s4, s5, s6, s7, s8⟩
          go_simp
          with_reducible rfl
        rotate_left
        · simp only [Act.put, List.setIfInBounds_toArray, List.set_cons_zero, List.set_cons_succ, i64_w, i32_w]
          rfl
        refine take_ (i := 18) (N := some 44) (v := ?_) (a' := ?_) #[true, true, true, true, true, true, true, true, true, true, true, false, false, true, true, false, false, true, true, false, false, true, false, false, false, true, false, false, false, true, true, false, false, false] rfl rfl (take_ofW HT_.out HW_.out (by kernel_rfl)) (fun _ _ _ h => h) (Or.inl ⟨by rfl, ?_⟩) hHeld ?_ ?_
        rotate_left
        · rintro w' ⟨s0, s1, s2, s3, s4, s5, s6, s7, s8⟩
          go_simp
          with_reducible rfl
        rotate_left
        · simp only [Act.put, List.setIfInBounds_toArray, List.set_cons_zero, List.set_cons_succ, i64_w, i32_w]
          rfl
        refine take_ (i := 22) (N := some 48) (v := ?_) (a' := ?_) #[true, true, true, true, true, true, true, true, true, true, true, false, false, true, true, false, false, true, true, false, false, true, true, false, false, true, false, false, false, true, true, false, false, false] rfl rfl (take_ofW HT_.out HW_.out (by kernel_rfl)) (fun _ _ _ h => h) (Or.inl ⟨by rfl, ?_⟩) hHeld ?_ ?_
        rotate_left
        · rintro w' ⟨s0, s1, s2, s3, s4, s5, s6, s7, s8⟩
          go_simp
          with_reducible rfl
        rotate_left
        · simp only [Act.put, List.setIfInBounds_toArray, List.set_cons_zero, List.set_cons_succ, i64_w, i32_w]
          rfl
        refine take_ (i := 26) (N := some 52) (v := ?_) (a' := ?_) #[true, true, true, true, true, true, true, true, true, true, true, false, false, true, true, false, false, true, true, false, false, true, true, false, false, true, true, false, false, true, true, false, false, false] rfl rfl (take_ofW HT_.out HW_.out (by kernel_rfl)) (fun _ _ _ h => h) (Or.inl ⟨by rfl, ?_⟩) hHeld ?_ ?_
        rotate_left
        · rintro w' ⟨s0, s1, s2, s3, s4, s5, s6, s7, s8⟩
          go_simp
          with_reducible rfl
        rotate_left
        · simp only [Act.put, List.setIfInBounds_toArray, List.set_cons_zero, List.set_cons_succ, i64_w, i32_w]
          rfl
        refine one_ (i := 11) (N := some 37) #[true, true, true, true, true, true, true, true, true, true, true, true, false, true, true, false, false, true, true, false, false, true, true, false, false, true, true, false, false, true, true, false, false, false] rfl rfl (one_of HT_.out (by kernel_rfl)) (by decide) (fun K hK => ?_)
        refine goes_ Tryd.func21 (by kernel_rfl) rfl #[.int .i64 a0_3] (by rfl) rfl rfl (by (try simp only [List.map_toArray, List.map_cons, List.map_nil]); first | done | rfl | (simp only [List.length_drop, List.length_take]; rfl)) ?_
        with_reducible refine (supercargoref42_digits.calls k1 a0_3 t179 _ A20.out).mono ?_
        rintro e w28 ⟨rfl, hb⟩
        refine ⟨_, rfl, ?_⟩
        have n0_ := Aside0.mk (blk_below (g := gb173) (o := .cells #[.string a0_0, .string a0_1, .string a0_2, .int .i64 a0_3, .int .i64 a0_4, .slice A0_5 l0_5.length c0_5, .int .i64 a0_6, .int .i64 a0_7, .int .i64 a0_8] 24 (0, 0)) (by (with_reducible repeat (first | refine blk_drewN ?_ _ | refine blk_drew ?_ | refine blk_alloc ?_ _)); exact BK173.out) hb)
        have n1_ := Aside0.mk (blk_below (g := gb174) (o := .cells #[.int .i64 0, .string (⟨#[]⟩ : ByteArray), .string (⟨#[]⟩ : ByteArray), .slice none 0 0] 29 (0, 0)) (by (with_reducible repeat (first | refine blk_drewN ?_ _ | refine blk_drew ?_ | refine blk_alloc ?_ _)); exact BK174.out) hb)
        have n2_ := Aside0.mk (below_step (by repeat (first | (with_reducible first | exact HB.out | apply below_alloc | apply pw_below_drewN | apply below_drew1 | refine below_set ?_ GE173.out | refine below_set ?_ GE174.out) | exact HB.out)) hb)
        clear BK173
        clear BK174
        clear HB
        have BK173 := n0_
        have BK174 := n1_
        have HB := n2_
        clear n0_ n1_ n2_
        (try clear hb)
        (try clear hb2)
        (try clear hk)
        (try clear hi)
        refine hK.out _ _ ⟨(blk_cell BK173.out 0).trans rfl, (blk_cell BK173.out 1).trans rfl, (blk_cell BK173.out 2).trans rfl, (blk_cell BK173.out 3).trans rfl, (blk_cell BK173.out 4).trans rfl, (blk_cell BK173.out 5).trans rfl, (blk_cell BK173.out 6).trans rfl, (blk_cell BK173.out 7).trans rfl, (blk_cell BK173.out 8).trans rfl⟩ (fun hHeld => ?_)
        clear hK K
        refine norm_ (a' := ?_) ?_ ?_
        rotate_left
        · show Act.put _ (some 37) _ = _
          simp only [Act.put, List.setIfInBounds_toArray, List.set_cons_zero, List.set_cons_succ, i64_w, i32_w]
          rfl
        refine pure_ (i := 12) (N := some 38) (v := ?_) (a' := ?_) #[true, true, true, true, true, true, true, true, true, true, true, true, true, true, true, false, false, true, true, false, false, true, true, false, false, true, true, false, false, true, true, false, false, false] rfl rfl (any_of HT_.out (by kernel_rfl)) (fun _ _ _ h => h) (Or.inl ⟨by rfl, ?_⟩) ?_ ?_
        rotate_left
        · intro w'
          go_simp
          with_reducible rfl
        rotate_left
        · simp only [Act.put, List.setIfInBounds_toArray, List.set_cons_zero, List.set_cons_succ, i64_w, i32_w]
          rfl
        refine one_ (i := 15) (N := some 41) #[true, true, true, true, true, true, true, true, true, true, true, true, true, true, true, true, false, true, true, false, false, true, true, false, false, true, true, false, false, true, true, false, false, false] rfl rfl (one_of HT_.out (by kernel_rfl)) (by decide) (fun K hK => ?_)
        refine goes_ Tryd.func21 (by kernel_rfl) rfl #[.int .i64 a0_4] (by rfl) rfl rfl (by (try simp only [List.map_toArray, List.map_cons, List.map_nil]); first | done | rfl | (simp only [List.length_drop, List.length_take]; rfl)) ?_
        with_reducible refine (supercargoref42_digits.calls k1 a0_4 t180 _ A21.out).mono ?_
        rintro e w29 ⟨rfl, hb⟩
        refine ⟨_, rfl, ?_⟩
        have n0_ := Aside0.mk (blk_below (g := gb173) (o := .cells #[.string a0_0, .string a0_1, .string a0_2, .int .i64 a0_3, .int .i64 a0_4, .slice A0_5 l0_5.length c0_5, .int .i64 a0_6, .int .i64 a0_7, .int .i64 a0_8] 24 (0, 0)) (by (with_reducible repeat (first | refine blk_drewN ?_ _ | refine blk_drew ?_ | refine blk_alloc ?_ _)); exact BK173.out) hb)
        have n1_ := Aside0.mk (blk_below (g := gb174) (o := .cells #[.int .i64 0, .string (⟨#[]⟩ : ByteArray), .string (⟨#[]⟩ : ByteArray), .slice none 0 0] 29 (0, 0)) (by (with_reducible repeat (first | refine blk_drewN ?_ _ | refine blk_drew ?_ | refine blk_alloc ?_ _)); exact BK174.out) hb)
        have n2_ := Aside0.mk (below_step (by repeat (first | (with_reducible first | exact HB.out | apply below_alloc | apply pw_below_drewN | apply below_drew1 | refine below_set ?_ GE173.out | refine below_set ?_ GE174.out) | exact HB.out)) hb)
        clear BK173
        clear BK174
        clear HB
        have BK173 := n0_
        have BK174 := n1_
        have HB := n2_
        clear n0_ n1_ n2_
        (try clear hb)
        (try clear hb2)
        (try clear hk)
        (try clear hi)
        refine hK.out _ _ ⟨(blk_cell BK173.out 0).trans rfl, (blk_cell BK173.out 1).trans rfl, (blk_cell BK173.out 2).trans rfl, (blk_cell BK173.out 3).trans rfl, (blk_cell BK173.out 4).trans rfl, (blk_cell BK173.out 5).trans rfl, (blk_cell BK173.out 6).trans rfl, (blk_cell BK173.out 7).trans rfl, (blk_cell BK173.out 8).trans rfl⟩ (fun hHeld => ?_)
        clear hK K
        refine norm_ (a' := ?_) ?_ ?_
        rotate_left
        · show Act.put _ (some 41) _ = _
          simp only [Act.put, List.setIfInBounds_toArray, List.set_cons_zero, List.set_cons_succ, i64_w, i32_w]
          rfl
        refine pure_ (i := 16) (N := some 42) (v := ?_) (a' := ?_) #[true, true, true, true, true, true, true, true, true, true, true, true, true, true, true, true, true, true, true, false, false, true, true, false, false, true, true, false, false, true, true, false, false, false] rfl rfl (any_of HT_.out (by kernel_rfl)) (fun _ _ _ h => h) (Or.inl ⟨by rfl, ?_⟩) ?_ ?_
        rotate_left
        · intro w'
          go_simp
          with_reducible rfl
        rotate_left
        · simp only [Act.put, List.setIfInBounds_toArray, List.set_cons_zero, List.set_cons_succ, i64_w, i32_w]
          rfl
        refine one_ (i := 19) (N := some 45) #[true, true, true, true, true, true, true, true, true, true, true, true, true, true, true, true, true, true, true, true, false, true, true, false, false, true, true, false, false, true, true, false, false, false] rfl rfl (one_of HT_.out (by kernel_rfl)) (by decide) (fun K hK => ?_)
        refine goes_ Tryd.func21 (by kernel_rfl) rfl #[.int .i64 a0_8] (by rfl) rfl rfl (by (try simp only [List.map_toArray, List.map_cons, List.map_nil]); first | done | rfl | (simp only [List.length_drop, List.length_take]; rfl)) ?_
        with_reducible refine (supercargoref42_digits.calls k1 a0_8 t181 _ A22.out).mono ?_
        rintro e w30 ⟨rfl, hb⟩
        refine ⟨_, rfl, ?_⟩
        have n0_ := Aside0.mk (blk_below (g := gb173) (o := .cells #[.string a0_0, .string a0_1, .string a0_2, .int .i64 a0_3, .int .i64 a0_4, .slice A0_5 l0_5.length c0_5, .int .i64 a0_6, .int .i64 a0_7, .int .i64 a0_8] 24 (0, 0)) (by (with_reducible repeat (first | refine blk_drewN ?_ _ | refine blk_drew ?_ | refine blk_alloc ?_ _)); exact BK173.out) hb)
        have n1_ := Aside0.mk (blk_below (g := gb174) (o := .cells #[.int .i64 0, .string (⟨#[]⟩ : ByteArray), .string (⟨#[]⟩ : ByteArray), .slice none 0 0] 29 (0, 0)) (by (with_reducible repeat (first | refine blk_drewN ?_ _ | refine blk_drew ?_ | refine blk_alloc ?_ _)); exact BK174.out) hb)
        have n2_ := Aside0.mk (below_step (by repeat (first | (with_reducible first | exact HB.out | apply below_alloc | apply pw_below_drewN | apply below_drew1 | refine below_set ?_ GE173.out | refine below_set ?_ GE174.out) | exact HB.out)) hb)
        clear BK173
        clear BK174
        clear HB
        have BK173 := n0_
        have BK174 := n1_
        have HB := n2_
        clear n0_ n1_ n2_
        (try clear hb)
        (try clear hb2)
        (try clear hk)
        (try clear hi)
        refine hK.out _ _ ⟨(blk_cell BK173.out 0).trans rfl, (blk_cell BK173.out 1).trans rfl, (blk_cell BK173.out 2).trans rfl, (blk_cell BK173.out 3).trans rfl, (blk_cell BK173.out 4).trans rfl, (blk_cell BK173.out 5).trans rfl, (blk_cell BK173.out 6).trans rfl, (blk_cell BK173.out 7).trans rfl, (blk_cell BK173.out 8).trans rfl⟩ (fun hHeld => ?_)
        clear hK K
        refine norm_ (a' := ?_) ?_ ?_
        rotate_left
        · show Act.put _ (some 45) _ = _
          simp only [Act.put, List.setIfInBounds_toArray, List.set_cons_zero, List.set_cons_succ, i64_w, i32_w]
          rfl
        refine pure_ (i := 20) (N := some 46) (v := ?_) (a' := ?_) #[true, true, true, true, true, true, true, true, true, true, true, true, true, true, true, true, true, true, true, true, true, true, true, false, false, true, true, false, false, true, true, false, false, false] rfl rfl (any_of HT_.out (by kernel_rfl)) (fun _ _ _ h => h) (Or.inl ⟨by rfl, ?_⟩) ?_ ?_
        rotate_left
        · intro w'
          go_simp
          with_reducible rfl
        rotate_left
        · simp only [Act.put, List.setIfInBounds_toArray, List.set_cons_zero, List.set_cons_succ, i64_w, i32_w]
          rfl
        refine one_ (i := 23) (N := some 49) #[true, true, true, true, true, true, true, true, true, true, true, true, true, true, true, true, true, true, true, true, true, true, true, true, false, true, true, false, false, true, true, false, false, false] rfl rfl (one_of HT_.out (by kernel_rfl)) (by decide) (fun K hK => ?_)
        refine goes_ Tryd.func21 (by kernel_rfl) rfl #[.int .i64 a0_6] (by rfl) rfl rfl (by (try simp only [List.map_toArray, List.map_cons, List.map_nil]); first | done | rfl | (simp only [List.length_drop, List.length_take]; rfl)) ?_
        with_reducible refine (supercargoref42_digits.calls k1 a0_6 t182 _ A23.out).mono ?_
        rintro e w31 ⟨rfl, hb⟩
        refine ⟨_, rfl, ?_⟩
        have n0_ := Aside0.mk (blk_below (g := gb173) (o := .cells #[.string a0_0, .string a0_1, .string a0_2, .int .i64 a0_3, .int .i64 a0_4, .slice A0_5 l0_5.length c0_5, .int .i64 a0_6, .int .i64 a0_7, .int .i64 a0_8] 24 (0, 0)) (by (with_reducible repeat (first | refine blk_drewN ?_ _ | refine blk_drew ?_ | refine blk_alloc ?_ _)); exact BK173.out) hb)
        have n1_ := Aside0.mk (blk_below (g := gb174) (o := .cells #[.int .i64 0, .string (⟨#[]⟩ : ByteArray), .string (⟨#[]⟩ : ByteArray), .slice none 0 0] 29 (0, 0)) (by (with_reducible repeat (first | refine blk_drewN ?_ _ | refine blk_drew ?_ | refine blk_alloc ?_ _)); exact BK174.out) hb)
        have n2_ := Aside0.mk (below_step (by repeat (first | (with_reducible first | exact HB.out | apply below_alloc | apply pw_below_drewN | apply below_drew1 | refine below_set ?_ GE173.out | refine below_set ?_ GE174.out) | exact HB.out)) hb)
        clear BK173
        clear BK174
        clear HB
        have BK173 := n0_
        have BK174 := n1_
        have HB := n2_
        clear n0_ n1_ n2_
        (try clear hb)
        (try clear hb2)
        (try clear hk)
        (try clear hi)
        refine hK.out _ _ ⟨(blk_cell BK173.out 0).trans rfl, (blk_cell BK173.out 1).trans rfl, (blk_cell BK173.out 2).trans rfl, (blk_cell BK173.out 3).trans rfl, (blk_cell BK173.out 4).trans rfl, (blk_cell BK173.out 5).trans rfl, (blk_cell BK173.out 6).trans rfl, (blk_cell BK173.out 7).trans rfl, (blk_cell BK173.out 8).trans rfl⟩ (fun hHeld => ?_)
        clear hK K
        refine norm_ (a' := ?_) ?_ ?_
        rotate_left
        · show Act.put _ (some 49) _ = _
          simp only [Act.put, List.setIfInBounds_toArray, List.set_cons_zero, List.set_cons_succ, i64_w, i32_w]
          rfl
        refine pure_ (i := 24) (N := some 50) (v := ?_) (a' := ?_) #[true, true, true, true, true, true, true, true, true, true, true, true, true, true, true, true, true, true, true, true, true, true, true, true, true, true, true, false, false, true, true, false, false, false] rfl rfl (any_of HT_.out (by kernel_rfl)) (fun _ _ _ h => h) (Or.inl ⟨by rfl, ?_⟩) ?_ ?_
        rotate_left
        · intro w'
          go_simp
          with_reducible rfl
        rotate_left
        · simp only [Act.put, List.setIfInBounds_toArray, List.set_cons_zero, List.set_cons_succ, i64_w, i32_w]
          rfl
        refine one_ (i := 27) (N := some 53) #[true, true, true, true, true, true, true, true, true, true, true, true, true, true, true, true, true, true, true, true, true, true, true, true, true, true, true, true, false, true, true, false, false, false] rfl rfl (one_of HT_.out (by kernel_rfl)) (by decide) (fun K hK => ?_)
        refine goes_ Tryd.func21 (by kernel_rfl) rfl #[.int .i64 a0_7] (by rfl) rfl rfl (by (try simp only [List.map_toArray, List.map_cons, List.map_nil]); first | done | rfl | (simp only [List.length_drop, List.length_take]; rfl)) ?_
        with_reducible refine (supercargoref42_digits.calls k1 a0_7 t183 _ A24.out).mono ?_
        rintro e w32 ⟨rfl, hb⟩
        refine ⟨_, rfl, ?_⟩
        have n0_ := Aside0.mk (blk_below (g := gb173) (o := .cells #[.string a0_0, .string a0_1, .string a0_2, .int .i64 a0_3, .int .i64 a0_4, .slice A0_5 l0_5.length c0_5, .int .i64 a0_6, .int .i64 a0_7, .int .i64 a0_8] 24 (0, 0)) (by (with_reducible repeat (first | refine blk_drewN ?_ _ | refine blk_drew ?_ | refine blk_alloc ?_ _)); exact BK173.out) hb)
        have n1_ := Aside0.mk (blk_below (g := gb174) (o := .cells #[.int .i64 0, .string (⟨#[]⟩ : ByteArray), .string (⟨#[]⟩ : ByteArray), .slice none 0 0] 29 (0, 0)) (by (with_reducible repeat (first | refine blk_drewN ?_ _ | refine blk_drew ?_ | refine blk_alloc ?_ _)); exact BK174.out) hb)
        have n2_ := Aside0.mk (below_step (by repeat (first | (with_reducible first | exact HB.out | apply below_alloc | apply pw_below_drewN | apply below_drew1 | refine below_set ?_ GE173.out | refine below_set ?_ GE174.out) | exact HB.out)) hb)
        clear BK173
        clear BK174
        clear HB
        have BK173 := n0_
        have BK174 := n1_
        have HB := n2_
        clear n0_ n1_ n2_
        (try clear hb)
        (try clear hb2)
        (try clear hk)
        (try clear hi)
        refine hK.out _ _ ⟨(blk_cell BK173.out 0).trans rfl, (blk_cell BK173.out 1).trans rfl, (blk_cell BK173.out 2).trans rfl, (blk_cell BK173.out 3).trans rfl, (blk_cell BK173.out 4).trans rfl, (blk_cell BK173.out 5).trans rfl, (blk_cell BK173.out 6).trans rfl, (blk_cell BK173.out 7).trans rfl, (blk_cell BK173.out 8).trans rfl⟩ (fun hHeld => ?_)
        clear hK K
        refine norm_ (a' := ?_) ?_ ?_
        rotate_left
        · show Act.put _ (some 53) _ = _
          simp only [Act.put, List.setIfInBounds_toArray, List.set_cons_zero, List.set_cons_succ, i64_w, i32_w]
          rfl
        refine pure_ (i := 28) (N := some 54) (v := ?_) (a' := ?_) #[true, true, true, true, true, true, true, true, true, true, true, true, true, true, true, true, true, true, true, true, true, true, true, true, true, true, true, true, true, true, true, false, false, false] rfl rfl (any_of HT_.out (by kernel_rfl)) (fun _ _ _ h => h) (Or.inl ⟨by rfl, ?_⟩) ?_ ?_
        rotate_left
        · intro w'
          go_simp
          with_reducible rfl
        rotate_left
        · simp only [Act.put, List.setIfInBounds_toArray, List.set_cons_zero, List.set_cons_succ, i64_w, i32_w]
          rfl
        refine one_ (i := 31) (N := some 57) #[true, true, true, true, true, true, true, true, true, true, true, true, true, true, true, true, true, true, true, true, true, true, true, true, true, true, true, true, true, true, true, true, false, false] rfl rfl (one_of HT_.out (by kernel_rfl)) (by decide) (fun K hK => ?_)
        refine Kd.R_lit_step k47 _ 47 ?hg (N := 57) ?hd (xs := ([(⟨(⟨#[102, 114, 111, 109]⟩ : ByteArray), a0_1⟩ : S47), (⟨(⟨#[116, 111]⟩ : ByteArray), a0_2⟩ : S47), (⟨(⟨#[115, 117, 109]⟩ : ByteArray), t179⟩ : S47), (⟨(⟨#[111, 119, 110]⟩ : ByteArray), t180⟩ : S47), (⟨(⟨#[115, 104, 97, 114, 101]⟩ : ByteArray), t181⟩ : S47), (⟨(⟨#[102, 105, 114, 115, 116]⟩ : ByteArray), t182⟩ : S47), (⟨(⟨#[108, 97, 115, 116]⟩ : ByteArray), t183⟩ : S47), (⟨(⟨#[99, 97, 117, 115, 101, 115]⟩ : ByteArray), x5_1⟩ : S47)] : List (S47))) (inner := [.string (⟨#[102, 114, 111, 109]⟩ : ByteArray), .string a0_1, .string (⟨#[116, 111]⟩ : ByteArray), .string a0_2, .string (⟨#[115, 117, 109]⟩ : ByteArray), .string t179, .string (⟨#[111, 119, 110]⟩ : ByteArray), .string t180, .string (⟨#[115, 104, 97, 114, 101]⟩ : ByteArray), .string t181, .string (⟨#[102, 105, 114, 115, 116]⟩ : ByteArray), .string t182, .string (⟨#[108, 97, 115, 116]⟩ : ByteArray), .string t183, .string (⟨#[99, 97, 117, 115, 101, 115]⟩ : ByteArray), .string x5_1]) (ok := fun _ => True) (okp := fun _ => True) ?hr ?hp (fun _ hk => hk) trivial (Below.refl _ _) (Nat.le_refl _) (by simp) ?_; (case hd => rfl); (case hg => rfl); (case hr => first | (go_simp; done) | (go_simp; rfl)); (case hp => exact (Reps.c2 (show Kd.M k47 _ _ _ (⟨(⟨#[102, 114, 111, 109]⟩ : ByteArray), a0_1⟩ : S47) [.string (⟨#[102, 114, 111, 109]⟩ : ByteArray), .string a0_1] from (k47_mkM _ _ _ (⟨(⟨#[102, 114, 111, 109]⟩ : ByteArray), a0_1⟩ : S47) )) (Reps.c2 (show Kd.M k47 _ _ _ (⟨(⟨#[116, 111]⟩ : ByteArray), a0_2⟩ : S47) [.string (⟨#[116, 111]⟩ : ByteArray), .string a0_2] from (k47_mkM _ _ _ (⟨(⟨#[116, 111]⟩ : ByteArray), a0_2⟩ : S47) )) (Reps.c2 (show Kd.M k47 _ _ _ (⟨(⟨#[115, 117, 109]⟩ : ByteArray), t179⟩ : S47) [.string (⟨#[115, 117, 109]⟩ : ByteArray), .string t179] from (k47_mkM _ _ _ (⟨(⟨#[115, 117, 109]⟩ : ByteArray), t179⟩ : S47) )) (Reps.c2 (show Kd.M k47 _ _ _ (⟨(⟨#[111, 119, 110]⟩ : ByteArray), t180⟩ : S47) [.string (⟨#[111, 119, 110]⟩ : ByteArray), .string t180] from (k47_mkM _ _ _ (⟨(⟨#[111, 119, 110]⟩ : ByteArray), t180⟩ : S47) )) (Reps.c2 (show Kd.M k47 _ _ _ (⟨(⟨#[115, 104, 97, 114, 101]⟩ : ByteArray), t181⟩ : S47) [.string (⟨#[115, 104, 97, 114, 101]⟩ : ByteArray), .string t181] from (k47_mkM _ _ _ (⟨(⟨#[115, 104, 97, 114, 101]⟩ : ByteArray), t181⟩ : S47) )) (Reps.c2 (show Kd.M k47 _ _ _ (⟨(⟨#[102, 105, 114, 115, 116]⟩ : ByteArray), t182⟩ : S47) [.string (⟨#[102, 105, 114, 115, 116]⟩ : ByteArray), .string t182] from (k47_mkM _ _ _ (⟨(⟨#[102, 105, 114, 115, 116]⟩ : ByteArray), t182⟩ : S47) )) (Reps.c2 (show Kd.M k47 _ _ _ (⟨(⟨#[108, 97, 115, 116]⟩ : ByteArray), t183⟩ : S47) [.string (⟨#[108, 97, 115, 116]⟩ : ByteArray), .string t183] from (k47_mkM _ _ _ (⟨(⟨#[108, 97, 115, 116]⟩ : ByteArray), t183⟩ : S47) )) (Reps.c2 (show Kd.M k47 _ _ _ (⟨(⟨#[99, 97, 117, 115, 101, 115]⟩ : ByteArray), x5_1⟩ : S47) [.string (⟨#[99, 97, 117, 115, 101, 115]⟩ : ByteArray), .string x5_1] from (k47_mkM _ _ _ (⟨(⟨#[99, 97, 117, 115, 101, 115]⟩ : ByteArray), x5_1⟩ : S47) )) (Reps.none _ _))))))))))
        intro v185 w33 ho34 hb hg_ hnew_
        clear hg_ hnew_
        (first | rw [← Ny184.out] at ho34 | (simp only [Int.reduceToNat] at ho34; rw [← Ny184.out] at ho34))
        have n0_ := Aside0.mk (Kd.R_lower ho34 (below_size (by repeat (first | (with_reducible first | exact HB.out | apply below_alloc | apply pw_below_drewN | apply below_drew1 | refine below_set ?_ GE173.out | refine below_set ?_ GE174.out) | exact HB.out))))
        have n1_ := Aside0.mk (blk_below (g := gb173) (o := .cells #[.string a0_0, .string a0_1, .string a0_2, .int .i64 a0_3, .int .i64 a0_4, .slice A0_5 l0_5.length c0_5, .int .i64 a0_6, .int .i64 a0_7, .int .i64 a0_8] 24 (0, 0)) (by (with_reducible repeat (first | refine blk_drewN ?_ _ | refine blk_drew ?_ | refine blk_alloc ?_ _)); exact BK173.out) hb)
        have n2_ := Aside0.mk (blk_below (g := gb174) (o := .cells #[.int .i64 0, .string (⟨#[]⟩ : ByteArray), .string (⟨#[]⟩ : ByteArray), .slice none 0 0] 29 (0, 0)) (by (with_reducible repeat (first | refine blk_drewN ?_ _ | refine blk_drew ?_ | refine blk_alloc ?_ _)); exact BK174.out) hb)
        have n3_ := Aside0.mk (below_step (by repeat (first | (with_reducible first | exact HB.out | apply below_alloc | apply pw_below_drewN | apply below_drew1 | refine below_set ?_ GE173.out | refine below_set ?_ GE174.out) | exact HB.out)) hb)
        clear BK173
        clear BK174
        clear HB
        have HO186 := n0_
        have BK173 := n1_
        have BK174 := n2_
        have HB := n3_
        clear n0_ n1_ n2_ n3_
        clear hb ho34
        obtain ⟨Ao35, co35, eo35⟩ := Kd.R_slice HO186.out
        (first | subst eo35 | (injection eo35 with f1_ f2_ f3_; have f4_ := f1_.symm; have f5_ := f3_.symm; clear f1_ f2_ f3_; subst f4_; subst f5_))
        refine hK.out _ _ ⟨(blk_cell BK173.out 0).trans rfl, (blk_cell BK173.out 1).trans rfl, (blk_cell BK173.out 2).trans rfl, (blk_cell BK173.out 3).trans rfl, (blk_cell BK173.out 4).trans rfl, (blk_cell BK173.out 5).trans rfl, (blk_cell BK173.out 6).trans rfl, (blk_cell BK173.out 7).trans rfl, (blk_cell BK173.out 8).trans rfl⟩ (fun hHeld => ?_)
        clear hK K
        refine norm_ (a' := ?_) ?_ ?_
        rotate_left
        · show Act.put _ (some 57) _ = _
          simp only [Act.put, List.setIfInBounds_toArray, List.set_cons_zero, List.set_cons_succ, i64_w, i32_w]
          rfl
        refine pure_ (i := 32) (N := some 58) (v := ?_) (a' := ?_) #[true, true, true, true, true, true, true, true, true, true, true, true, true, true, true, true, true, true, true, true, true, true, true, true, true, true, true, true, true, true, true, true, true, false] rfl rfl (any_of HT_.out (by kernel_rfl)) (fun _ _ _ h => h) (Or.inl ⟨by rfl, ?_⟩) ?_ ?_
        rotate_left
        · intro w'
          go_simp
          with_reducible rfl
        rotate_left
        · simp only [Act.put, List.setIfInBounds_toArray, List.set_cons_zero, List.set_cons_succ, i64_w, i32_w]
          rfl
        refine one_ (i := 33) (N := none) #[true, true, true, true, true, true, true, true, true, true, true, true, true, true, true, true, true, true, true, true, true, true, true, true, true, true, true, true, true, true, true, true, true, true] rfl rfl (one_of HT_.out (by kernel_rfl)) (by decide) (fun K hK => ?_)
        have hs36 : w33.cell? ⟨gb174, 0, none⟩ = some (.int .i64 0) := (blk_cell BK174.out 0).trans rfl
        have hfs36 := blk_frozen BK174.out 0
        have hns36_0 := NB173_174.out
        have hms36_0 := NB174_173.out
        have hs37 : w33.cell? ⟨gb174, 1, none⟩ = some (.string (⟨#[]⟩ : ByteArray)) := (blk_cell BK174.out 1).trans rfl
        have hfs37 := blk_frozen BK174.out 1
        have hns37_0 := NB173_174.out
        have hms37_0 := NB174_173.out
        have hs38 : w33.cell? ⟨gb174, 2, none⟩ = some (.string (⟨#[]⟩ : ByteArray)) := (blk_cell BK174.out 2).trans rfl
        have hfs38 := blk_frozen BK174.out 2
        have hns38_0 := NB173_174.out
        have hms38_0 := NB174_173.out
        have hs39 : w33.cell? ⟨gb174, 3, none⟩ = some (.slice none 0 0) := (blk_cell BK174.out 3).trans rfl
        have hfs39 := blk_frozen BK174.out 3
        have hns39_0 := NB173_174.out
        have hms39_0 := NB174_173.out
        refine skip_ (w1 := ?_) (by rfl) rfl ?_ ?_
        rotate_left
        · go_simp
          rfl
        refine hK.out _ _ ⟨((cell_far (p := ⟨gb174, _, none⟩) NB173_174.out _).trans (((cell_far (p := ⟨gb174, _, none⟩) NB173_174.out _).trans (((cell_far (p := ⟨gb174, _, none⟩) NB173_174.out _).trans (((cell_far (p := ⟨gb174, _, none⟩) NB173_174.out _).trans (hHeld.1)))))))), ((cell_far (p := ⟨gb174, _, none⟩) NB173_174.out _).trans (((cell_far (p := ⟨gb174, _, none⟩) NB173_174.out _).trans (((cell_far (p := ⟨gb174, _, none⟩) NB173_174.out _).trans (((cell_far (p := ⟨gb174, _, none⟩) NB173_174.out _).trans (hHeld.2.1)))))))), ((cell_far (p := ⟨gb174, _, none⟩) NB173_174.out _).trans (((cell_far (p := ⟨gb174, _, none⟩) NB173_174.out _).trans (((cell_far (p := ⟨gb174, _, none⟩) NB173_174.out _).trans (((cell_far (p := ⟨gb174, _, none⟩) NB173_174.out _).trans (hHeld.2.2.1)))))))), ((cell_far (p := ⟨gb174, _, none⟩) NB173_174.out _).trans (((cell_far (p := ⟨gb174, _, none⟩) NB173_174.out _).trans (((cell_far (p := ⟨gb174, _, none⟩) NB173_174.out _).trans (((cell_far (p := ⟨gb174, _, none⟩) NB173_174.out _).trans (hHeld.2.2.2.1)))))))), ((cell_far (p := ⟨gb174, _, none⟩) NB173_174.out _).trans (((cell_far (p := ⟨gb174, _, none⟩) NB173_174.out _).trans (((cell_far (p := ⟨gb174, _, none⟩) NB173_174.out _).trans (((cell_far (p := ⟨gb174, _, none⟩) NB173_174.out _).trans (hHeld.2.2.2.2.1)))))))), ((cell_far (p := ⟨gb174, _, none⟩) NB173_174.out _).trans (((cell_far (p := ⟨gb174, _, none⟩) NB173_174.out _).trans (((cell_far (p := ⟨gb174, _, none⟩) NB173_174.out _).trans (((cell_far (p := ⟨gb174, _, none⟩) NB173_174.out _).trans (hHeld.2.2.2.2.2.1)))))))), ((cell_far (p := ⟨gb174, _, none⟩) NB173_174.out _).trans (((cell_far (p := ⟨gb174, _, none⟩) NB173_174.out _).trans (((cell_far (p := ⟨gb174, _, none⟩) NB173_174.out _).trans (((cell_far (p := ⟨gb174, _, none⟩) NB173_174.out _).trans (hHeld.2.2.2.2.2.2.1)))))))), ((cell_far (p := ⟨gb174, _, none⟩) NB173_174.out _).trans (((cell_far (p := ⟨gb174, _, none⟩) NB173_174.out _).trans (((cell_far (p := ⟨gb174, _, none⟩) NB173_174.out _).trans (((cell_far (p := ⟨gb174, _, none⟩) NB173_174.out _).trans (hHeld.2.2.2.2.2.2.2.1)))))))), ((cell_far (p := ⟨gb174, _, none⟩) NB173_174.out _).trans (((cell_far (p := ⟨gb174, _, none⟩) NB173_174.out _).trans (((cell_far (p := ⟨gb174, _, none⟩) NB173_174.out _).trans (((cell_far (p := ⟨gb174, _, none⟩) NB173_174.out _).trans (hHeld.2.2.2.2.2.2.2.2))))))))⟩ (fun hHeld => ?_)
        clear hK K
        refine done_ (done_of HT_.out (by kernel_rfl)) ?_
        try go_wp2
        refine bodyPost_ret (results_cell_row rfl _ _ gb174 29 #[.int .i64 3, .string a1, .string a0_0, .slice Ao35 y184.length co35] (0, 0) _ rfl (by (with_reducible repeat (first | refine blk_drewN ?_ _ | refine blk_drew ?_ | refine blk_alloc ?_ _)); refine blk_put (cs := #[.int .i64 3, .string a1, .string a0_0, .slice none 0 0]) ?_ 3 _ rfl; (with_reducible repeat (first | refine blk_drewN ?_ _ | refine blk_drew ?_ | refine blk_alloc ?_ _)); refine blk_put (cs := #[.int .i64 3, .string a1, .string (⟨#[]⟩ : ByteArray), .slice none 0 0]) ?_ 2 _ rfl; (with_reducible repeat (first | refine blk_drewN ?_ _ | refine blk_drew ?_ | refine blk_alloc ?_ _)); refine blk_put (cs := #[.int .i64 3, .string (⟨#[]⟩ : ByteArray), .string (⟨#[]⟩ : ByteArray), .slice none 0 0]) ?_ 1 _ rfl; (with_reducible repeat (first | refine blk_drewN ?_ _ | refine blk_drew ?_ | refine blk_alloc ?_ _)); refine blk_put (cs := #[.int .i64 0, .string (⟨#[]⟩ : ByteArray), .string (⟨#[]⟩ : ByteArray), .slice none 0 0]) ?_ 0 _ rfl; (with_reducible repeat (first | refine blk_drewN ?_ _ | refine blk_drew ?_ | refine blk_alloc ?_ _)); exact BK174.out) Tryd.underlying29 rfl (by kernel_rfl)) rfl ?_
        exact ⟨_, by first | rfl | (simp [errW_none, errW_some] <;> rfl) | (simp [*, errW_none, errW_some] <;> rfl), by (with_reducible repeat (first | apply Kd.R_alloc | apply Kd.R_drewN | apply Kd.R_drew)); exact Kd.R_mono (Kd.R_far (p := ⟨gb174, 3, none⟩) (Kd.R_far (p := ⟨gb174, 2, none⟩) (Kd.R_far (p := ⟨gb174, 1, none⟩) (Kd.R_far (p := ⟨gb174, 0, none⟩) (Kd.R_types HO186.out BK174.out (by decide)) (fun _ hk => hk.2) (.int .i64 3)) (fun _ hk => hk.2) (.string a1)) (fun _ hk => hk.2) (.string a0_0)) (fun _ hk => hk.2) (.slice Ao35 y184.length co35)) (fun _ hk => trivial), by repeat (first | (with_reducible first | exact HB.out | apply below_alloc | apply pw_below_drewN | apply below_drew1 | refine below_set ?_ GE173.out | refine below_set ?_ GE174.out) | exact HB.out)⟩

end Go.Proofs.YtkjcblbpeoijhaaDoor.G
