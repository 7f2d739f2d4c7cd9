-- Printed by a program of this session's (wip/lab) after the kit's print: Lean checks it.
import Derived.Test.YtkjcblbpeoijhaaDoorGx0
import Derived.Test.YtkjcblbpeoijhaaDoorGx1
import Derived.Test.YtkjcblbpeoijhaaDoorH5
import Derived.Test.YtkjcblbpeoijhaaDoorH6
import Derived.Test.YtkjcblbpeoijhaaDoorH7
import Derived.Test.YtkjcblbpeoijhaaDoorH8
import Derived.Test.YtkjcblbpeoijhaaDoorH9
import Derived.Test.YtkjcblbpeoijhaaDoorH10
import Derived.Test.YtkjcblbpeoijhaaDoorH11
import Derived.Test.YtkjcblbpeoijhaaDoorH12
import Derived.Test.YtkjcblbpeoijhaaDoorExtB
namespace Go.Proofs.YtkjcblbpeoijhaaDoor.G
open Go.Proofs.YtkjcblbpeoijhaaDoor.Ext
open Go.RowKit Go.Proofs.YtkjcblbpeoijhaaDoorW.PrintWords Go.Proofs.YtkjcblbpeoijhaaDoorW.PrintLast Go.Proofs.YtkjcblbpeoijhaaDoorW.PrintMore
attribute [local go_sem] max2_int min2_int max_two min_two max_three min_three max_four min_four   -- for this text's walks alone
set_option linter.unusedVariables false
set_option linter.unusedSimpArgs false

/-! ### supercargolaw42_PolicyPapers: function 3 -/
mutual
def supercargolaw42_PolicyPapers.j0 : Nat → ByteArray → Bool → ByteArray → ByteArray → ByteArray → Int → Int → List Int → Int → Int → Int → ByteArray → ByteArray → ByteArray → Int → Int → List Int → Int → Int → Int → Option (Bool)
  | 0, _, _, _, _, _, _, _, _, _, _, _, _, _, _, _, _, _, _, _, _ => none
  | k + 1, x2, x21, x188000, x188001, x188002, x188003, x188004, x188005, x188006, x188007, x188008, x189000, x189001, x189002, x189003, x189004, x189005, x189006, x189007, x189008 => if x21 = true then (some true) else ((policy_Doc.f k x188000 x188001 x188002 x188003 x188004 x188005 x188006 x188007 x188008 x2).bind fun bt192 => ((policy_Same.f k x188000 x188001 x188002 x188003 x188004 x188005 x188006 x188007 x188008 x189000 x189001 x189002 x189003 x189004 x189005 x189006 x189007 x189008).bind fun t200 => ((supercargoref42_Same.f k x188000 x188001 x188002 x188003 x188004 x188005 x188006 x188007 x188008 x189000 x189001 x189002 x189003 x189004 x189005 x189006 x189007 x189008).bind fun t201 => (if (t200 != t201) = true then (supercargolaw42_PolicyPapers.j1 k x2 bt192.2.2.2.2 true x188000 x188001 x188002 x188003 x188004 x188005 x188006 x188007 x188008 bt192.1 bt192.2.1 bt192.2.2.1 bt192.2.2.2.1) else ((policy_Same.f k x188000 x188001 x188002 x188003 x188004 x188005 x188006 x188007 x188008 x188000 x188001 x188002 x188003 x188004 x188005 x188006 x188007 x188008).bind fun t202 => (supercargolaw42_PolicyPapers.j1 k x2 bt192.2.2.2.2 (!t202) x188000 x188001 x188002 x188003 x188004 x188005 x188006 x188007 x188008 bt192.1 bt192.2.1 bt192.2.2.1 bt192.2.2.2.1))))))
def supercargolaw42_PolicyPapers.j1 : Nat → ByteArray → Int → Bool → ByteArray → ByteArray → ByteArray → Int → Int → List Int → Int → Int → Int → Int → ByteArray → ByteArray → List (S47) → Option (Bool)
  | 0, _, _, _, _, _, _, _, _, _, _, _, _, _, _, _, _ => none
  | k + 1, x2, x8, x40, x188000, x188001, x188002, x188003, x188004, x188005, x188006, x188007, x188008, x200000, x200001, x200002, x200003 => if x40 = true then (some false) else ((supercargoref42_May.f k x188000 x188001 x188002 x188003 x188004 x188005 x188006 x188007 x188008).bind fun t203 => (if t203 = true then ((supercargoref06_Name.f k x2).bind fun t204 => (supercargolaw42_PolicyPapers.j2 k x2 x8 (!t204) x188000 x188001 x188002 x188003 x188004 x188005 x188006 x188007 x188008 x200000 x200001 x200002 x200003)) else (supercargolaw42_PolicyPapers.j2 k x2 x8 true x188000 x188001 x188002 x188003 x188004 x188005 x188006 x188007 x188008 x200000 x200001 x200002 x200003)))
def supercargolaw42_PolicyPapers.j2 : Nat → ByteArray → Int → Bool → ByteArray → ByteArray → ByteArray → Int → Int → List Int → Int → Int → Int → Int → ByteArray → ByteArray → List (S47) → Option (Bool)
  | 0, _, _, _, _, _, _, _, _, _, _, _, _, _, _, _, _ => none
  | k + 1, x2, x8, x48, x188000, x188001, x188002, x188003, x188004, x188005, x188006, x188007, x188008, x200000, x200001, x200002, x200003 => if x48 = true then (if x8 = 1 then ((supercargoref42_Docs.f k x200000 x200001 x200002 x200003 0 (⟨#[]⟩ : ByteArray) (⟨#[]⟩ : ByteArray) ([] : List (S47))).bind fun t205 => (some t205)) else (some false)) else (if x8 = 0 then ((supercargoref42_Doc.f k x188000 x188001 x188002 x188003 x188004 x188005 x188006 x188007 x188008 x2).bind fun bt206 => ((supercargoref42_Docs.f k x200000 x200001 x200002 x200003 bt206.1 bt206.2.1 bt206.2.2.1 bt206.2.2.2).bind fun t212 => (some t212))) else (some false))
end
def supercargolaw42_PolicyPapers.f (k : Nat) (a0_0 : ByteArray) (a0_1 : ByteArray) (a0_2 : ByteArray) (a0_3 : Int) (a0_4 : Int) (l0_5 : List Int) (a0_6 : Int) (a0_7 : Int) (a0_8 : Int) (a1_0 : ByteArray) (a1_1 : ByteArray) (a1_2 : ByteArray) (a1_3 : Int) (a1_4 : Int) (l1_5 : List Int) (a1_6 : Int) (a1_7 : Int) (a1_8 : Int) (a2 : ByteArray) : Option (Bool) := (supercargolaw42_awake.f).bind fun t189 => (if t189 = true then ((supercargoref42_Long.f a0_0 a0_1 a0_2 a0_3 a0_4 l0_5 a0_6 a0_7 a0_8).bind fun t190 => (if t190 = true then (supercargolaw42_PolicyPapers.j0 k a2 true a0_0 a0_1 a0_2 a0_3 a0_4 l0_5 a0_6 a0_7 a0_8 a1_0 a1_1 a1_2 a1_3 a1_4 l1_5 a1_6 a1_7 a1_8) else ((supercargoref42_Long.f a1_0 a1_1 a1_2 a1_3 a1_4 l1_5 a1_6 a1_7 a1_8).bind fun t191 => (if t191 = true then (supercargolaw42_PolicyPapers.j0 k a2 true a0_0 a0_1 a0_2 a0_3 a0_4 l0_5 a0_6 a0_7 a0_8 a1_0 a1_1 a1_2 a1_3 a1_4 l1_5 a1_6 a1_7 a1_8) else (supercargolaw42_PolicyPapers.j0 k a2 (decide ((a2.size : Int) > 100)) a0_0 a0_1 a0_2 a0_3 a0_4 l0_5 a0_6 a0_7 a0_8 a1_0 a1_1 a1_2 a1_3 a1_4 l1_5 a1_6 a1_7 a1_8))))) else (some false))
def supercargolaw42_PolicyPapers.T6 : Bool × List (List Nat × List Nat) := (true, [([], []), ([], []), ([0, 1], [0, 1]), ([], []), ([], []), ([3, 4, 2], [3, 4]), ([2, 5], [2, 5]), ([6, 5], [6]), ([7], [7]), ([7], [7]), ([8, 9, 7, 7], [7, 8, 9]), ([10, 7], [7, 10]), ([7, 11], [7, 11])])
def supercargolaw42_PolicyPapers.B6 : List Nat := [0, 0, 3, 0, 0, 31, 63, 127, 255, 255, 1023, 2047, 4095]
theorem supercargolaw42_PolicyPapers.tab6 : rtab .any (opsOf Tryd.f3 6) = supercargolaw42_PolicyPapers.T6 := by kernel_rfl
theorem supercargolaw42_PolicyPapers.bits6 : waitsOk supercargolaw42_PolicyPapers.T6.2 supercargolaw42_PolicyPapers.B6 = true := by kernel_rfl
def supercargolaw42_PolicyPapers.T10 : Bool × List (List Nat × List Nat) := (true, [([], []), ([0], [0]), ([1], [1]), ([2], [2]), ([2], [2]), ([2], [2]), ([4, 5, 2, 2], [2, 4, 5]), ([3, 6, 6, 2], [2, 3, 6]), ([2, 7], [2, 7]), ([8, 7, 0, 1, 2, 3, 4, 5, 6, 7, 8], [8])])
def supercargolaw42_PolicyPapers.B10 : List Nat := [0, 1, 3, 7, 7, 7, 55, 127, 255, 511]
theorem supercargolaw42_PolicyPapers.tab10 : rtab .any (opsOf Tryd.f3 10) = supercargolaw42_PolicyPapers.T10 := by kernel_rfl
theorem supercargolaw42_PolicyPapers.bits10 : waitsOk supercargolaw42_PolicyPapers.T10.2 supercargolaw42_PolicyPapers.B10 = true := by kernel_rfl
set_option maxHeartbeats 8000000 in
set_option maxRecDepth 100000 in
theorem supercargolaw42_PolicyPapers.calls (k : Nat) (a0_0 : ByteArray) (a0_1 : ByteArray) (a0_2 : ByteArray) (a0_3 : Int) (a0_4 : Int) (A0_5 : Option Addr) (c0_5 : Nat) (l0_5 : List Int) (a0_6 : Int) (a0_7 : Int) (a0_8 : Int) (a1_0 : ByteArray) (a1_1 : ByteArray) (a1_2 : ByteArray) (a1_3 : Int) (a1_4 : Int) (A1_5 : Option Addr) (c1_5 : Nat) (l1_5 : List Int) (a1_6 : Int) (a1_7 : Int) (a1_8 : Int) (a2 : ByteArray) (r : Bool) (w : World) (hG : Gl w) (hr0_5 : Kd.C (Kd.int .i64) w A0_5 l0_5.length l0_5) (hc0_5 : l0_5.length ≤ c0_5) (hr1_5 : Kd.C (Kd.int .i64) w A1_5 l1_5.length l1_5) (hc1_5 : l1_5.length ≤ c1_5) (h : supercargolaw42_PolicyPapers.f k a0_0 a0_1 a0_2 a0_3 a0_4 l0_5 a0_6 a0_7 a0_8 a1_0 a1_1 a1_2 a1_3 a1_4 l1_5 a1_6 a1_7 a1_8 a2 = some r) :
    Calls Tryd.prog 3 #[.agg #[.string a0_0, .string a0_1, .string a0_2, .int .i64 a0_3, .int .i64 a0_4, .slice A0_5 l0_5.length c0_5, .int .i64 a0_6, .int .i64 a0_7, .int .i64 a0_8], .agg #[.string a1_0, .string a1_1, .string a1_2, .int .i64 a1_3, .int .i64 a1_4, .slice A1_5 l1_5.length c1_5, .int .i64 a1_6, .int .i64 a1_7, .int .i64 a1_8], .string a2] w fun e w' => e = .returned (.bool r) ∧ Below w.heap.size w w' := by
  have hu24 := Tryd.underlying24
  have hu29 := Tryd.underlying29
  have HR0_5 := Aside0.mk hr0_5
  have HC0_5 := Aside0.mk hc0_5
  clear hr0_5 hc0_5
  have HR1_5 := Aside0.mk hr1_5
  have HC1_5 := Aside0.mk hc1_5
  clear hr1_5 hc1_5
  have HB := Aside0.mk (Below.refl w.heap.size w)
  have H : ((supercargolaw42_awake.f).bind fun t189 => (if t189 = true then ((supercargoref42_Long.f a0_0 a0_1 a0_2 a0_3 a0_4 l0_5 a0_6 a0_7 a0_8).bind fun t190 => (if t190 = true then (supercargolaw42_PolicyPapers.j0 k a2 true a0_0 a0_1 a0_2 a0_3 a0_4 l0_5 a0_6 a0_7 a0_8 a1_0 a1_1 a1_2 a1_3 a1_4 l1_5 a1_6 a1_7 a1_8) else ((supercargoref42_Long.f a1_0 a1_1 a1_2 a1_3 a1_4 l1_5 a1_6 a1_7 a1_8).bind fun t191 => (if t191 = true then (supercargolaw42_PolicyPapers.j0 k a2 true a0_0 a0_1 a0_2 a0_3 a0_4 l0_5 a0_6 a0_7 a0_8 a1_0 a1_1 a1_2 a1_3 a1_4 l1_5 a1_6 a1_7 a1_8) else (supercargolaw42_PolicyPapers.j0 k a2 (decide ((a2.size : Int) > 100)) a0_0 a0_1 a0_2 a0_3 a0_4 l0_5 a0_6 a0_7 a0_8 a1_0 a1_1 a1_2 a1_3 a1_4 l1_5 a1_6 a1_7 a1_8))))) else (some false))) = some r := h
  clear h
  replace H := Option.bind_eq_some_iff.mp H
  obtain ⟨t189, A40, H⟩ := H
  replace H : (if t189 = true then ((supercargoref42_Long.f a0_0 a0_1 a0_2 a0_3 a0_4 l0_5 a0_6 a0_7 a0_8).bind fun t190 => (if t190 = true then (supercargolaw42_PolicyPapers.j0 k a2 true a0_0 a0_1 a0_2 a0_3 a0_4 l0_5 a0_6 a0_7 a0_8 a1_0 a1_1 a1_2 a1_3 a1_4 l1_5 a1_6 a1_7 a1_8) else ((supercargoref42_Long.f a1_0 a1_1 a1_2 a1_3 a1_4 l1_5 a1_6 a1_7 a1_8).bind fun t191 => (if t191 = true then (supercargolaw42_PolicyPapers.j0 k a2 true a0_0 a0_1 a0_2 a0_3 a0_4 l0_5 a0_6 a0_7 a0_8 a1_0 a1_1 a1_2 a1_3 a1_4 l1_5 a1_6 a1_7 a1_8) else (supercargolaw42_PolicyPapers.j0 k a2 (decide ((a2.size : Int) > 100)) a0_0 a0_1 a0_2 a0_3 a0_4 l0_5 a0_6 a0_7 a0_8 a1_0 a1_1 a1_2 a1_3 a1_4 l1_5 a1_6 a1_7 a1_8))))) else (some false)) = some r := H
  have A4 := Aside0.mk A40
  clear A40
  by_cases c5 : t189 = true
  · subst c5
    have H1 : ((supercargoref42_Long.f a0_0 a0_1 a0_2 a0_3 a0_4 l0_5 a0_6 a0_7 a0_8).bind fun t190 => (if t190 = true then (supercargolaw42_PolicyPapers.j0 k a2 true a0_0 a0_1 a0_2 a0_3 a0_4 l0_5 a0_6 a0_7 a0_8 a1_0 a1_1 a1_2 a1_3 a1_4 l1_5 a1_6 a1_7 a1_8) else ((supercargoref42_Long.f a1_0 a1_1 a1_2 a1_3 a1_4 l1_5 a1_6 a1_7 a1_8).bind fun t191 => (if t191 = true then (supercargolaw42_PolicyPapers.j0 k a2 true a0_0 a0_1 a0_2 a0_3 a0_4 l0_5 a0_6 a0_7 a0_8 a1_0 a1_1 a1_2 a1_3 a1_4 l1_5 a1_6 a1_7 a1_8) else (supercargolaw42_PolicyPapers.j0 k a2 (decide ((a2.size : Int) > 100)) a0_0 a0_1 a0_2 a0_3 a0_4 l0_5 a0_6 a0_7 a0_8 a1_0 a1_1 a1_2 a1_3 a1_4 l1_5 a1_6 a1_7 a1_8))))) = some r := by rw [if_pos rfl] at H; exact H
    clear H
    have H := H1
    clear H1
    have HC6 := Aside0.mk H
    clear H
    go_enter Tryd.func3, Tryd.ntmps3
    go_upto_region 3 with (first | ((with_reducible refine gate_dst (N := 3) rfl ?_); (try (refine gate_guard (by rfl) ?_; dsimp only)); refine box_event ?hg (N := 3) ?hd (cs := #[.string a0_0, .string a0_1, .string a0_2, .int .i64 a0_3, .int .i64 a0_4, .slice A0_5 l0_5.length c0_5, .int .i64 a0_6, .int .i64 a0_7, .int .i64 a0_8]) (t := 24) ?hr ?_; (case hd => rfl); (case hg => rfl); (case hr => first | (go_simp; done) | (go_simp; rfl)); intro gb187 hg w7 hbox hb; have n0_ := Aside0.mk (below_step (by repeat (first | (with_reducible first | exact HB.out | apply below_alloc | apply pw_below_drewN | apply below_drew1) | exact HB.out)) hb); have n1_ := Aside0.mk (hbox); have n2_ := Aside0.mk ((by rw [hg]; exact (below_size (by repeat (first | (with_reducible first | exact HB.out | apply below_alloc | apply pw_below_drewN | apply below_drew1) | exact HB.out))) : w.heap.size ≤ gb187)); have n3_ := Aside0.mk ((by rw [hg]; exact (below_size (by repeat (first | (with_reducible first | exact HB.out | apply below_alloc | apply pw_below_drewN | apply below_drew1) | exact HB.out))) : w.heap.size ≤ gb187)); clear HB; have HB := n0_; have BK187 := n1_; have GW187 := n2_; have GE187 := n3_; clear n0_ n1_ n2_ n3_; clear hb hbox hg) | ((with_reducible refine gate_dst (N := 4) rfl ?_); (try (refine gate_guard (by rfl) ?_; dsimp only)); refine box_event ?hg (N := 4) ?hd (cs := #[.string a1_0, .string a1_1, .string a1_2, .int .i64 a1_3, .int .i64 a1_4, .slice A1_5 l1_5.length c1_5, .int .i64 a1_6, .int .i64 a1_7, .int .i64 a1_8]) (t := 24) ?hr ?_; (case hd => rfl); (case hg => rfl); (case hr => first | (go_simp; done) | (go_simp; rfl)); intro gb188 hg w8 hbox hb; have n0_ := Aside0.mk (blk_below (g := gb187) (o := .cells #[.string a0_0, .string a0_1, .string a0_2, .int .i64 a0_3, .int .i64 a0_4, .slice A0_5 l0_5.length c0_5, .int .i64 a0_6, .int .i64 a0_7, .int .i64 a0_8] 24 (0, 0)) (by (with_reducible repeat (first | refine blk_drewN ?_ _ | refine blk_drew ?_ | refine blk_alloc ?_ _)); exact BK187.out) hb); have n1_ := Aside0.mk (below_step (by repeat (first | (with_reducible first | exact HB.out | apply below_alloc | apply pw_below_drewN | apply below_drew1 | refine below_set ?_ GE187.out) | exact HB.out)) hb); have n2_ := Aside0.mk (hbox); have n3_ := Aside0.mk ((by rw [hg]; exact (below_size (by repeat (first | (with_reducible first | exact HB.out | apply below_alloc | apply pw_below_drewN | apply below_drew1 | refine below_set ?_ GE187.out) | exact HB.out))) : w.heap.size ≤ gb188)); have n4_ := Aside0.mk ((by rw [hg]; exact (below_size (by repeat (first | (with_reducible first | exact HB.out | apply below_alloc | apply pw_below_drewN | apply below_drew1 | refine below_set ?_ GE187.out) | exact HB.out))) : w.heap.size ≤ gb188)); have n5_ := Aside0.mk ((by rw [hg]; exact Nat.ne_of_lt (blk_lt (g := gb187) (o := .cells #[.string a0_0, .string a0_1, .string a0_2, .int .i64 a0_3, .int .i64 a0_4, .slice A0_5 l0_5.length c0_5, .int .i64 a0_6, .int .i64 a0_7, .int .i64 a0_8] 24 (0, 0)) (by (with_reducible repeat (first | refine blk_drewN ?_ _ | refine blk_drew ?_ | refine blk_alloc ?_ _)); exact BK187.out)) : gb187 ≠ gb188)); have n6_ := Aside0.mk ((by rw [hg]; exact Nat.ne_of_gt (blk_lt (g := gb187) (o := .cells #[.string a0_0, .string a0_1, .string a0_2, .int .i64 a0_3, .int .i64 a0_4, .slice A0_5 l0_5.length c0_5, .int .i64 a0_6, .int .i64 a0_7, .int .i64 a0_8] 24 (0, 0)) (by (with_reducible repeat (first | refine blk_drewN ?_ _ | refine blk_drew ?_ | refine blk_alloc ?_ _)); exact BK187.out)) : gb188 ≠ gb187)); clear BK187; clear HB; have BK187 := n0_; have HB := n1_; have BK188 := n2_; have GW188 := n3_; have GE188 := n4_; have NB187_188 := n5_; have NB188_187 := n6_; clear n0_ n1_ n2_ n3_ n4_ n5_ n6_; clear hb hbox hg) | ((with_reducible refine gate_callee (f := 4) rfl ?_); refine goesL_ (some 9) rfl rfl Tryd.func4 (by kernel_rfl) rfl #[] rfl (by (try simp only [List.map_toArray, List.map_cons, List.map_nil]); first | done | rfl | (simp only [List.length_drop, List.length_take]; rfl)) ?_; (with_reducible refine (supercargolaw42_awake.calls  true _ A4.out).mono ?_); rintro e w9 ⟨rfl, hb⟩; refine ⟨_, rfl, ?_⟩; have n0_ := Aside0.mk (blk_below (g := gb187) (o := .cells #[.string a0_0, .string a0_1, .string a0_2, .int .i64 a0_3, .int .i64 a0_4, .slice A0_5 l0_5.length c0_5, .int .i64 a0_6, .int .i64 a0_7, .int .i64 a0_8] 24 (0, 0)) (by (with_reducible repeat (first | refine blk_drewN ?_ _ | refine blk_drew ?_ | refine blk_alloc ?_ _)); exact BK187.out) hb); have n1_ := Aside0.mk (blk_below (g := gb188) (o := .cells #[.string a1_0, .string a1_1, .string a1_2, .int .i64 a1_3, .int .i64 a1_4, .slice A1_5 l1_5.length c1_5, .int .i64 a1_6, .int .i64 a1_7, .int .i64 a1_8] 24 (0, 0)) (by (with_reducible repeat (first | refine blk_drewN ?_ _ | refine blk_drew ?_ | refine blk_alloc ?_ _)); exact BK188.out) hb); have n2_ := Aside0.mk (below_step (by repeat (first | (with_reducible first | exact HB.out | apply below_alloc | apply pw_below_drewN | apply below_drew1 | refine below_set ?_ GE187.out | refine below_set ?_ GE188.out) | exact HB.out)) hb); clear BK187; clear BK188; clear HB; have BK187 := n0_; have BK188 := n1_; have HB := n2_; clear n0_ n1_ n2_; (try clear hb); (try clear hb2); (try clear hk); (try clear hi)))
    (try simp only [Act.put, List.setIfInBounds_toArray, List.set_cons_zero, List.set_cons_succ])
    go_cut [21] (fun v21 wc => ∃ (kq : Nat) (x21_5 : Bool), v21 = .bool x21_5 ∧ Aside0 (supercargolaw42_PolicyPapers.j0 kq a2 x21_5 a0_0 a0_1 a0_2 a0_3 a0_4 l0_5 a0_6 a0_7 a0_8 a1_0 a1_1 a1_2 a1_3 a1_4 l1_5 a1_6 a1_7 a1_8 = some r) ∧ Aside0 (kq ≤ k) ∧ Aside0 (wc.heap[gb187]? = some (.cells #[.string a0_0, .string a0_1, .string a0_2, .int .i64 a0_3, .int .i64 a0_4, (.slice A0_5 l0_5.length c0_5), .int .i64 a0_6, .int .i64 a0_7, .int .i64 a0_8] 24 (0, 0))) ∧ Aside0 (wc.heap[gb188]? = some (.cells #[.string a1_0, .string a1_1, .string a1_2, .int .i64 a1_3, .int .i64 a1_4, (.slice A1_5 l1_5.length c1_5), .int .i64 a1_6, .int .i64 a1_7, .int .i64 a1_8] 24 (0, 0))) ∧ Aside0 (Below w.heap.size w wc))
    case first =>
      have H := HC6.out
      clear HC6
      replace H := Option.bind_eq_some_iff.mp H
      obtain ⟨t190, A100, H⟩ := H
      replace H : (if t190 = true then (supercargolaw42_PolicyPapers.j0 k a2 true a0_0 a0_1 a0_2 a0_3 a0_4 l0_5 a0_6 a0_7 a0_8 a1_0 a1_1 a1_2 a1_3 a1_4 l1_5 a1_6 a1_7 a1_8) else ((supercargoref42_Long.f a1_0 a1_1 a1_2 a1_3 a1_4 l1_5 a1_6 a1_7 a1_8).bind fun t191 => (if t191 = true then (supercargolaw42_PolicyPapers.j0 k a2 true a0_0 a0_1 a0_2 a0_3 a0_4 l0_5 a0_6 a0_7 a0_8 a1_0 a1_1 a1_2 a1_3 a1_4 l1_5 a1_6 a1_7 a1_8) else (supercargolaw42_PolicyPapers.j0 k a2 (decide ((a2.size : Int) > 100)) a0_0 a0_1 a0_2 a0_3 a0_4 l0_5 a0_6 a0_7 a0_8 a1_0 a1_1 a1_2 a1_3 a1_4 l1_5 a1_6 a1_7 a1_8)))) = some r := H
      have A10 := Aside0.mk A100
      clear A100
      by_cases c11 : t190 = true
      · subst c11
        have H1 : (supercargolaw42_PolicyPapers.j0 k a2 true a0_0 a0_1 a0_2 a0_3 a0_4 l0_5 a0_6 a0_7 a0_8 a1_0 a1_1 a1_2 a1_3 a1_4 l1_5 a1_6 a1_7 a1_8) = some r := by rw [if_pos rfl] at H; exact H
        clear H
        have H := H1
        clear H1
        have H' := Aside0.mk H
        clear H
        have hnb12 := NB187_188.out
        have hnc12 := NB188_187.out
        have hcz13_0 : w9.cell? ⟨gb187, 0, none⟩ = some (.string a0_0) := (blk_cell BK187.out 0).trans rfl
        have hcz13_1 : w9.cell? ⟨gb187, 1, none⟩ = some (.string a0_1) := (blk_cell BK187.out 1).trans rfl
        have hcz13_2 : w9.cell? ⟨gb187, 2, none⟩ = some (.string a0_2) := (blk_cell BK187.out 2).trans rfl
        have hcz13_3 : w9.cell? ⟨gb187, 3, none⟩ = some (.int .i64 a0_3) := (blk_cell BK187.out 3).trans rfl
        have hcz13_4 : w9.cell? ⟨gb187, 4, none⟩ = some (.int .i64 a0_4) := (blk_cell BK187.out 4).trans rfl
        have hcz13_5 : w9.cell? ⟨gb187, 5, none⟩ = some (.slice A0_5 l0_5.length c0_5) := (blk_cell BK187.out 5).trans rfl
        have hcz13_6 : w9.cell? ⟨gb187, 6, none⟩ = some (.int .i64 a0_6) := (blk_cell BK187.out 6).trans rfl
        have hcz13_7 : w9.cell? ⟨gb187, 7, none⟩ = some (.int .i64 a0_7) := (blk_cell BK187.out 7).trans rfl
        have hcz13_8 : w9.cell? ⟨gb187, 8, none⟩ = some (.int .i64 a0_8) := (blk_cell BK187.out 8).trans rfl
        have hfz13_0 := blk_frozen BK187.out 0
        have hfz13_1 := blk_frozen BK187.out 1
        have hfz13_2 := blk_frozen BK187.out 2
        have hfz13_3 := blk_frozen BK187.out 3
        have hfz13_4 := blk_frozen BK187.out 4
        have hfz13_5 := blk_frozen BK187.out 5
        have hfz13_6 := blk_frozen BK187.out 6
        have hfz13_7 := blk_frozen BK187.out 7
        have hfz13_8 := blk_frozen BK187.out 8
        go_wp2_with (first | ((with_reducible refine gate_callee (f := 5) rfl ?_); refine goesL_ (some 12) rfl rfl Tryd.func5 (by kernel_rfl) rfl #[.agg #[.string a0_0, .string a0_1, .string a0_2, .int .i64 a0_3, .int .i64 a0_4, .slice A0_5 l0_5.length c0_5, .int .i64 a0_6, .int .i64 a0_7, .int .i64 a0_8]] rfl (by (try simp only [List.map_toArray, List.map_cons, List.map_nil]); first | done | rfl | (simp only [List.length_drop, List.length_take]; rfl)) ?_; (with_reducible refine (supercargoref42_Long.calls a0_0 a0_1 a0_2 a0_3 a0_4 _ _ l0_5 a0_6 a0_7 a0_8 true _ ?side1 ?side2 A10.out).mono ?_); (case side1 => repeat (first | exact (Kd.C_below HR0_5.out HB.out) | (with_reducible refine Kd.C_alloc ?_ _) | (with_reducible refine Kd.C_drewN ?_ _) | (with_reducible refine Kd.C_drew ?_))); (case side2 => exact HC0_5.out); rintro e w14 ⟨rfl, hb⟩; refine ⟨_, rfl, ?_⟩; have n0_ := Aside0.mk (blk_below (g := gb187) (o := .cells #[.string a0_0, .string a0_1, .string a0_2, .int .i64 a0_3, .int .i64 a0_4, .slice A0_5 l0_5.length c0_5, .int .i64 a0_6, .int .i64 a0_7, .int .i64 a0_8] 24 (0, 0)) (by (with_reducible repeat (first | refine blk_drewN ?_ _ | refine blk_drew ?_ | refine blk_alloc ?_ _)); exact BK187.out) hb); have n1_ := Aside0.mk (blk_below (g := gb188) (o := .cells #[.string a1_0, .string a1_1, .string a1_2, .int .i64 a1_3, .int .i64 a1_4, .slice A1_5 l1_5.length c1_5, .int .i64 a1_6, .int .i64 a1_7, .int .i64 a1_8] 24 (0, 0)) (by (with_reducible repeat (first | refine blk_drewN ?_ _ | refine blk_drew ?_ | refine blk_alloc ?_ _)); exact BK188.out) hb); have n2_ := Aside0.mk (below_step (by repeat (first | (with_reducible first | exact HB.out | apply below_alloc | apply pw_below_drewN | apply below_drew1 | refine below_set ?_ GE187.out | refine below_set ?_ GE188.out) | exact HB.out)) hb); clear BK187; clear BK188; clear HB; have BK187 := n0_; have BK188 := n1_; have HB := n2_; clear n0_ n1_ n2_; (try clear hb); (try clear hb2); (try clear hk); (try clear hi)))
        go_meet
        case rel => exact ⟨_, (true), (by first | rfl | (simp; done) | (simp [*]; done)), H', ⟨by first | omega | exact Nat.le_refl _⟩, ⟨by (with_reducible repeat (first | refine blk_drewN ?_ _ | refine blk_drew ?_ | refine blk_alloc ?_ _)); exact BK187.out⟩, ⟨by (with_reducible repeat (first | refine blk_drewN ?_ _ | refine blk_drew ?_ | refine blk_alloc ?_ _)); exact BK188.out⟩, ⟨by repeat (first | (with_reducible first | exact HB.out | apply below_alloc | apply pw_below_drewN | apply below_drew1 | refine below_set ?_ GE187.out | refine below_set ?_ GE188.out) | exact HB.out)⟩⟩
      · replace c11 := Bool.eq_false_iff.mpr c11
        subst c11
        have H1 : ((supercargoref42_Long.f a1_0 a1_1 a1_2 a1_3 a1_4 l1_5 a1_6 a1_7 a1_8).bind fun t191 => (if t191 = true then (supercargolaw42_PolicyPapers.j0 k a2 true a0_0 a0_1 a0_2 a0_3 a0_4 l0_5 a0_6 a0_7 a0_8 a1_0 a1_1 a1_2 a1_3 a1_4 l1_5 a1_6 a1_7 a1_8) else (supercargolaw42_PolicyPapers.j0 k a2 (decide ((a2.size : Int) > 100)) a0_0 a0_1 a0_2 a0_3 a0_4 l0_5 a0_6 a0_7 a0_8 a1_0 a1_1 a1_2 a1_3 a1_4 l1_5 a1_6 a1_7 a1_8))) = some r := by rw [if_neg (show ¬ (false = true) by decide)] at H; exact H
        clear H
        have H := H1
        clear H1
        replace H := Option.bind_eq_some_iff.mp H
        obtain ⟨t191, A150, H⟩ := H
        replace H : (if t191 = true then (supercargolaw42_PolicyPapers.j0 k a2 true a0_0 a0_1 a0_2 a0_3 a0_4 l0_5 a0_6 a0_7 a0_8 a1_0 a1_1 a1_2 a1_3 a1_4 l1_5 a1_6 a1_7 a1_8) else (supercargolaw42_PolicyPapers.j0 k a2 (decide ((a2.size : Int) > 100)) a0_0 a0_1 a0_2 a0_3 a0_4 l0_5 a0_6 a0_7 a0_8 a1_0 a1_1 a1_2 a1_3 a1_4 l1_5 a1_6 a1_7 a1_8)) = some r := H
        have A15 := Aside0.mk A150
        clear A150
        by_cases c16 : t191 = true
        · subst c16
          have H1 : (supercargolaw42_PolicyPapers.j0 k a2 true a0_0 a0_1 a0_2 a0_3 a0_4 l0_5 a0_6 a0_7 a0_8 a1_0 a1_1 a1_2 a1_3 a1_4 l1_5 a1_6 a1_7 a1_8) = some r := by rw [if_pos rfl] at H; exact H
          clear H
          have H := H1
          clear H1
          have H' := Aside0.mk H
          clear H
          have hnb17 := NB187_188.out
          have hnc17 := NB188_187.out
          have hcz18_0 : w9.cell? ⟨gb187, 0, none⟩ = some (.string a0_0) := (blk_cell BK187.out 0).trans rfl
          have hcz18_1 : w9.cell? ⟨gb187, 1, none⟩ = some (.string a0_1) := (blk_cell BK187.out 1).trans rfl
          have hcz18_2 : w9.cell? ⟨gb187, 2, none⟩ = some (.string a0_2) := (blk_cell BK187.out 2).trans rfl
          have hcz18_3 : w9.cell? ⟨gb187, 3, none⟩ = some (.int .i64 a0_3) := (blk_cell BK187.out 3).trans rfl
          have hcz18_4 : w9.cell? ⟨gb187, 4, none⟩ = some (.int .i64 a0_4) := (blk_cell BK187.out 4).trans rfl
          have hcz18_5 : w9.cell? ⟨gb187, 5, none⟩ = some (.slice A0_5 l0_5.length c0_5) := (blk_cell BK187.out 5).trans rfl
          have hcz18_6 : w9.cell? ⟨gb187, 6, none⟩ = some (.int .i64 a0_6) := (blk_cell BK187.out 6).trans rfl
          have hcz18_7 : w9.cell? ⟨gb187, 7, none⟩ = some (.int .i64 a0_7) := (blk_cell BK187.out 7).trans rfl
          have hcz18_8 : w9.cell? ⟨gb187, 8, none⟩ = some (.int .i64 a0_8) := (blk_cell BK187.out 8).trans rfl
          have hfz18_0 := blk_frozen BK187.out 0
          have hfz18_1 := blk_frozen BK187.out 1
          have hfz18_2 := blk_frozen BK187.out 2
          have hfz18_3 := blk_frozen BK187.out 3
          have hfz18_4 := blk_frozen BK187.out 4
          have hfz18_5 := blk_frozen BK187.out 5
          have hfz18_6 := blk_frozen BK187.out 6
          have hfz18_7 := blk_frozen BK187.out 7
          have hfz18_8 := blk_frozen BK187.out 8
          go_wp2_with (first | ((with_reducible refine gate_callee (f := 5) rfl ?_); refine goesL_ (some 12) rfl rfl Tryd.func5 (by kernel_rfl) rfl #[.agg #[.string a0_0, .string a0_1, .string a0_2, .int .i64 a0_3, .int .i64 a0_4, .slice A0_5 l0_5.length c0_5, .int .i64 a0_6, .int .i64 a0_7, .int .i64 a0_8]] rfl (by (try simp only [List.map_toArray, List.map_cons, List.map_nil]); first | done | rfl | (simp only [List.length_drop, List.length_take]; rfl)) ?_; (with_reducible refine (supercargoref42_Long.calls a0_0 a0_1 a0_2 a0_3 a0_4 _ _ l0_5 a0_6 a0_7 a0_8 false _ ?side1 ?side2 A10.out).mono ?_); (case side1 => repeat (first | exact (Kd.C_below HR0_5.out HB.out) | (with_reducible refine Kd.C_alloc ?_ _) | (with_reducible refine Kd.C_drewN ?_ _) | (with_reducible refine Kd.C_drew ?_))); (case side2 => exact HC0_5.out); rintro e w19 ⟨rfl, hb⟩; refine ⟨_, rfl, ?_⟩; have n0_ := Aside0.mk (blk_below (g := gb187) (o := .cells #[.string a0_0, .string a0_1, .string a0_2, .int .i64 a0_3, .int .i64 a0_4, .slice A0_5 l0_5.length c0_5, .int .i64 a0_6, .int .i64 a0_7, .int .i64 a0_8] 24 (0, 0)) (by (with_reducible repeat (first | refine blk_drewN ?_ _ | refine blk_drew ?_ | refine blk_alloc ?_ _)); exact BK187.out) hb); have n1_ := Aside0.mk (blk_below (g := gb188) (o := .cells #[.string a1_0, .string a1_1, .string a1_2, .int .i64 a1_3, .int .i64 a1_4, .slice A1_5 l1_5.length c1_5, .int .i64 a1_6, .int .i64 a1_7, .int .i64 a1_8] 24 (0, 0)) (by (with_reducible repeat (first | refine blk_drewN ?_ _ | refine blk_drew ?_ | refine blk_alloc ?_ _)); exact BK188.out) hb); have n2_ := Aside0.mk (below_step (by repeat (first | (with_reducible first | exact HB.out | apply below_alloc | apply pw_below_drewN | apply below_drew1 | refine below_set ?_ GE187.out | refine below_set ?_ GE188.out) | exact HB.out)) hb); clear BK187; clear BK188; clear HB; have BK187 := n0_; have BK188 := n1_; have HB := n2_; clear n0_ n1_ n2_; (try clear hb); (try clear hb2); (try clear hk); (try clear hi); have hcz20_0 : w19.cell? ⟨gb188, 0, none⟩ = some (.string a1_0) := (blk_cell BK188.out 0).trans rfl; have hcz20_1 : w19.cell? ⟨gb188, 1, none⟩ = some (.string a1_1) := (blk_cell BK188.out 1).trans rfl; have hcz20_2 : w19.cell? ⟨gb188, 2, none⟩ = some (.string a1_2) := (blk_cell BK188.out 2).trans rfl; have hcz20_3 : w19.cell? ⟨gb188, 3, none⟩ = some (.int .i64 a1_3) := (blk_cell BK188.out 3).trans rfl; have hcz20_4 : w19.cell? ⟨gb188, 4, none⟩ = some (.int .i64 a1_4) := (blk_cell BK188.out 4).trans rfl; have hcz20_5 : w19.cell? ⟨gb188, 5, none⟩ = some (.slice A1_5 l1_5.length c1_5) := (blk_cell BK188.out 5).trans rfl; have hcz20_6 : w19.cell? ⟨gb188, 6, none⟩ = some (.int .i64 a1_6) := (blk_cell BK188.out 6).trans rfl; have hcz20_7 : w19.cell? ⟨gb188, 7, none⟩ = some (.int .i64 a1_7) := (blk_cell BK188.out 7).trans rfl; have hcz20_8 : w19.cell? ⟨gb188, 8, none⟩ = some (.int .i64 a1_8) := (blk_cell BK188.out 8).trans rfl; have hfz20_0 := blk_frozen BK188.out 0; have hfz20_1 := blk_frozen BK188.out 1; have hfz20_2 := blk_frozen BK188.out 2; have hfz20_3 := blk_frozen BK188.out 3; have hfz20_4 := blk_frozen BK188.out 4; have hfz20_5 := blk_frozen BK188.out 5; have hfz20_6 := blk_frozen BK188.out 6; have hfz20_7 := blk_frozen BK188.out 7; have hfz20_8 := blk_frozen BK188.out 8) | (go_at_call 5; (with_reducible refine (supercargoref42_Long.calls a1_0 a1_1 a1_2 a1_3 a1_4 _ _ l1_5 a1_6 a1_7 a1_8 true _ ?side1 ?side2 A15.out).mono ?_); (case side1 => repeat (first | exact (Kd.C_below HR1_5.out HB.out) | (with_reducible refine Kd.C_alloc ?_ _) | (with_reducible refine Kd.C_drewN ?_ _) | (with_reducible refine Kd.C_drew ?_))); (case side2 => exact HC1_5.out); rintro e w21 ⟨rfl, hb⟩; have n0_ := Aside0.mk (blk_below (g := gb187) (o := .cells #[.string a0_0, .string a0_1, .string a0_2, .int .i64 a0_3, .int .i64 a0_4, .slice A0_5 l0_5.length c0_5, .int .i64 a0_6, .int .i64 a0_7, .int .i64 a0_8] 24 (0, 0)) (by (with_reducible repeat (first | refine blk_drewN ?_ _ | refine blk_drew ?_ | refine blk_alloc ?_ _)); exact BK187.out) hb); have n1_ := Aside0.mk (blk_below (g := gb188) (o := .cells #[.string a1_0, .string a1_1, .string a1_2, .int .i64 a1_3, .int .i64 a1_4, .slice A1_5 l1_5.length c1_5, .int .i64 a1_6, .int .i64 a1_7, .int .i64 a1_8] 24 (0, 0)) (by (with_reducible repeat (first | refine blk_drewN ?_ _ | refine blk_drew ?_ | refine blk_alloc ?_ _)); exact BK188.out) hb); have n2_ := Aside0.mk (below_step (by repeat (first | (with_reducible first | exact HB.out | apply below_alloc | apply pw_below_drewN | apply below_drew1 | refine below_set ?_ GE187.out | refine below_set ?_ GE188.out) | exact HB.out)) hb); clear BK187; clear BK188; clear HB; have BK187 := n0_; have BK188 := n1_; have HB := n2_; clear n0_ n1_ n2_; (try clear hb); (try clear hb2); (try clear hk); (try clear hi)))
          go_meet
          case rel => exact ⟨_, (true), (by first | rfl | (simp; done) | (simp [*]; done)), H', ⟨by first | omega | exact Nat.le_refl _⟩, ⟨by (with_reducible repeat (first | refine blk_drewN ?_ _ | refine blk_drew ?_ | refine blk_alloc ?_ _)); exact BK187.out⟩, ⟨by (with_reducible repeat (first | refine blk_drewN ?_ _ | refine blk_drew ?_ | refine blk_alloc ?_ _)); exact BK188.out⟩, ⟨by repeat (first | (with_reducible first | exact HB.out | apply below_alloc | apply pw_below_drewN | apply below_drew1 | refine below_set ?_ GE187.out | refine below_set ?_ GE188.out) | exact HB.out)⟩⟩
        · replace c16 := Bool.eq_false_iff.mpr c16
          subst c16
          have H1 : (supercargolaw42_PolicyPapers.j0 k a2 (decide ((a2.size : Int) > 100)) a0_0 a0_1 a0_2 a0_3 a0_4 l0_5 a0_6 a0_7 a0_8 a1_0 a1_1 a1_2 a1_3 a1_4 l1_5 a1_6 a1_7 a1_8) = some r := by rw [if_neg (show ¬ (false = true) by decide)] at H; exact H
          clear H
          have H := H1
          clear H1
          have H' := Aside0.mk H
          clear H
          have hnb22 := NB187_188.out
          have hnc22 := NB188_187.out
          have hcz23_0 : w9.cell? ⟨gb187, 0, none⟩ = some (.string a0_0) := (blk_cell BK187.out 0).trans rfl
          have hcz23_1 : w9.cell? ⟨gb187, 1, none⟩ = some (.string a0_1) := (blk_cell BK187.out 1).trans rfl
          have hcz23_2 : w9.cell? ⟨gb187, 2, none⟩ = some (.string a0_2) := (blk_cell BK187.out 2).trans rfl
          have hcz23_3 : w9.cell? ⟨gb187, 3, none⟩ = some (.int .i64 a0_3) := (blk_cell BK187.out 3).trans rfl
          have hcz23_4 : w9.cell? ⟨gb187, 4, none⟩ = some (.int .i64 a0_4) := (blk_cell BK187.out 4).trans rfl
          have hcz23_5 : w9.cell? ⟨gb187, 5, none⟩ = some (.slice A0_5 l0_5.length c0_5) := (blk_cell BK187.out 5).trans rfl
          have hcz23_6 : w9.cell? ⟨gb187, 6, none⟩ = some (.int .i64 a0_6) := (blk_cell BK187.out 6).trans rfl
          have hcz23_7 : w9.cell? ⟨gb187, 7, none⟩ = some (.int .i64 a0_7) := (blk_cell BK187.out 7).trans rfl
          have hcz23_8 : w9.cell? ⟨gb187, 8, none⟩ = some (.int .i64 a0_8) := (blk_cell BK187.out 8).trans rfl
          have hfz23_0 := blk_frozen BK187.out 0
          have hfz23_1 := blk_frozen BK187.out 1
          have hfz23_2 := blk_frozen BK187.out 2
          have hfz23_3 := blk_frozen BK187.out 3
          have hfz23_4 := blk_frozen BK187.out 4
          have hfz23_5 := blk_frozen BK187.out 5
          have hfz23_6 := blk_frozen BK187.out 6
          have hfz23_7 := blk_frozen BK187.out 7
          have hfz23_8 := blk_frozen BK187.out 8
          go_wp2_with (first | ((with_reducible refine gate_callee (f := 5) rfl ?_); refine goesL_ (some 12) rfl rfl Tryd.func5 (by kernel_rfl) rfl #[.agg #[.string a0_0, .string a0_1, .string a0_2, .int .i64 a0_3, .int .i64 a0_4, .slice A0_5 l0_5.length c0_5, .int .i64 a0_6, .int .i64 a0_7, .int .i64 a0_8]] rfl (by (try simp only [List.map_toArray, List.map_cons, List.map_nil]); first | done | rfl | (simp only [List.length_drop, List.length_take]; rfl)) ?_; (with_reducible refine (supercargoref42_Long.calls a0_0 a0_1 a0_2 a0_3 a0_4 _ _ l0_5 a0_6 a0_7 a0_8 false _ ?side1 ?side2 A10.out).mono ?_); (case side1 => repeat (first | exact (Kd.C_below HR0_5.out HB.out) | (with_reducible refine Kd.C_alloc ?_ _) | (with_reducible refine Kd.C_drewN ?_ _) | (with_reducible refine Kd.C_drew ?_))); (case side2 => exact HC0_5.out); rintro e w24 ⟨rfl, hb⟩; refine ⟨_, rfl, ?_⟩; have n0_ := Aside0.mk (blk_below (g := gb187) (o := .cells #[.string a0_0, .string a0_1, .string a0_2, .int .i64 a0_3, .int .i64 a0_4, .slice A0_5 l0_5.length c0_5, .int .i64 a0_6, .int .i64 a0_7, .int .i64 a0_8] 24 (0, 0)) (by (with_reducible repeat (first | refine blk_drewN ?_ _ | refine blk_drew ?_ | refine blk_alloc ?_ _)); exact BK187.out) hb); have n1_ := Aside0.mk (blk_below (g := gb188) (o := .cells #[.string a1_0, .string a1_1, .string a1_2, .int .i64 a1_3, .int .i64 a1_4, .slice A1_5 l1_5.length c1_5, .int .i64 a1_6, .int .i64 a1_7, .int .i64 a1_8] 24 (0, 0)) (by (with_reducible repeat (first | refine blk_drewN ?_ _ | refine blk_drew ?_ | refine blk_alloc ?_ _)); exact BK188.out) hb); have n2_ := Aside0.mk (below_step (by repeat (first | (with_reducible first | exact HB.out | apply below_alloc | apply pw_below_drewN | apply below_drew1 | refine below_set ?_ GE187.out | refine below_set ?_ GE188.out) | exact HB.out)) hb); clear BK187; clear BK188; clear HB; have BK187 := n0_; have BK188 := n1_; have HB := n2_; clear n0_ n1_ n2_; (try clear hb); (try clear hb2); (try clear hk); (try clear hi); have hcz25_0 : w24.cell? ⟨gb188, 0, none⟩ = some (.string a1_0) := (blk_cell BK188.out 0).trans rfl; have hcz25_1 : w24.cell? ⟨gb188, 1, none⟩ = some (.string a1_1) := (blk_cell BK188.out 1).trans rfl; have hcz25_2 : w24.cell? ⟨gb188, 2, none⟩ = some (.string a1_2) := (blk_cell BK188.out 2).trans rfl; have hcz25_3 : w24.cell? ⟨gb188, 3, none⟩ = some (.int .i64 a1_3) := (blk_cell BK188.out 3).trans rfl; have hcz25_4 : w24.cell? ⟨gb188, 4, none⟩ = some (.int .i64 a1_4) := (blk_cell BK188.out 4).trans rfl; have hcz25_5 : w24.cell? ⟨gb188, 5, none⟩ = some (.slice A1_5 l1_5.length c1_5) := (blk_cell BK188.out 5).trans rfl; have hcz25_6 : w24.cell? ⟨gb188, 6, none⟩ = some (.int .i64 a1_6) := (blk_cell BK188.out 6).trans rfl; have hcz25_7 : w24.cell? ⟨gb188, 7, none⟩ = some (.int .i64 a1_7) := (blk_cell BK188.out 7).trans rfl; have hcz25_8 : w24.cell? ⟨gb188, 8, none⟩ = some (.int .i64 a1_8) := (blk_cell BK188.out 8).trans rfl; have hfz25_0 := blk_frozen BK188.out 0; have hfz25_1 := blk_frozen BK188.out 1; have hfz25_2 := blk_frozen BK188.out 2; have hfz25_3 := blk_frozen BK188.out 3; have hfz25_4 := blk_frozen BK188.out 4; have hfz25_5 := blk_frozen BK188.out 5; have hfz25_6 := blk_frozen BK188.out 6; have hfz25_7 := blk_frozen BK188.out 7; have hfz25_8 := blk_frozen BK188.out 8) | (go_at_call 5; (with_reducible refine (supercargoref42_Long.calls a1_0 a1_1 a1_2 a1_3 a1_4 _ _ l1_5 a1_6 a1_7 a1_8 false _ ?side1 ?side2 A15.out).mono ?_); (case side1 => repeat (first | exact (Kd.C_below HR1_5.out HB.out) | (with_reducible refine Kd.C_alloc ?_ _) | (with_reducible refine Kd.C_drewN ?_ _) | (with_reducible refine Kd.C_drew ?_))); (case side2 => exact HC1_5.out); rintro e w26 ⟨rfl, hb⟩; have n0_ := Aside0.mk (blk_below (g := gb187) (o := .cells #[.string a0_0, .string a0_1, .string a0_2, .int .i64 a0_3, .int .i64 a0_4, .slice A0_5 l0_5.length c0_5, .int .i64 a0_6, .int .i64 a0_7, .int .i64 a0_8] 24 (0, 0)) (by (with_reducible repeat (first | refine blk_drewN ?_ _ | refine blk_drew ?_ | refine blk_alloc ?_ _)); exact BK187.out) hb); have n1_ := Aside0.mk (blk_below (g := gb188) (o := .cells #[.string a1_0, .string a1_1, .string a1_2, .int .i64 a1_3, .int .i64 a1_4, .slice A1_5 l1_5.length c1_5, .int .i64 a1_6, .int .i64 a1_7, .int .i64 a1_8] 24 (0, 0)) (by (with_reducible repeat (first | refine blk_drewN ?_ _ | refine blk_drew ?_ | refine blk_alloc ?_ _)); exact BK188.out) hb); have n2_ := Aside0.mk (below_step (by repeat (first | (with_reducible first | exact HB.out | apply below_alloc | apply pw_below_drewN | apply below_drew1 | refine below_set ?_ GE187.out | refine below_set ?_ GE188.out) | exact HB.out)) hb); clear BK187; clear BK188; clear HB; have BK187 := n0_; have BK188 := n1_; have HB := n2_; clear n0_ n1_ n2_; (try clear hb); (try clear hb2); (try clear hk); (try clear hi)))
          go_meet
          case rel => exact ⟨_, (decide ((a2.size : Int) > 100)), (by first | rfl | (simp; done) | (simp [*]; done)), H', ⟨by first | omega | exact Nat.le_refl _⟩, ⟨by (with_reducible repeat (first | refine blk_drewN ?_ _ | refine blk_drew ?_ | refine blk_alloc ?_ _)); exact BK187.out⟩, ⟨by (with_reducible repeat (first | refine blk_drewN ?_ _ | refine blk_drew ?_ | refine blk_alloc ?_ _)); exact BK188.out⟩, ⟨by repeat (first | (with_reducible first | exact HB.out | apply below_alloc | apply pw_below_drewN | apply below_drew1 | refine below_set ?_ GE187.out | refine below_set ?_ GE188.out) | exact HB.out)⟩⟩
    case rest =>
      clear HC6
      try clear c1
      try clear c2
      try clear p2
      try clear c3
      try clear c4
      try clear c5
      try clear c11
      try clear c12
      try clear c16
      try clear c17
      try clear c22
      try clear hcz13_0
      try clear hcz13_1
      try clear hcz13_2
      try clear hcz13_3
      try clear hcz13_4
      try clear hcz13_5
      try clear hcz13_6
      try clear hcz13_7
      try clear hcz13_8
      try clear hcz18_0
      try clear hcz18_1
      try clear hcz18_2
      try clear hcz18_3
      try clear hcz18_4
      try clear hcz18_5
      try clear hcz18_6
      try clear hcz18_7
      try clear hcz18_8
      try clear hcz20_0
      try clear hcz20_1
      try clear hcz20_2
      try clear hcz20_3
      try clear hcz20_4
      try clear hcz20_5
      try clear hcz20_6
      try clear hcz20_7
      try clear hcz20_8
      try clear hcz23_0
      try clear hcz23_1
      try clear hcz23_2
      try clear hcz23_3
      try clear hcz23_4
      try clear hcz23_5
      try clear hcz23_6
      try clear hcz23_7
      try clear hcz23_8
      try clear hcz25_0
      try clear hcz25_1
      try clear hcz25_2
      try clear hcz25_3
      try clear hcz25_4
      try clear hcz25_5
      try clear hcz25_6
      try clear hcz25_7
      try clear hcz25_8
      try clear hfz13_0
      try clear hfz13_1
      try clear hfz13_2
      try clear hfz13_3
      try clear hfz13_4
      try clear hfz13_5
      try clear hfz13_6
      try clear hfz13_7
      try clear hfz13_8
      try clear hfz18_0
      try clear hfz18_1
      try clear hfz18_2
      try clear hfz18_3
      try clear hfz18_4
      try clear hfz18_5
      try clear hfz18_6
      try clear hfz18_7
      try clear hfz18_8
      try clear hfz20_0
      try clear hfz20_1
      try clear hfz20_2
      try clear hfz20_3
      try clear hfz20_4
      try clear hfz20_5
      try clear hfz20_6
      try clear hfz20_7
      try clear hfz20_8
      try clear hfz23_0
      try clear hfz23_1
      try clear hfz23_2
      try clear hfz23_3
      try clear hfz23_4
      try clear hfz23_5
      try clear hfz23_6
      try clear hfz23_7
      try clear hfz23_8
      try clear hfz25_0
      try clear hfz25_1
      try clear hfz25_2
      try clear hfz25_3
      try clear hfz25_4
      try clear hfz25_5
      try clear hfz25_6
      try clear hfz25_7
      try clear hfz25_8
      obtain ⟨kq, x21_5, rfl, HA, HJ5, BK187, BK188, HB⟩ := hcut
      cases kq with
      | zero => exact absurd HA.out (by simp [supercargolaw42_PolicyPapers.j0])
      | succ kj5 =>
        have H := HA.out
        clear HA
        simp only [supercargolaw42_PolicyPapers.j0] at H
        by_cases c27 : x21_5 = true
        · subst c27
          have H1 : (some true) = some r := by rw [if_pos rfl] at H; exact H
          clear H
          have H := H1
          clear H1
          obtain rfl := Option.some.inj H
          go_wp2
          go_ret
          exact ⟨by first | rfl | (simp [errW_none, errW_some] <;> rfl) | (simp [*, errW_none, errW_some] <;> rfl), by repeat (first | (with_reducible first | exact HB.out | apply below_alloc | apply pw_below_drewN | apply below_drew1 | refine below_set ?_ GE187.out | refine below_set ?_ GE188.out) | exact HB.out)⟩
        · replace c27 := Bool.eq_false_iff.mpr c27
          subst c27
          have H1 : ((policy_Doc.f kj5 a0_0 a0_1 a0_2 a0_3 a0_4 l0_5 a0_6 a0_7 a0_8 a2).bind fun bt192 => ((policy_Same.f kj5 a0_0 a0_1 a0_2 a0_3 a0_4 l0_5 a0_6 a0_7 a0_8 a1_0 a1_1 a1_2 a1_3 a1_4 l1_5 a1_6 a1_7 a1_8).bind fun t200 => ((supercargoref42_Same.f kj5 a0_0 a0_1 a0_2 a0_3 a0_4 l0_5 a0_6 a0_7 a0_8 a1_0 a1_1 a1_2 a1_3 a1_4 l1_5 a1_6 a1_7 a1_8).bind fun t201 => (if (t200 != t201) = true then (supercargolaw42_PolicyPapers.j1 kj5 a2 bt192.2.2.2.2 true a0_0 a0_1 a0_2 a0_3 a0_4 l0_5 a0_6 a0_7 a0_8 bt192.1 bt192.2.1 bt192.2.2.1 bt192.2.2.2.1) else ((policy_Same.f kj5 a0_0 a0_1 a0_2 a0_3 a0_4 l0_5 a0_6 a0_7 a0_8 a0_0 a0_1 a0_2 a0_3 a0_4 l0_5 a0_6 a0_7 a0_8).bind fun t202 => (supercargolaw42_PolicyPapers.j1 kj5 a2 bt192.2.2.2.2 (!t202) a0_0 a0_1 a0_2 a0_3 a0_4 l0_5 a0_6 a0_7 a0_8 bt192.1 bt192.2.1 bt192.2.2.1 bt192.2.2.2.1)))))) = some r := by rw [if_neg (show ¬ (false = true) by decide)] at H; exact H
          clear H
          have H := H1
          clear H1
          replace H := Option.bind_eq_some_iff.mp H
          obtain ⟨⟨t192, t193, t194, t195, t198⟩, A280, H⟩ := H
          replace H : ((policy_Same.f kj5 a0_0 a0_1 a0_2 a0_3 a0_4 l0_5 a0_6 a0_7 a0_8 a1_0 a1_1 a1_2 a1_3 a1_4 l1_5 a1_6 a1_7 a1_8).bind fun t200 => ((supercargoref42_Same.f kj5 a0_0 a0_1 a0_2 a0_3 a0_4 l0_5 a0_6 a0_7 a0_8 a1_0 a1_1 a1_2 a1_3 a1_4 l1_5 a1_6 a1_7 a1_8).bind fun t201 => (if (t200 != t201) = true then (supercargolaw42_PolicyPapers.j1 kj5 a2 t198 true a0_0 a0_1 a0_2 a0_3 a0_4 l0_5 a0_6 a0_7 a0_8 t192 t193 t194 t195) else ((policy_Same.f kj5 a0_0 a0_1 a0_2 a0_3 a0_4 l0_5 a0_6 a0_7 a0_8 a0_0 a0_1 a0_2 a0_3 a0_4 l0_5 a0_6 a0_7 a0_8).bind fun t202 => (supercargolaw42_PolicyPapers.j1 kj5 a2 t198 (!t202) a0_0 a0_1 a0_2 a0_3 a0_4 l0_5 a0_6 a0_7 a0_8 t192 t193 t194 t195))))) = some r := H
          have A28 := Aside0.mk A280
          clear A280
          have HC29 := Aside0.mk H
          clear H
          have hnb30 := NB187_188.out
          have hnc30 := NB188_187.out
          have hcz31_0 : wc.cell? ⟨gb187, 0, none⟩ = some (.string a0_0) := (blk_cell BK187.out 0).trans rfl
          have hcz31_1 : wc.cell? ⟨gb187, 1, none⟩ = some (.string a0_1) := (blk_cell BK187.out 1).trans rfl
          have hcz31_2 : wc.cell? ⟨gb187, 2, none⟩ = some (.string a0_2) := (blk_cell BK187.out 2).trans rfl
          have hcz31_3 : wc.cell? ⟨gb187, 3, none⟩ = some (.int .i64 a0_3) := (blk_cell BK187.out 3).trans rfl
          have hcz31_4 : wc.cell? ⟨gb187, 4, none⟩ = some (.int .i64 a0_4) := (blk_cell BK187.out 4).trans rfl
          have hcz31_5 : wc.cell? ⟨gb187, 5, none⟩ = some (.slice A0_5 l0_5.length c0_5) := (blk_cell BK187.out 5).trans rfl
          have hcz31_6 : wc.cell? ⟨gb187, 6, none⟩ = some (.int .i64 a0_6) := (blk_cell BK187.out 6).trans rfl
          have hcz31_7 : wc.cell? ⟨gb187, 7, none⟩ = some (.int .i64 a0_7) := (blk_cell BK187.out 7).trans rfl
          have hcz31_8 : wc.cell? ⟨gb187, 8, none⟩ = some (.int .i64 a0_8) := (blk_cell BK187.out 8).trans rfl
          have hfz31_0 := blk_frozen BK187.out 0
          have hfz31_1 := blk_frozen BK187.out 1
          have hfz31_2 := blk_frozen BK187.out 2
          have hfz31_3 := blk_frozen BK187.out 3
          have hfz31_4 := blk_frozen BK187.out 4
          have hfz31_5 := blk_frozen BK187.out 5
          have hfz31_6 := blk_frozen BK187.out 6
          have hfz31_7 := blk_frozen BK187.out 7
          have hfz31_8 := blk_frozen BK187.out 8
          go_upto_region 6 with (first | ((with_reducible refine gate_callee (f := 6) rfl ?_); refine goesL_ (some 25) rfl rfl Tryd.func6 (by kernel_rfl) rfl #[.agg #[.string a0_0, .string a0_1, .string a0_2, .int .i64 a0_3, .int .i64 a0_4, .slice A0_5 l0_5.length c0_5, .int .i64 a0_6, .int .i64 a0_7, .int .i64 a0_8], .string a2] rfl (by (try simp only [List.map_toArray, List.map_cons, List.map_nil]); first | done | rfl | (simp only [List.length_drop, List.length_take]; rfl)) ?_; (with_reducible refine (policy_Doc.calls kj5 a0_0 a0_1 a0_2 a0_3 a0_4 _ _ l0_5 a0_6 a0_7 a0_8 a2 t192 t193 t194 t195 t198 _ ?side3 ?side1 ?side2 A28.out).mono ?_); (case side1 => repeat (first | exact (Kd.C_below HR0_5.out HB.out) | (with_reducible refine Kd.C_alloc ?_ _) | (with_reducible refine Kd.C_drewN ?_ _) | (with_reducible refine Kd.C_drew ?_))); (case side2 => exact HC0_5.out); (case side3 => exact Gl.below hG (by repeat (first | (with_reducible first | exact HB.out | apply below_alloc | apply pw_below_drewN | apply below_drew1 | refine below_set ?_ GE187.out | refine below_set ?_ GE188.out) | exact HB.out))); rintro e w32 ⟨v196, rfl, ho0, hb⟩; refine ⟨_, rfl, ?_⟩; have n0_ := Aside0.mk (Kd.R_lower ho0 (below_size (by repeat (first | (with_reducible first | exact HB.out | apply below_alloc | apply pw_below_drewN | apply below_drew1 | refine below_set ?_ GE187.out | refine below_set ?_ GE188.out) | exact HB.out)))); have n1_ := Aside0.mk (blk_below (g := gb187) (o := .cells #[.string a0_0, .string a0_1, .string a0_2, .int .i64 a0_3, .int .i64 a0_4, .slice A0_5 l0_5.length c0_5, .int .i64 a0_6, .int .i64 a0_7, .int .i64 a0_8] 24 (0, 0)) (by (with_reducible repeat (first | refine blk_drewN ?_ _ | refine blk_drew ?_ | refine blk_alloc ?_ _)); exact BK187.out) hb); have n2_ := Aside0.mk (blk_below (g := gb188) (o := .cells #[.string a1_0, .string a1_1, .string a1_2, .int .i64 a1_3, .int .i64 a1_4, .slice A1_5 l1_5.length c1_5, .int .i64 a1_6, .int .i64 a1_7, .int .i64 a1_8] 24 (0, 0)) (by (with_reducible repeat (first | refine blk_drewN ?_ _ | refine blk_drew ?_ | refine blk_alloc ?_ _)); exact BK188.out) hb); have n3_ := Aside0.mk (below_step (by repeat (first | (with_reducible first | exact HB.out | apply below_alloc | apply pw_below_drewN | apply below_drew1 | refine below_set ?_ GE187.out | refine below_set ?_ GE188.out) | exact HB.out)) hb); clear BK187; clear BK188; clear HB; have HO197 := n0_; have BK187 := n1_; have BK188 := n2_; have HB := n3_; clear n0_ n1_ n2_ n3_; (try clear hb); (try clear hb2); (try clear hk); (try clear hi); (try clear ho0)) | ((with_reducible refine gate_dst (N := 7) rfl ?_); (try (refine gate_guard (by rfl) ?_; dsimp only)); refine box_event ?hg (N := 7) ?hd (cs := #[.int .i64 0, .string (⟨#[]⟩ : ByteArray), .string (⟨#[]⟩ : ByteArray), .slice none 0 0]) (t := 29) ?hr ?_; (case hd => rfl); (case hg => rfl); (case hr => first | (go_simp; done) | (go_simp; rfl)); intro gb199 hg w33 hbox hb; have n0_ := Aside0.mk (Kd.R_below (by (with_reducible repeat (first | apply Kd.R_alloc | apply Kd.R_drewN | apply Kd.R_drew)); exact HO197.out) hb); have n1_ := Aside0.mk (blk_below (g := gb187) (o := .cells #[.string a0_0, .string a0_1, .string a0_2, .int .i64 a0_3, .int .i64 a0_4, .slice A0_5 l0_5.length c0_5, .int .i64 a0_6, .int .i64 a0_7, .int .i64 a0_8] 24 (0, 0)) (by (with_reducible repeat (first | refine blk_drewN ?_ _ | refine blk_drew ?_ | refine blk_alloc ?_ _)); exact BK187.out) hb); have n2_ := Aside0.mk (blk_below (g := gb188) (o := .cells #[.string a1_0, .string a1_1, .string a1_2, .int .i64 a1_3, .int .i64 a1_4, .slice A1_5 l1_5.length c1_5, .int .i64 a1_6, .int .i64 a1_7, .int .i64 a1_8] 24 (0, 0)) (by (with_reducible repeat (first | refine blk_drewN ?_ _ | refine blk_drew ?_ | refine blk_alloc ?_ _)); exact BK188.out) hb); have n3_ := Aside0.mk (below_step (by repeat (first | (with_reducible first | exact HB.out | apply below_alloc | apply pw_below_drewN | apply below_drew1 | refine below_set ?_ GE187.out | refine below_set ?_ GE188.out) | exact HB.out)) hb); have n4_ := Aside0.mk (hbox); have n5_ := Aside0.mk ((by rw [hg]; exact (below_size (by repeat (first | (with_reducible first | exact HB.out | apply below_alloc | apply pw_below_drewN | apply below_drew1 | refine below_set ?_ GE187.out | refine below_set ?_ GE188.out) | exact HB.out))) : w.heap.size ≤ gb199)); have n6_ := Aside0.mk ((by rw [hg]; exact (below_size (by repeat (first | (with_reducible first | exact HB.out | apply below_alloc | apply pw_below_drewN | apply below_drew1 | refine below_set ?_ GE187.out | refine below_set ?_ GE188.out) | exact HB.out))) : w.heap.size ≤ gb199)); have n7_ := Aside0.mk ((by rw [hg]; exact Nat.ne_of_lt (blk_lt (g := gb187) (o := .cells #[.string a0_0, .string a0_1, .string a0_2, .int .i64 a0_3, .int .i64 a0_4, .slice A0_5 l0_5.length c0_5, .int .i64 a0_6, .int .i64 a0_7, .int .i64 a0_8] 24 (0, 0)) (by (with_reducible repeat (first | refine blk_drewN ?_ _ | refine blk_drew ?_ | refine blk_alloc ?_ _)); exact BK187.out)) : gb187 ≠ gb199)); have n8_ := Aside0.mk ((by rw [hg]; exact Nat.ne_of_gt (blk_lt (g := gb187) (o := .cells #[.string a0_0, .string a0_1, .string a0_2, .int .i64 a0_3, .int .i64 a0_4, .slice A0_5 l0_5.length c0_5, .int .i64 a0_6, .int .i64 a0_7, .int .i64 a0_8] 24 (0, 0)) (by (with_reducible repeat (first | refine blk_drewN ?_ _ | refine blk_drew ?_ | refine blk_alloc ?_ _)); exact BK187.out)) : gb199 ≠ gb187)); have n9_ := Aside0.mk ((by rw [hg]; exact Nat.ne_of_lt (blk_lt (g := gb188) (o := .cells #[.string a1_0, .string a1_1, .string a1_2, .int .i64 a1_3, .int .i64 a1_4, .slice A1_5 l1_5.length c1_5, .int .i64 a1_6, .int .i64 a1_7, .int .i64 a1_8] 24 (0, 0)) (by (with_reducible repeat (first | refine blk_drewN ?_ _ | refine blk_drew ?_ | refine blk_alloc ?_ _)); exact BK188.out)) : gb188 ≠ gb199)); have n10_ := Aside0.mk ((by rw [hg]; exact Nat.ne_of_gt (blk_lt (g := gb188) (o := .cells #[.string a1_0, .string a1_1, .string a1_2, .int .i64 a1_3, .int .i64 a1_4, .slice A1_5 l1_5.length c1_5, .int .i64 a1_6, .int .i64 a1_7, .int .i64 a1_8] 24 (0, 0)) (by (with_reducible repeat (first | refine blk_drewN ?_ _ | refine blk_drew ?_ | refine blk_alloc ?_ _)); exact BK188.out)) : gb199 ≠ gb188)); clear HO197; clear BK187; clear BK188; clear HB; have HO197 := n0_; have BK187 := n1_; have BK188 := n2_; have HB := n3_; have BK199 := n4_; have GW199 := n5_; have GE199 := n6_; have NB187_199 := n7_; have NB199_187 := n8_; have NB188_199 := n9_; have NB199_188 := n10_; clear n0_ n1_ n2_ n3_ n4_ n5_ n6_ n7_ n8_ n9_ n10_; clear hb hbox hg; have hnb34 := NB199_187.out; have hnc34 := NB187_199.out; have hnb35 := NB199_188.out; have hnc35 := NB188_199.out; have hcz36_0 : w33.cell? ⟨gb199, 0, none⟩ = some (.int .i64 0) := (blk_cell BK199.out 0).trans rfl; have hcz36_1 : w33.cell? ⟨gb199, 1, none⟩ = some (.string (⟨#[]⟩ : ByteArray)) := (blk_cell BK199.out 1).trans rfl; have hcz36_2 : w33.cell? ⟨gb199, 2, none⟩ = some (.string (⟨#[]⟩ : ByteArray)) := (blk_cell BK199.out 2).trans rfl; have hcz36_3 : w33.cell? ⟨gb199, 3, none⟩ = some (.slice none 0 0) := (blk_cell BK199.out 3).trans rfl; have hfz36_0 := blk_frozen BK199.out 0; have hfz36_1 := blk_frozen BK199.out 1; have hfz36_2 := blk_frozen BK199.out 2; have hfz36_3 := blk_frozen BK199.out 3; obtain ⟨Ao37, co37, eo37⟩ := Kd.R_slice HO197.out; subst eo37))
          (try simp only [Act.put, List.setIfInBounds_toArray, List.set_cons_zero, List.set_cons_succ])
          go_cut [40] (fun v40 wc => ∃ (kq : Nat) (x40_28 : Bool), v40 = .bool x40_28 ∧ Aside0 (supercargolaw42_PolicyPapers.j1 kq a2 t198 x40_28 a0_0 a0_1 a0_2 a0_3 a0_4 l0_5 a0_6 a0_7 a0_8 t192 t193 t194 t195 = some r) ∧ Aside0 (kq ≤ kj5) ∧ Aside0 (Kd.R k47 47 wc w.heap.size (fun _ => True) (.slice Ao37 t195.length co37) t195) ∧ Aside0 (wc.heap[gb187]? = some (.cells #[.string a0_0, .string a0_1, .string a0_2, .int .i64 a0_3, .int .i64 a0_4, (.slice A0_5 l0_5.length c0_5), .int .i64 a0_6, .int .i64 a0_7, .int .i64 a0_8] 24 (0, 0))) ∧ Aside0 (wc.heap[gb188]? = some (.cells #[.string a1_0, .string a1_1, .string a1_2, .int .i64 a1_3, .int .i64 a1_4, (.slice A1_5 l1_5.length c1_5), .int .i64 a1_6, .int .i64 a1_7, .int .i64 a1_8] 24 (0, 0))) ∧ Aside0 (wc.heap[gb199]? = some (.cells #[.int .i64 t192, .string t193, .string t194, (.slice Ao37 t195.length co37)] 29 (0, 0))) ∧ Aside0 (Below w.heap.size w wc))
          case first =>
            have H := HC29.out
            clear HC29
            replace H := Option.bind_eq_some_iff.mp H
            obtain ⟨t200, A380, H⟩ := H
            replace H : ((supercargoref42_Same.f kj5 a0_0 a0_1 a0_2 a0_3 a0_4 l0_5 a0_6 a0_7 a0_8 a1_0 a1_1 a1_2 a1_3 a1_4 l1_5 a1_6 a1_7 a1_8).bind fun t201 => (if (t200 != t201) = true then (supercargolaw42_PolicyPapers.j1 kj5 a2 t198 true a0_0 a0_1 a0_2 a0_3 a0_4 l0_5 a0_6 a0_7 a0_8 t192 t193 t194 t195) else ((policy_Same.f kj5 a0_0 a0_1 a0_2 a0_3 a0_4 l0_5 a0_6 a0_7 a0_8 a0_0 a0_1 a0_2 a0_3 a0_4 l0_5 a0_6 a0_7 a0_8).bind fun t202 => (supercargolaw42_PolicyPapers.j1 kj5 a2 t198 (!t202) a0_0 a0_1 a0_2 a0_3 a0_4 l0_5 a0_6 a0_7 a0_8 t192 t193 t194 t195)))) = some r := H
            have A38 := Aside0.mk A380
            clear A380
            replace H := Option.bind_eq_some_iff.mp H
            obtain ⟨t201, A390, H⟩ := H
            replace H : (if (t200 != t201) = true then (supercargolaw42_PolicyPapers.j1 kj5 a2 t198 true a0_0 a0_1 a0_2 a0_3 a0_4 l0_5 a0_6 a0_7 a0_8 t192 t193 t194 t195) else ((policy_Same.f kj5 a0_0 a0_1 a0_2 a0_3 a0_4 l0_5 a0_6 a0_7 a0_8 a0_0 a0_1 a0_2 a0_3 a0_4 l0_5 a0_6 a0_7 a0_8).bind fun t202 => (supercargolaw42_PolicyPapers.j1 kj5 a2 t198 (!t202) a0_0 a0_1 a0_2 a0_3 a0_4 l0_5 a0_6 a0_7 a0_8 t192 t193 t194 t195))) = some r := H
            have A39 := Aside0.mk A390
            clear A390
            by_cases c40 : (t200 != t201) = true
            · rw [if_pos c40] at H
              have c40b0 : (t200 != t201) = true := c40
              (try (have c40b1 : decide (t200 = t201) = false := by simpa using c40))
              (try (have c40b2 : (t200 == t201) = false := by simpa using c40))
              (try (have c40b3 : ¬ (t200 = t201) := by simpa using c40))
              clear c40
              (first | rw [c40b0] | (simp only [i64_w, i32_w]; rw [c40b0]) | skip)
              have H' := Aside0.mk H
              clear H
              try go_wp2
              have n0_ : Aside0 (Kd.R k47 47 ((((w33.setCell ⟨gb199, 0, none⟩ (.int .i64 t192)).setCell ⟨gb199, 1, none⟩ (.string t193)).setCell ⟨gb199, 2, none⟩ (.string t194)).setCell ⟨gb199, 3, none⟩ (.slice Ao37 t195.length co37)) w.heap.size (fun _ => True) (.slice Ao37 t195.length co37) t195) := ⟨by (with_reducible repeat (first | apply Kd.R_alloc | apply Kd.R_drewN | apply Kd.R_drew)); exact Kd.R_mono (Kd.R_far (p := ⟨gb199, 3, none⟩) (Kd.R_far (p := ⟨gb199, 2, none⟩) (Kd.R_far (p := ⟨gb199, 1, none⟩) (Kd.R_far (p := ⟨gb199, 0, none⟩) (Kd.R_types HO197.out BK199.out (by decide)) (fun _ hk => hk.2) (.int .i64 t192)) (fun _ hk => hk.2) (.string t193)) (fun _ hk => hk.2) (.string t194)) (fun _ hk => hk.2) (.slice Ao37 t195.length co37)) (fun _ hk => trivial)⟩
              have n1_ : Aside0 (((((w33.setCell ⟨gb199, 0, none⟩ (.int .i64 t192)).setCell ⟨gb199, 1, none⟩ (.string t193)).setCell ⟨gb199, 2, none⟩ (.string t194)).setCell ⟨gb199, 3, none⟩ (.slice Ao37 t195.length co37)).heap[gb187]? = some (.cells #[.string a0_0, .string a0_1, .string a0_2, .int .i64 a0_3, .int .i64 a0_4, .slice A0_5 l0_5.length c0_5, .int .i64 a0_6, .int .i64 a0_7, .int .i64 a0_8] 24 (0, 0))) := ⟨by (with_reducible repeat (first | refine blk_drewN ?_ _ | refine blk_drew ?_ | refine blk_alloc ?_ _)); refine blk_far ?_ NB187_199.out _; (with_reducible repeat (first | refine blk_drewN ?_ _ | refine blk_drew ?_ | refine blk_alloc ?_ _)); refine blk_far ?_ NB187_199.out _; (with_reducible repeat (first | refine blk_drewN ?_ _ | refine blk_drew ?_ | refine blk_alloc ?_ _)); refine blk_far ?_ NB187_199.out _; (with_reducible repeat (first | refine blk_drewN ?_ _ | refine blk_drew ?_ | refine blk_alloc ?_ _)); refine blk_far ?_ NB187_199.out _; (with_reducible repeat (first | refine blk_drewN ?_ _ | refine blk_drew ?_ | refine blk_alloc ?_ _)); exact BK187.out⟩
              have n2_ : Aside0 (((((w33.setCell ⟨gb199, 0, none⟩ (.int .i64 t192)).setCell ⟨gb199, 1, none⟩ (.string t193)).setCell ⟨gb199, 2, none⟩ (.string t194)).setCell ⟨gb199, 3, none⟩ (.slice Ao37 t195.length co37)).heap[gb188]? = some (.cells #[.string a1_0, .string a1_1, .string a1_2, .int .i64 a1_3, .int .i64 a1_4, .slice A1_5 l1_5.length c1_5, .int .i64 a1_6, .int .i64 a1_7, .int .i64 a1_8] 24 (0, 0))) := ⟨by (with_reducible repeat (first | refine blk_drewN ?_ _ | refine blk_drew ?_ | refine blk_alloc ?_ _)); refine blk_far ?_ NB188_199.out _; (with_reducible repeat (first | refine blk_drewN ?_ _ | refine blk_drew ?_ | refine blk_alloc ?_ _)); refine blk_far ?_ NB188_199.out _; (with_reducible repeat (first | refine blk_drewN ?_ _ | refine blk_drew ?_ | refine blk_alloc ?_ _)); refine blk_far ?_ NB188_199.out _; (with_reducible repeat (first | refine blk_drewN ?_ _ | refine blk_drew ?_ | refine blk_alloc ?_ _)); refine blk_far ?_ NB188_199.out _; (with_reducible repeat (first | refine blk_drewN ?_ _ | refine blk_drew ?_ | refine blk_alloc ?_ _)); exact BK188.out⟩
              have n3_ : Aside0 (((((w33.setCell ⟨gb199, 0, none⟩ (.int .i64 t192)).setCell ⟨gb199, 1, none⟩ (.string t193)).setCell ⟨gb199, 2, none⟩ (.string t194)).setCell ⟨gb199, 3, none⟩ (.slice Ao37 t195.length co37)).heap[gb199]? = some (.cells #[.int .i64 t192, .string t193, .string t194, .slice Ao37 t195.length co37] 29 (0, 0))) := ⟨by (with_reducible repeat (first | refine blk_drewN ?_ _ | refine blk_drew ?_ | refine blk_alloc ?_ _)); refine blk_put (cs := #[.int .i64 t192, .string t193, .string t194, .slice none 0 0]) ?_ 3 _ rfl; (with_reducible repeat (first | refine blk_drewN ?_ _ | refine blk_drew ?_ | refine blk_alloc ?_ _)); refine blk_put (cs := #[.int .i64 t192, .string t193, .string (⟨#[]⟩ : ByteArray), .slice none 0 0]) ?_ 2 _ rfl; (with_reducible repeat (first | refine blk_drewN ?_ _ | refine blk_drew ?_ | refine blk_alloc ?_ _)); refine blk_put (cs := #[.int .i64 t192, .string (⟨#[]⟩ : ByteArray), .string (⟨#[]⟩ : ByteArray), .slice none 0 0]) ?_ 1 _ rfl; (with_reducible repeat (first | refine blk_drewN ?_ _ | refine blk_drew ?_ | refine blk_alloc ?_ _)); refine blk_put (cs := #[.int .i64 0, .string (⟨#[]⟩ : ByteArray), .string (⟨#[]⟩ : ByteArray), .slice none 0 0]) ?_ 0 _ rfl; (with_reducible repeat (first | refine blk_drewN ?_ _ | refine blk_drew ?_ | refine blk_alloc ?_ _)); exact BK199.out⟩
              have n4_ : Aside0 (Below w.heap.size w ((((w33.setCell ⟨gb199, 0, none⟩ (.int .i64 t192)).setCell ⟨gb199, 1, none⟩ (.string t193)).setCell ⟨gb199, 2, none⟩ (.string t194)).setCell ⟨gb199, 3, none⟩ (.slice Ao37 t195.length co37))) := ⟨by repeat (first | (with_reducible first | exact HB.out | apply below_alloc | apply pw_below_drewN | apply below_drew1 | refine below_set ?_ GE187.out | refine below_set ?_ GE188.out | refine below_set ?_ GE199.out) | exact HB.out)⟩
              (try clear HO197)
              (try clear BK187)
              (try clear BK188)
              (try clear BK199)
              (try clear HB)
              generalize ((((w33.setCell ⟨gb199, 0, none⟩ (.int .i64 t192)).setCell ⟨gb199, 1, none⟩ (.string t193)).setCell ⟨gb199, 2, none⟩ (.string t194)).setCell ⟨gb199, 3, none⟩ (.slice Ao37 t195.length co37)) = w41 at n0_ n1_ n2_ n3_ n4_ ⊢
              have HO197 := n0_
              have BK187 := n1_
              have BK188 := n2_
              have BK199 := n3_
              have HB := n4_
              clear n0_ n1_ n2_ n3_ n4_
              have n0_ := Aside0.mk (Kd.R_drew HO197.out)
              have n1_ := Aside0.mk (blk_drew BK187.out)
              have n2_ := Aside0.mk (blk_drew BK188.out)
              have n3_ := Aside0.mk (blk_drew BK199.out)
              have n4_ := Aside0.mk (below_drew1 HB.out)
              clear HO197
              clear BK187
              clear BK188
              clear BK199
              clear HB
              have HO197 := n0_
              have BK187 := n1_
              have BK188 := n2_
              have BK199 := n3_
              have HB := n4_
              clear n0_ n1_ n2_ n3_ n4_
              refine start_ (n := 13) (S := fun w' => w'.cell? ⟨gb187, 0, none⟩ = some (.string a0_0) ∧ w'.cell? ⟨gb187, 1, none⟩ = some (.string a0_1) ∧ w'.cell? ⟨gb187, 2, none⟩ = some (.string a0_2) ∧ w'.cell? ⟨gb187, 3, none⟩ = some (.int .i64 a0_3) ∧ w'.cell? ⟨gb187, 4, none⟩ = some (.int .i64 a0_4) ∧ w'.cell? ⟨gb187, 5, none⟩ = some (.slice A0_5 l0_5.length c0_5) ∧ w'.cell? ⟨gb187, 6, none⟩ = some (.int .i64 a0_6) ∧ w'.cell? ⟨gb187, 7, none⟩ = some (.int .i64 a0_7) ∧ w'.cell? ⟨gb187, 8, none⟩ = some (.int .i64 a0_8) ∧ w'.cell? ⟨gb188, 0, none⟩ = some (.string a1_0) ∧ w'.cell? ⟨gb188, 1, none⟩ = some (.string a1_1) ∧ w'.cell? ⟨gb188, 2, none⟩ = some (.string a1_2) ∧ w'.cell? ⟨gb188, 3, none⟩ = some (.int .i64 a1_3) ∧ w'.cell? ⟨gb188, 4, none⟩ = some (.int .i64 a1_4) ∧ w'.cell? ⟨gb188, 5, none⟩ = some (.slice A1_5 l1_5.length c1_5) ∧ w'.cell? ⟨gb188, 6, none⟩ = some (.int .i64 a1_6) ∧ w'.cell? ⟨gb188, 7, none⟩ = some (.int .i64 a1_7) ∧ w'.cell? ⟨gb188, 8, none⟩ = some (.int .i64 a1_8)) (ds := []) #[false, false, false, false, false, false, false, false, false, false, false, false, false] (by kernel_rfl) rfl rfl ⟨(blk_cell BK187.out 0).trans rfl, (blk_cell BK187.out 1).trans rfl, (blk_cell BK187.out 2).trans rfl, (blk_cell BK187.out 3).trans rfl, (blk_cell BK187.out 4).trans rfl, (blk_cell BK187.out 5).trans rfl, (blk_cell BK187.out 6).trans rfl, (blk_cell BK187.out 7).trans rfl, (blk_cell BK187.out 8).trans rfl, (blk_cell BK188.out 0).trans rfl, (blk_cell BK188.out 1).trans rfl, (blk_cell BK188.out 2).trans rfl, (blk_cell BK188.out 3).trans rfl, (blk_cell BK188.out 4).trans rfl, (blk_cell BK188.out 5).trans rfl, (blk_cell BK188.out 6).trans rfl, (blk_cell BK188.out 7).trans rfl, (blk_cell BK188.out 8).trans rfl⟩ (fun hHeld => ?_); refine with_tabW supercargolaw42_PolicyPapers.tab6 supercargolaw42_PolicyPapers.bits6 (fun HT_ HW_ => ?_)
              generalize w41.drew = w42 at HO197 BK187 BK188 BK199 HB hHeld ⊢
              refine take_ (i := 0) (N := some 28) (v := ?_) (a' := ?_) #[true, false, false, false, false, false, false, false, false, false, false, false, false] rfl rfl (take_ofW HT_.out HW_.out (by kernel_rfl)) (fun _ _ _ h => h) (Or.inl ⟨by rfl, ?_⟩) hHeld ?_ ?_
              rotate_left
              · rintro w' ⟨s0, s1, s2, s3, s4, s5, s6, s7, s8, s9, s10, s11, s12, s13, s14, s15, s16, s17⟩
                go_simp
                with_reducible rfl
              rotate_left
              · simp only [Act.put, List.setIfInBounds_toArray, List.set_cons_zero, List.set_cons_succ, i64_w, i32_w]
                rfl
              refine take_ (i := 1) (N := some 29) (v := ?_) (a' := ?_) #[true, true, false, false, false, false, false, false, false, false, false, false, false] rfl rfl (take_ofW HT_.out HW_.out (by kernel_rfl)) (fun _ _ _ h => h) (Or.inl ⟨by rfl, ?_⟩) hHeld ?_ ?_
              rotate_left
              · rintro w' ⟨s0, s1, s2, s3, s4, s5, s6, s7, s8, s9, s10, s11, s12, s13, s14, s15, s16, s17⟩
                go_simp
                with_reducible rfl
              rotate_left
              · simp only [Act.put, List.setIfInBounds_toArray, List.set_cons_zero, List.set_cons_succ, i64_w, i32_w]
                rfl
              refine take_ (i := 3) (N := some 31) (v := ?_) (a' := ?_) #[true, true, false, true, false, false, false, false, false, false, false, false, false] rfl rfl (take_ofW HT_.out HW_.out (by kernel_rfl)) (fun _ _ _ h => h) (Or.inl ⟨by rfl, ?_⟩) hHeld ?_ ?_
              rotate_left
              · rintro w' ⟨s0, s1, s2, s3, s4, s5, s6, s7, s8, s9, s10, s11, s12, s13, s14, s15, s16, s17⟩
                go_simp
                with_reducible rfl
              rotate_left
              · simp only [Act.put, List.setIfInBounds_toArray, List.set_cons_zero, List.set_cons_succ, i64_w, i32_w]
                rfl
              refine take_ (i := 4) (N := some 32) (v := ?_) (a' := ?_) #[true, true, false, true, true, false, false, false, false, false, false, false, false] rfl rfl (take_ofW HT_.out HW_.out (by kernel_rfl)) (fun _ _ _ h => h) (Or.inl ⟨by rfl, ?_⟩) hHeld ?_ ?_
              rotate_left
              · rintro w' ⟨s0, s1, s2, s3, s4, s5, s6, s7, s8, s9, s10, s11, s12, s13, s14, s15, s16, s17⟩
                go_simp
                with_reducible rfl
              rotate_left
              · simp only [Act.put, List.setIfInBounds_toArray, List.set_cons_zero, List.set_cons_succ, i64_w, i32_w]
                rfl
              refine one_ (i := 2) (N := some 30) #[true, true, true, true, true, false, false, false, false, false, false, false, false] rfl rfl (one_of HT_.out (by kernel_rfl)) (by decide) (fun K hK => ?_)
              refine goes_ Tryd.func7 (by kernel_rfl) rfl #[.agg #[.string a0_0, .string a0_1, .string a0_2, .int .i64 a0_3, .int .i64 a0_4, .slice A0_5 l0_5.length c0_5, .int .i64 a0_6, .int .i64 a0_7, .int .i64 a0_8], .agg #[.string a1_0, .string a1_1, .string a1_2, .int .i64 a1_3, .int .i64 a1_4, .slice A1_5 l1_5.length c1_5, .int .i64 a1_6, .int .i64 a1_7, .int .i64 a1_8]] (by rfl) rfl rfl (by (try simp only [List.map_toArray, List.map_cons, List.map_nil]); first | done | rfl | (simp only [List.length_drop, List.length_take]; rfl)) ?_
              with_reducible refine (policy_Same.calls kj5 a0_0 a0_1 a0_2 a0_3 a0_4 _ _ l0_5 a0_6 a0_7 a0_8 a1_0 a1_1 a1_2 a1_3 a1_4 _ _ l1_5 a1_6 a1_7 a1_8 t200 _ ?side1 ?side2 ?side3 ?side4 A38.out).mono ?_
              (case side1 => repeat (first | exact (Kd.C_below HR0_5.out HB.out) | (with_reducible refine Kd.C_alloc ?_ _) | (with_reducible refine Kd.C_drewN ?_ _) | (with_reducible refine Kd.C_drew ?_)))
              (case side2 => exact HC0_5.out)
              (case side3 => repeat (first | exact (Kd.C_below HR1_5.out HB.out) | (with_reducible refine Kd.C_alloc ?_ _) | (with_reducible refine Kd.C_drewN ?_ _) | (with_reducible refine Kd.C_drew ?_)))
              (case side4 => exact HC1_5.out)
              rintro e w43 ⟨rfl, hb⟩
              refine ⟨_, rfl, ?_⟩
              have n0_ := Aside0.mk (Kd.R_below (by (with_reducible repeat (first | apply Kd.R_alloc | apply Kd.R_drewN | apply Kd.R_drew)); exact HO197.out) hb)
              have n1_ := Aside0.mk (blk_below (g := gb187) (o := .cells #[.string a0_0, .string a0_1, .string a0_2, .int .i64 a0_3, .int .i64 a0_4, .slice A0_5 l0_5.length c0_5, .int .i64 a0_6, .int .i64 a0_7, .int .i64 a0_8] 24 (0, 0)) (by (with_reducible repeat (first | refine blk_drewN ?_ _ | refine blk_drew ?_ | refine blk_alloc ?_ _)); exact BK187.out) hb)
              have n2_ := Aside0.mk (blk_below (g := gb188) (o := .cells #[.string a1_0, .string a1_1, .string a1_2, .int .i64 a1_3, .int .i64 a1_4, .slice A1_5 l1_5.length c1_5, .int .i64 a1_6, .int .i64 a1_7, .int .i64 a1_8] 24 (0, 0)) (by (with_reducible repeat (first | refine blk_drewN ?_ _ | refine blk_drew ?_ | refine blk_alloc ?_ _)); exact BK188.out) hb)
              have n3_ := Aside0.mk (blk_below (g := gb199) (o := .cells #[.int .i64 t192, .string t193, .string t194, .slice Ao37 t195.length co37] 29 (0, 0)) (by (with_reducible repeat (first | refine blk_drewN ?_ _ | refine blk_drew ?_ | refine blk_alloc ?_ _)); exact BK199.out) hb)
              have n4_ := Aside0.mk (below_step (by repeat (first | (with_reducible first | exact HB.out | apply below_alloc | apply pw_below_drewN | apply below_drew1 | refine below_set ?_ GE187.out | refine below_set ?_ GE188.out | refine below_set ?_ GE199.out) | exact HB.out)) hb)
              clear HO197
              clear BK187
              clear BK188
              clear BK199
              clear HB
              have HO197 := n0_
              have BK187 := n1_
              have BK188 := n2_
              have BK199 := n3_
              have HB := n4_
              clear n0_ n1_ n2_ n3_ n4_
              (try clear hb)
              (try clear hb2)
              (try clear hk)
              (try clear hi)
              refine hK.out _ _ ⟨(blk_cell BK187.out 0).trans rfl, (blk_cell BK187.out 1).trans rfl, (blk_cell BK187.out 2).trans rfl, (blk_cell BK187.out 3).trans rfl, (blk_cell BK187.out 4).trans rfl, (blk_cell BK187.out 5).trans rfl, (blk_cell BK187.out 6).trans rfl, (blk_cell BK187.out 7).trans rfl, (blk_cell BK187.out 8).trans rfl, (blk_cell BK188.out 0).trans rfl, (blk_cell BK188.out 1).trans rfl, (blk_cell BK188.out 2).trans rfl, (blk_cell BK188.out 3).trans rfl, (blk_cell BK188.out 4).trans rfl, (blk_cell BK188.out 5).trans rfl, (blk_cell BK188.out 6).trans rfl, (blk_cell BK188.out 7).trans rfl, (blk_cell BK188.out 8).trans rfl⟩ (fun hHeld => ?_)
              clear hK K
              refine norm_ (a' := ?_) ?_ ?_
              rotate_left
              · show Act.put _ (some 30) _ = _
                simp only [Act.put, List.setIfInBounds_toArray, List.set_cons_zero, List.set_cons_succ, i64_w, i32_w]
                rfl
              refine one_ (i := 5) (N := some 33) #[true, true, true, true, true, true, false, false, false, false, false, false, false] rfl rfl (one_of HT_.out (by kernel_rfl)) (by decide) (fun K hK => ?_)
              refine goes_ Tryd.func8 (by kernel_rfl) rfl #[.agg #[.string a0_0, .string a0_1, .string a0_2, .int .i64 a0_3, .int .i64 a0_4, .slice A0_5 l0_5.length c0_5, .int .i64 a0_6, .int .i64 a0_7, .int .i64 a0_8], .agg #[.string a1_0, .string a1_1, .string a1_2, .int .i64 a1_3, .int .i64 a1_4, .slice A1_5 l1_5.length c1_5, .int .i64 a1_6, .int .i64 a1_7, .int .i64 a1_8]] (by rfl) rfl rfl (by (try simp only [List.map_toArray, List.map_cons, List.map_nil]); first | done | rfl | (simp only [List.length_drop, List.length_take]; rfl)) ?_
              with_reducible refine (supercargoref42_Same.calls kj5 a0_0 a0_1 a0_2 a0_3 a0_4 _ _ l0_5 a0_6 a0_7 a0_8 a1_0 a1_1 a1_2 a1_3 a1_4 _ _ l1_5 a1_6 a1_7 a1_8 t201 _ ?side1 ?side2 ?side3 ?side4 A39.out).mono ?_
              (case side1 => repeat (first | exact (Kd.C_below HR0_5.out HB.out) | (with_reducible refine Kd.C_alloc ?_ _) | (with_reducible refine Kd.C_drewN ?_ _) | (with_reducible refine Kd.C_drew ?_)))
              (case side2 => exact HC0_5.out)
              (case side3 => repeat (first | exact (Kd.C_below HR1_5.out HB.out) | (with_reducible refine Kd.C_alloc ?_ _) | (with_reducible refine Kd.C_drewN ?_ _) | (with_reducible refine Kd.C_drew ?_)))
              (case side4 => exact HC1_5.out)
              rintro e w44 ⟨rfl, hb⟩
              refine ⟨_, rfl, ?_⟩
              have n0_ := Aside0.mk (Kd.R_below (by (with_reducible repeat (first | apply Kd.R_alloc | apply Kd.R_drewN | apply Kd.R_drew)); exact HO197.out) hb)
              have n1_ := Aside0.mk (blk_below (g := gb187) (o := .cells #[.string a0_0, .string a0_1, .string a0_2, .int .i64 a0_3, .int .i64 a0_4, .slice A0_5 l0_5.length c0_5, .int .i64 a0_6, .int .i64 a0_7, .int .i64 a0_8] 24 (0, 0)) (by (with_reducible repeat (first | refine blk_drewN ?_ _ | refine blk_drew ?_ | refine blk_alloc ?_ _)); exact BK187.out) hb)
              have n2_ := Aside0.mk (blk_below (g := gb188) (o := .cells #[.string a1_0, .string a1_1, .string a1_2, .int .i64 a1_3, .int .i64 a1_4, .slice A1_5 l1_5.length c1_5, .int .i64 a1_6, .int .i64 a1_7, .int .i64 a1_8] 24 (0, 0)) (by (with_reducible repeat (first | refine blk_drewN ?_ _ | refine blk_drew ?_ | refine blk_alloc ?_ _)); exact BK188.out) hb)
              have n3_ := Aside0.mk (blk_below (g := gb199) (o := .cells #[.int .i64 t192, .string t193, .string t194, .slice Ao37 t195.length co37] 29 (0, 0)) (by (with_reducible repeat (first | refine blk_drewN ?_ _ | refine blk_drew ?_ | refine blk_alloc ?_ _)); exact BK199.out) hb)
              have n4_ := Aside0.mk (below_step (by repeat (first | (with_reducible first | exact HB.out | apply below_alloc | apply pw_below_drewN | apply below_drew1 | refine below_set ?_ GE187.out | refine below_set ?_ GE188.out | refine below_set ?_ GE199.out) | exact HB.out)) hb)
              clear HO197
              clear BK187
              clear BK188
              clear BK199
              clear HB
              have HO197 := n0_
              have BK187 := n1_
              have BK188 := n2_
              have BK199 := n3_
              have HB := n4_
              clear n0_ n1_ n2_ n3_ n4_
              (try clear hb)
              (try clear hb2)
              (try clear hk)
              (try clear hi)
              refine hK.out _ _ ⟨(blk_cell BK187.out 0).trans rfl, (blk_cell BK187.out 1).trans rfl, (blk_cell BK187.out 2).trans rfl, (blk_cell BK187.out 3).trans rfl, (blk_cell BK187.out 4).trans rfl, (blk_cell BK187.out 5).trans rfl, (blk_cell BK187.out 6).trans rfl, (blk_cell BK187.out 7).trans rfl, (blk_cell BK187.out 8).trans rfl, (blk_cell BK188.out 0).trans rfl, (blk_cell BK188.out 1).trans rfl, (blk_cell BK188.out 2).trans rfl, (blk_cell BK188.out 3).trans rfl, (blk_cell BK188.out 4).trans rfl, (blk_cell BK188.out 5).trans rfl, (blk_cell BK188.out 6).trans rfl, (blk_cell BK188.out 7).trans rfl, (blk_cell BK188.out 8).trans rfl⟩ (fun hHeld => ?_)
              clear hK K
              refine norm_ (a' := ?_) ?_ ?_
              rotate_left
              · show Act.put _ (some 33) _ = _
                simp only [Act.put, List.setIfInBounds_toArray, List.set_cons_zero, List.set_cons_succ, i64_w, i32_w]
                rfl
              refine pure_ (i := 6) (N := some 34) (v := ?_) (a' := ?_) #[true, true, true, true, true, true, true, false, false, false, false, false, false] rfl rfl (any_of HT_.out (by kernel_rfl)) (fun _ _ _ h => h) (Or.inl ⟨by rfl, ?_⟩) ?_ ?_
              rotate_left
              · intro w'
                go_simp
                with_reducible rfl
              rotate_left
              · simp only [Act.put, List.setIfInBounds_toArray, List.set_cons_zero, List.set_cons_succ, i64_w, i32_w]
                rfl
              refine pure_ (i := 7) (N := some 35) (v := ?_) (a' := ?_) #[true, true, true, true, true, true, true, true, false, false, false, false, false] rfl rfl (any_of HT_.out (by kernel_rfl)) (fun _ _ _ h => h) (Or.inl ⟨by rfl, ?_⟩) ?_ ?_
              rotate_left
              · intro w'
                go_simp
                with_reducible rfl
              rotate_left
              · simp only [Act.put, List.setIfInBounds_toArray, List.set_cons_zero, List.set_cons_succ, i64_w, i32_w]
                rfl
              refine pure_ (i := 8) (N := some 36) (v := undef) (a' := ?_) #[true, true, true, true, true, true, true, true, true, false, false, false, false] rfl rfl (any_of HT_.out (by kernel_rfl)) (fun _ _ _ h => h) (Or.inr ⟨by rfl, rfl⟩) ?_ ?_
              rotate_left
              · simp only [Act.put, List.setIfInBounds_toArray, List.set_cons_zero, List.set_cons_succ, i64_w, i32_w]
                rfl
              refine pure_ (i := 9) (N := some 37) (v := undef) (a' := ?_) #[true, true, true, true, true, true, true, true, true, true, false, false, false] rfl rfl (any_of HT_.out (by kernel_rfl)) (fun _ _ _ h => h) (Or.inr ⟨by rfl, rfl⟩) ?_ ?_
              rotate_left
              · simp only [Act.put, List.setIfInBounds_toArray, List.set_cons_zero, List.set_cons_succ, i64_w, i32_w]
                rfl
              refine pure_ (i := 10) (N := some 38) (v := undef) (a' := ?_) #[true, true, true, true, true, true, true, true, true, true, true, false, false] rfl rfl (any_of HT_.out (by kernel_rfl)) (fun _ _ _ h => h) (Or.inr ⟨by rfl, rfl⟩) ?_ ?_
              rotate_left
              · simp only [Act.put, List.setIfInBounds_toArray, List.set_cons_zero, List.set_cons_succ, i64_w, i32_w]
                rfl
              refine pure_ (i := 11) (N := some 39) (v := undef) (a' := ?_) #[true, true, true, true, true, true, true, true, true, true, true, true, false] rfl rfl (any_of HT_.out (by kernel_rfl)) (fun _ _ _ h => h) (Or.inr ⟨by rfl, rfl⟩) ?_ ?_
              rotate_left
              · simp only [Act.put, List.setIfInBounds_toArray, List.set_cons_zero, List.set_cons_succ, i64_w, i32_w]
                rfl
              refine pure_ (i := 12) (N := some 40) (v := ?_) (a' := ?_) #[true, true, true, true, true, true, true, true, true, true, true, true, true] rfl rfl (any_of HT_.out (by kernel_rfl)) (fun _ _ _ h => h) (Or.inl ⟨by rfl, ?_⟩) ?_ ?_
              rotate_left
              · intro w'
                go_simp
                with_reducible rfl
              rotate_left
              · simp only [Act.put, List.setIfInBounds_toArray, List.set_cons_zero, List.set_cons_succ, i64_w, i32_w]
                rfl
              refine done_ (done_of HT_.out (by kernel_rfl)) ?_
              try go_wp2
              go_meet
              case rel => exact ⟨_, (true), (by first | rfl | (simp; done) | (simp [*]; done)), H', ⟨by have := HJ5.out; first | omega | exact Nat.le_refl _⟩, ⟨by (with_reducible repeat (first | apply Kd.R_alloc | apply Kd.R_drewN | apply Kd.R_drew)); exact HO197.out⟩, ⟨by (with_reducible repeat (first | refine blk_drewN ?_ _ | refine blk_drew ?_ | refine blk_alloc ?_ _)); exact BK187.out⟩, ⟨by (with_reducible repeat (first | refine blk_drewN ?_ _ | refine blk_drew ?_ | refine blk_alloc ?_ _)); exact BK188.out⟩, ⟨by (with_reducible repeat (first | refine blk_drewN ?_ _ | refine blk_drew ?_ | refine blk_alloc ?_ _)); exact BK199.out⟩, ⟨by repeat (first | (with_reducible first | exact HB.out | apply below_alloc | apply pw_below_drewN | apply below_drew1 | refine below_set ?_ GE187.out | refine below_set ?_ GE188.out | refine below_set ?_ GE199.out) | exact HB.out)⟩⟩
            · rw [if_neg c40] at H
              have c40b0 : (t200 != t201) = false := by simpa using c40
              (try (have c40b1 : decide (t200 = t201) = true := by simpa using c40))
              (try (have c40b2 : (t200 == t201) = true := by simpa using c40))
              clear c40
              (first | rw [c40b0] | (simp only [i64_w, i32_w]; rw [c40b0]) | skip)
              replace H := Option.bind_eq_some_iff.mp H
              obtain ⟨t202, A450, H⟩ := H
              replace H : (supercargolaw42_PolicyPapers.j1 kj5 a2 t198 (!t202) a0_0 a0_1 a0_2 a0_3 a0_4 l0_5 a0_6 a0_7 a0_8 t192 t193 t194 t195) = some r := H
              have A45 := Aside0.mk A450
              clear A450
              have H' := Aside0.mk H
              clear H
              try go_wp2
              have n0_ : Aside0 (Kd.R k47 47 ((((w33.setCell ⟨gb199, 0, none⟩ (.int .i64 t192)).setCell ⟨gb199, 1, none⟩ (.string t193)).setCell ⟨gb199, 2, none⟩ (.string t194)).setCell ⟨gb199, 3, none⟩ (.slice Ao37 t195.length co37)) w.heap.size (fun _ => True) (.slice Ao37 t195.length co37) t195) := ⟨by (with_reducible repeat (first | apply Kd.R_alloc | apply Kd.R_drewN | apply Kd.R_drew)); exact Kd.R_mono (Kd.R_far (p := ⟨gb199, 3, none⟩) (Kd.R_far (p := ⟨gb199, 2, none⟩) (Kd.R_far (p := ⟨gb199, 1, none⟩) (Kd.R_far (p := ⟨gb199, 0, none⟩) (Kd.R_types HO197.out BK199.out (by decide)) (fun _ hk => hk.2) (.int .i64 t192)) (fun _ hk => hk.2) (.string t193)) (fun _ hk => hk.2) (.string t194)) (fun _ hk => hk.2) (.slice Ao37 t195.length co37)) (fun _ hk => trivial)⟩
              have n1_ : Aside0 (((((w33.setCell ⟨gb199, 0, none⟩ (.int .i64 t192)).setCell ⟨gb199, 1, none⟩ (.string t193)).setCell ⟨gb199, 2, none⟩ (.string t194)).setCell ⟨gb199, 3, none⟩ (.slice Ao37 t195.length co37)).heap[gb187]? = some (.cells #[.string a0_0, .string a0_1, .string a0_2, .int .i64 a0_3, .int .i64 a0_4, .slice A0_5 l0_5.length c0_5, .int .i64 a0_6, .int .i64 a0_7, .int .i64 a0_8] 24 (0, 0))) := ⟨by (with_reducible repeat (first | refine blk_drewN ?_ _ | refine blk_drew ?_ | refine blk_alloc ?_ _)); refine blk_far ?_ NB187_199.out _; (with_reducible repeat (first | refine blk_drewN ?_ _ | refine blk_drew ?_ | refine blk_alloc ?_ _)); refine blk_far ?_ NB187_199.out _; (with_reducible repeat (first | refine blk_drewN ?_ _ | refine blk_drew ?_ | refine blk_alloc ?_ _)); refine blk_far ?_ NB187_199.out _; (with_reducible repeat (first | refine blk_drewN ?_ _ | refine blk_drew ?_ | refine blk_alloc ?_ _)); refine blk_far ?_ NB187_199.out _; (with_reducible repeat (first | refine blk_drewN ?_ _ | refine blk_drew ?_ | refine blk_alloc ?_ _)); exact BK187.out⟩
              have n2_ : Aside0 (((((w33.setCell ⟨gb199, 0, none⟩ (.int .i64 t192)).setCell ⟨gb199, 1, none⟩ (.string t193)).setCell ⟨gb199, 2, none⟩ (.string t194)).setCell ⟨gb199, 3, none⟩ (.slice Ao37 t195.length co37)).heap[gb188]? = some (.cells #[.string a1_0, .string a1_1, .string a1_2, .int .i64 a1_3, .int .i64 a1_4, .slice A1_5 l1_5.length c1_5, .int .i64 a1_6, .int .i64 a1_7, .int .i64 a1_8] 24 (0, 0))) := ⟨by (with_reducible repeat (first | refine blk_drewN ?_ _ | refine blk_drew ?_ | refine blk_alloc ?_ _)); refine blk_far ?_ NB188_199.out _; (with_reducible repeat (first | refine blk_drewN ?_ _ | refine blk_drew ?_ | refine blk_alloc ?_ _)); refine blk_far ?_ NB188_199.out _; (with_reducible repeat (first | refine blk_drewN ?_ _ | refine blk_drew ?_ | refine blk_alloc ?_ _)); refine blk_far ?_ NB188_199.out _; (with_reducible repeat (first | refine blk_drewN ?_ _ | refine blk_drew ?_ | refine blk_alloc ?_ _)); refine blk_far ?_ NB188_199.out _; (with_reducible repeat (first | refine blk_drewN ?_ _ | refine blk_drew ?_ | refine blk_alloc ?_ _)); exact BK188.out⟩
              have n3_ : Aside0 (((((w33.setCell ⟨gb199, 0, none⟩ (.int .i64 t192)).setCell ⟨gb199, 1, none⟩ (.string t193)).setCell ⟨gb199, 2, none⟩ (.string t194)).setCell ⟨gb199, 3, none⟩ (.slice Ao37 t195.length co37)).heap[gb199]? = some (.cells #[.int .i64 t192, .string t193, .string t194, .slice Ao37 t195.length co37] 29 (0, 0))) := ⟨by (with_reducible repeat (first | refine blk_drewN ?_ _ | refine blk_drew ?_ | refine blk_alloc ?_ _)); refine blk_put (cs := #[.int .i64 t192, .string t193, .string t194, .slice none 0 0]) ?_ 3 _ rfl; (with_reducible repeat (first | refine blk_drewN ?_ _ | refine blk_drew ?_ | refine blk_alloc ?_ _)); refine blk_put (cs := #[.int .i64 t192, .string t193, .string (⟨#[]⟩ : ByteArray), .slice none 0 0]) ?_ 2 _ rfl; (with_reducible repeat (first | refine blk_drewN ?_ _ | refine blk_drew ?_ | refine blk_alloc ?_ _)); refine blk_put (cs := #[.int .i64 t192, .string (⟨#[]⟩ : ByteArray), .string (⟨#[]⟩ : ByteArray), .slice none 0 0]) ?_ 1 _ rfl; (with_reducible repeat (first | refine blk_drewN ?_ _ | refine blk_drew ?_ | refine blk_alloc ?_ _)); refine blk_put (cs := #[.int .i64 0, .string (⟨#[]⟩ : ByteArray), .string (⟨#[]⟩ : ByteArray), .slice none 0 0]) ?_ 0 _ rfl; (with_reducible repeat (first | refine blk_drewN ?_ _ | refine blk_drew ?_ | refine blk_alloc ?_ _)); exact BK199.out⟩
              have n4_ : Aside0 (Below w.heap.size w ((((w33.setCell ⟨gb199, 0, none⟩ (.int .i64 t192)).setCell ⟨gb199, 1, none⟩ (.string t193)).setCell ⟨gb199, 2, none⟩ (.string t194)).setCell ⟨gb199, 3, none⟩ (.slice Ao37 t195.length co37))) := ⟨by repeat (first | (with_reducible first | exact HB.out | apply below_alloc | apply pw_below_drewN | apply below_drew1 | refine below_set ?_ GE187.out | refine below_set ?_ GE188.out | refine below_set ?_ GE199.out) | exact HB.out)⟩
              (try clear HO197)
              (try clear BK187)
              (try clear BK188)
              (try clear BK199)
              (try clear HB)
              generalize ((((w33.setCell ⟨gb199, 0, none⟩ (.int .i64 t192)).setCell ⟨gb199, 1, none⟩ (.string t193)).setCell ⟨gb199, 2, none⟩ (.string t194)).setCell ⟨gb199, 3, none⟩ (.slice Ao37 t195.length co37)) = w46 at n0_ n1_ n2_ n3_ n4_ ⊢
              have HO197 := n0_
              have BK187 := n1_
              have BK188 := n2_
              have BK199 := n3_
              have HB := n4_
              clear n0_ n1_ n2_ n3_ n4_
              have n0_ := Aside0.mk (Kd.R_drew HO197.out)
              have n1_ := Aside0.mk (blk_drew BK187.out)
              have n2_ := Aside0.mk (blk_drew BK188.out)
              have n3_ := Aside0.mk (blk_drew BK199.out)
              have n4_ := Aside0.mk (below_drew1 HB.out)
              clear HO197
              clear BK187
              clear BK188
              clear BK199
              clear HB
              have HO197 := n0_
              have BK187 := n1_
              have BK188 := n2_
              have BK199 := n3_
              have HB := n4_
              clear n0_ n1_ n2_ n3_ n4_
              refine start_ (n := 13) (S := fun w' => w'.cell? ⟨gb187, 0, none⟩ = some (.string a0_0) ∧ w'.cell? ⟨gb187, 1, none⟩ = some (.string a0_1) ∧ w'.cell? ⟨gb187, 2, none⟩ = some (.string a0_2) ∧ w'.cell? ⟨gb187, 3, none⟩ = some (.int .i64 a0_3) ∧ w'.cell? ⟨gb187, 4, none⟩ = some (.int .i64 a0_4) ∧ w'.cell? ⟨gb187, 5, none⟩ = some (.slice A0_5 l0_5.length c0_5) ∧ w'.cell? ⟨gb187, 6, none⟩ = some (.int .i64 a0_6) ∧ w'.cell? ⟨gb187, 7, none⟩ = some (.int .i64 a0_7) ∧ w'.cell? ⟨gb187, 8, none⟩ = some (.int .i64 a0_8) ∧ w'.cell? ⟨gb188, 0, none⟩ = some (.string a1_0) ∧ w'.cell? ⟨gb188, 1, none⟩ = some (.string a1_1) ∧ w'.cell? ⟨gb188, 2, none⟩ = some (.string a1_2) ∧ w'.cell? ⟨gb188, 3, none⟩ = some (.int .i64 a1_3) ∧ w'.cell? ⟨gb188, 4, none⟩ = some (.int .i64 a1_4) ∧ w'.cell? ⟨gb188, 5, none⟩ = some (.slice A1_5 l1_5.length c1_5) ∧ w'.cell? ⟨gb188, 6, none⟩ = some (.int .i64 a1_6) ∧ w'.cell? ⟨gb188, 7, none⟩ = some (.int .i64 a1_7) ∧ w'.cell? ⟨gb188, 8, none⟩ = some (.int .i64 a1_8)) (ds := []) #[false, false, false, false, false, false, false, false, false, false, false, false, false] (by kernel_rfl) rfl rfl ⟨(blk_cell BK187.out 0).trans rfl, (blk_cell BK187.out 1).trans rfl, (blk_cell BK187.out 2).trans rfl, (blk_cell BK187.out 3).trans rfl, (blk_cell BK187.out 4).trans rfl, (blk_cell BK187.out 5).trans rfl, (blk_cell BK187.out 6).trans rfl, (blk_cell BK187.out 7).trans rfl, (blk_cell BK187.out 8).trans rfl, (blk_cell BK188.out 0).trans rfl, (blk_cell BK188.out 1).trans rfl, (blk_cell BK188.out 2).trans rfl, (blk_cell BK188.out 3).trans rfl, (blk_cell BK188.out 4).trans rfl, (blk_cell BK188.out 5).trans rfl, (blk_cell BK188.out 6).trans rfl, (blk_cell BK188.out 7).trans rfl, (blk_cell BK188.out 8).trans rfl⟩ (fun hHeld => ?_); refine with_tabW supercargolaw42_PolicyPapers.tab6 supercargolaw42_PolicyPapers.bits6 (fun HT_ HW_ => ?_)
              generalize w46.drew = w47 at HO197 BK187 BK188 BK199 HB hHeld ⊢
              refine take_ (i := 0) (N := some 28) (v := ?_) (a' := ?_) #[true, false, false, false, false, false, false, false, false, false, false, false, false] rfl rfl (take_ofW HT_.out HW_.out (by kernel_rfl)) (fun _ _ _ h => h) (Or.inl ⟨by rfl, ?_⟩) hHeld ?_ ?_
              rotate_left
              · rintro w' ⟨s0, s1, s2, s3, s4, s5, s6, s7, s8, s9, s10, s11, s12, s13, s14, s15, s16, s17⟩
                go_simp
                with_reducible rfl
              rotate_left
              · simp only [Act.put, List.setIfInBounds_toArray, List.set_cons_zero, List.set_cons_succ, i64_w, i32_w]
                rfl
              refine take_ (i := 1) (N := some 29) (v := ?_) (a' := ?_) #[true, true, false, false, false, false, false, false, false, false, false, false, false] rfl rfl (take_ofW HT_.out HW_.out (by kernel_rfl)) (fun _ _ _ h => h) (Or.inl ⟨by rfl, ?_⟩) hHeld ?_ ?_
              rotate_left
              · rintro w' ⟨s0, s1, s2, s3, s4, s5, s6, s7, s8, s9, s10, s11, s12, s13, s14, s15, s16, s17⟩
                go_simp
                with_reducible rfl
              rotate_left
              · simp only [Act.put, List.setIfInBounds_toArray, List.set_cons_zero, List.set_cons_succ, i64_w, i32_w]
                rfl
              refine take_ (i := 3) (N := some 31) (v := ?_) (a' := ?_) #[true, true, false, true, false, false, false, false, false, false, false, false, false] rfl rfl (take_ofW HT_.out HW_.out (by kernel_rfl)) (fun _ _ _ h => h) (Or.inl ⟨by rfl, ?_⟩) hHeld ?_ ?_
              rotate_left
              · rintro w' ⟨s0, s1, s2, s3, s4, s5, s6, s7, s8, s9, s10, s11, s12, s13, s14, s15, s16, s17⟩
                go_simp
                with_reducible rfl
              rotate_left
              · simp only [Act.put, List.setIfInBounds_toArray, List.set_cons_zero, List.set_cons_succ, i64_w, i32_w]
                rfl
              refine take_ (i := 4) (N := some 32) (v := ?_) (a' := ?_) #[true, true, false, true, true, false, false, false, false, false, false, false, false] rfl rfl (take_ofW HT_.out HW_.out (by kernel_rfl)) (fun _ _ _ h => h) (Or.inl ⟨by rfl, ?_⟩) hHeld ?_ ?_
              rotate_left
              · rintro w' ⟨s0, s1, s2, s3, s4, s5, s6, s7, s8, s9, s10, s11, s12, s13, s14, s15, s16, s17⟩
                go_simp
                with_reducible rfl
              rotate_left
              · simp only [Act.put, List.setIfInBounds_toArray, List.set_cons_zero, List.set_cons_succ, i64_w, i32_w]
                rfl
              refine one_ (i := 2) (N := some 30) #[true, true, true, true, true, false, false, false, false, false, false, false, false] rfl rfl (one_of HT_.out (by kernel_rfl)) (by decide) (fun K hK => ?_)
              refine goes_ Tryd.func7 (by kernel_rfl) rfl #[.agg #[.string a0_0, .string a0_1, .string a0_2, .int .i64 a0_3, .int .i64 a0_4, .slice A0_5 l0_5.length c0_5, .int .i64 a0_6, .int .i64 a0_7, .int .i64 a0_8], .agg #[.string a1_0, .string a1_1, .string a1_2, .int .i64 a1_3, .int .i64 a1_4, .slice A1_5 l1_5.length c1_5, .int .i64 a1_6, .int .i64 a1_7, .int .i64 a1_8]] (by rfl) rfl rfl (by (try simp only [List.map_toArray, List.map_cons, List.map_nil]); first | done | rfl | (simp only [List.length_drop, List.length_take]; rfl)) ?_
              with_reducible refine (policy_Same.calls kj5 a0_0 a0_1 a0_2 a0_3 a0_4 _ _ l0_5 a0_6 a0_7 a0_8 a1_0 a1_1 a1_2 a1_3 a1_4 _ _ l1_5 a1_6 a1_7 a1_8 t200 _ ?side1 ?side2 ?side3 ?side4 A38.out).mono ?_
              (case side1 => repeat (first | exact (Kd.C_below HR0_5.out HB.out) | (with_reducible refine Kd.C_alloc ?_ _) | (with_reducible refine Kd.C_drewN ?_ _) | (with_reducible refine Kd.C_drew ?_)))
              (case side2 => exact HC0_5.out)
              (case side3 => repeat (first | exact (Kd.C_below HR1_5.out HB.out) | (with_reducible refine Kd.C_alloc ?_ _) | (with_reducible refine Kd.C_drewN ?_ _) | (with_reducible refine Kd.C_drew ?_)))
              (case side4 => exact HC1_5.out)
              rintro e w48 ⟨rfl, hb⟩
              refine ⟨_, rfl, ?_⟩
              have n0_ := Aside0.mk (Kd.R_below (by (with_reducible repeat (first | apply Kd.R_alloc | apply Kd.R_drewN | apply Kd.R_drew)); exact HO197.out) hb)
              have n1_ := Aside0.mk (blk_below (g := gb187) (o := .cells #[.string a0_0, .string a0_1, .string a0_2, .int .i64 a0_3, .int .i64 a0_4, .slice A0_5 l0_5.length c0_5, .int .i64 a0_6, .int .i64 a0_7, .int .i64 a0_8] 24 (0, 0)) (by (with_reducible repeat (first | refine blk_drewN ?_ _ | refine blk_drew ?_ | refine blk_alloc ?_ _)); exact BK187.out) hb)
              have n2_ := Aside0.mk (blk_below (g := gb188) (o := .cells #[.string a1_0, .string a1_1, .string a1_2, .int .i64 a1_3, .int .i64 a1_4, .slice A1_5 l1_5.length c1_5, .int .i64 a1_6, .int .i64 a1_7, .int .i64 a1_8] 24 (0, 0)) (by (with_reducible repeat (first | refine blk_drewN ?_ _ | refine blk_drew ?_ | refine blk_alloc ?_ _)); exact BK188.out) hb)
              have n3_ := Aside0.mk (blk_below (g := gb199) (o := .cells #[.int .i64 t192, .string t193, .string t194, .slice Ao37 t195.length co37] 29 (0, 0)) (by (with_reducible repeat (first | refine blk_drewN ?_ _ | refine blk_drew ?_ | refine blk_alloc ?_ _)); exact BK199.out) hb)
              have n4_ := Aside0.mk (below_step (by repeat (first | (with_reducible first | exact HB.out | apply below_alloc | apply pw_below_drewN | apply below_drew1 | refine below_set ?_ GE187.out | refine below_set ?_ GE188.out | refine below_set ?_ GE199.out) | exact HB.out)) hb)
              clear HO197
              clear BK187
              clear BK188
              clear BK199
              clear HB
              have HO197 := n0_
              have BK187 := n1_
              have BK188 := n2_
              have BK199 := n3_
              have HB := n4_
              clear n0_ n1_ n2_ n3_ n4_
              (try clear hb)
              (try clear hb2)
              (try clear hk)
              (try clear hi)
              refine hK.out _ _ ⟨(blk_cell BK187.out 0).trans rfl, (blk_cell BK187.out 1).trans rfl, (blk_cell BK187.out 2).trans rfl, (blk_cell BK187.out 3).trans rfl, (blk_cell BK187.out 4).trans rfl, (blk_cell BK187.out 5).trans rfl, (blk_cell BK187.out 6).trans rfl, (blk_cell BK187.out 7).trans rfl, (blk_cell BK187.out 8).trans rfl, (blk_cell BK188.out 0).trans rfl, (blk_cell BK188.out 1).trans rfl, (blk_cell BK188.out 2).trans rfl, (blk_cell BK188.out 3).trans rfl, (blk_cell BK188.out 4).trans rfl, (blk_cell BK188.out 5).trans rfl, (blk_cell BK188.out 6).trans rfl, (blk_cell BK188.out 7).trans rfl, (blk_cell BK188.out 8).trans rfl⟩ (fun hHeld => ?_)
              clear hK K
              refine norm_ (a' := ?_) ?_ ?_
              rotate_left
              · show Act.put _ (some 30) _ = _
                simp only [Act.put, List.setIfInBounds_toArray, List.set_cons_zero, List.set_cons_succ, i64_w, i32_w]
                rfl
              refine one_ (i := 5) (N := some 33) #[true, true, true, true, true, true, false, false, false, false, false, false, false] rfl rfl (one_of HT_.out (by kernel_rfl)) (by decide) (fun K hK => ?_)
              refine goes_ Tryd.func8 (by kernel_rfl) rfl #[.agg #[.string a0_0, .string a0_1, .string a0_2, .int .i64 a0_3, .int .i64 a0_4, .slice A0_5 l0_5.length c0_5, .int .i64 a0_6, .int .i64 a0_7, .int .i64 a0_8], .agg #[.string a1_0, .string a1_1, .string a1_2, .int .i64 a1_3, .int .i64 a1_4, .slice A1_5 l1_5.length c1_5, .int .i64 a1_6, .int .i64 a1_7, .int .i64 a1_8]] (by rfl) rfl rfl (by (try simp only [List.map_toArray, List.map_cons, List.map_nil]); first | done | rfl | (simp only [List.length_drop, List.length_take]; rfl)) ?_
              with_reducible refine (supercargoref42_Same.calls kj5 a0_0 a0_1 a0_2 a0_3 a0_4 _ _ l0_5 a0_6 a0_7 a0_8 a1_0 a1_1 a1_2 a1_3 a1_4 _ _ l1_5 a1_6 a1_7 a1_8 t201 _ ?side1 ?side2 ?side3 ?side4 A39.out).mono ?_
              (case side1 => repeat (first | exact (Kd.C_below HR0_5.out HB.out) | (with_reducible refine Kd.C_alloc ?_ _) | (with_reducible refine Kd.C_drewN ?_ _) | (with_reducible refine Kd.C_drew ?_)))
              (case side2 => exact HC0_5.out)
              (case side3 => repeat (first | exact (Kd.C_below HR1_5.out HB.out) | (with_reducible refine Kd.C_alloc ?_ _) | (with_reducible refine Kd.C_drewN ?_ _) | (with_reducible refine Kd.C_drew ?_)))
              (case side4 => exact HC1_5.out)
              rintro e w49 ⟨rfl, hb⟩
              refine ⟨_, rfl, ?_⟩
              have n0_ := Aside0.mk (Kd.R_below (by (with_reducible repeat (first | apply Kd.R_alloc | apply Kd.R_drewN | apply Kd.R_drew)); exact HO197.out) hb)
              have n1_ := Aside0.mk (blk_below (g := gb187) (o := .cells #[.string a0_0, .string a0_1, .string a0_2, .int .i64 a0_3, .int .i64 a0_4, .slice A0_5 l0_5.length c0_5, .int .i64 a0_6, .int .i64 a0_7, .int .i64 a0_8] 24 (0, 0)) (by (with_reducible repeat (first | refine blk_drewN ?_ _ | refine blk_drew ?_ | refine blk_alloc ?_ _)); exact BK187.out) hb)
              have n2_ := Aside0.mk (blk_below (g := gb188) (o := .cells #[.string a1_0, .string a1_1, .string a1_2, .int .i64 a1_3, .int .i64 a1_4, .slice A1_5 l1_5.length c1_5, .int .i64 a1_6, .int .i64 a1_7, .int .i64 a1_8] 24 (0, 0)) (by (with_reducible repeat (first | refine blk_drewN ?_ _ | refine blk_drew ?_ | refine blk_alloc ?_ _)); exact BK188.out) hb)
              have n3_ := Aside0.mk (blk_below (g := gb199) (o := .cells #[.int .i64 t192, .string t193, .string t194, .slice Ao37 t195.length co37] 29 (0, 0)) (by (with_reducible repeat (first | refine blk_drewN ?_ _ | refine blk_drew ?_ | refine blk_alloc ?_ _)); exact BK199.out) hb)
              have n4_ := Aside0.mk (below_step (by repeat (first | (with_reducible first | exact HB.out | apply below_alloc | apply pw_below_drewN | apply below_drew1 | refine below_set ?_ GE187.out | refine below_set ?_ GE188.out | refine below_set ?_ GE199.out) | exact HB.out)) hb)
              clear HO197
              clear BK187
              clear BK188
              clear BK199
              clear HB
              have HO197 := n0_
              have BK187 := n1_
              have BK188 := n2_
              have BK199 := n3_
              have HB := n4_
              clear n0_ n1_ n2_ n3_ n4_
              (try clear hb)
              (try clear hb2)
              (try clear hk)
              (try clear hi)
              refine hK.out _ _ ⟨(blk_cell BK187.out 0).trans rfl, (blk_cell BK187.out 1).trans rfl, (blk_cell BK187.out 2).trans rfl, (blk_cell BK187.out 3).trans rfl, (blk_cell BK187.out 4).trans rfl, (blk_cell BK187.out 5).trans rfl, (blk_cell BK187.out 6).trans rfl, (blk_cell BK187.out 7).trans rfl, (blk_cell BK187.out 8).trans rfl, (blk_cell BK188.out 0).trans rfl, (blk_cell BK188.out 1).trans rfl, (blk_cell BK188.out 2).trans rfl, (blk_cell BK188.out 3).trans rfl, (blk_cell BK188.out 4).trans rfl, (blk_cell BK188.out 5).trans rfl, (blk_cell BK188.out 6).trans rfl, (blk_cell BK188.out 7).trans rfl, (blk_cell BK188.out 8).trans rfl⟩ (fun hHeld => ?_)
              clear hK K
              refine norm_ (a' := ?_) ?_ ?_
              rotate_left
              · show Act.put _ (some 33) _ = _
                simp only [Act.put, List.setIfInBounds_toArray, List.set_cons_zero, List.set_cons_succ, i64_w, i32_w]
                rfl
              refine pure_ (i := 6) (N := some 34) (v := ?_) (a' := ?_) #[true, true, true, true, true, true, true, false, false, false, false, false, false] rfl rfl (any_of HT_.out (by kernel_rfl)) (fun _ _ _ h => h) (Or.inl ⟨by rfl, ?_⟩) ?_ ?_
              rotate_left
              · intro w'
                go_simp
                with_reducible rfl
              rotate_left
              · simp only [Act.put, List.setIfInBounds_toArray, List.set_cons_zero, List.set_cons_succ, i64_w, i32_w]
                rfl
              refine pure_ (i := 7) (N := some 35) (v := ?_) (a' := ?_) #[true, true, true, true, true, true, true, true, false, false, false, false, false] rfl rfl (any_of HT_.out (by kernel_rfl)) (fun _ _ _ h => h) (Or.inl ⟨by rfl, ?_⟩) ?_ ?_
              rotate_left
              · intro w'
                go_simp
                with_reducible rfl
              rotate_left
              · simp only [Act.put, List.setIfInBounds_toArray, List.set_cons_zero, List.set_cons_succ, i64_w, i32_w]
                rfl
              refine take_ (i := 8) (N := some 36) (v := ?_) (a' := ?_) #[true, true, true, true, true, true, true, true, true, false, false, false, false] rfl rfl (take_ofW HT_.out HW_.out (by kernel_rfl)) (fun _ _ _ h => h) (Or.inl ⟨by rfl, ?_⟩) hHeld ?_ ?_
              rotate_left
              · rintro w' ⟨s0, s1, s2, s3, s4, s5, s6, s7, s8, s9, s10, s11, s12, s13, s14, s15, s16, s17⟩
                go_simp
                with_reducible rfl
              rotate_left
              · simp only [Act.put, List.setIfInBounds_toArray, List.set_cons_zero, List.set_cons_succ, i64_w, i32_w]
                rfl
              refine take_ (i := 9) (N := some 37) (v := ?_) (a' := ?_) #[true, true, true, true, true, true, true, true, true, true, false, false, false] rfl rfl (take_ofW HT_.out HW_.out (by kernel_rfl)) (fun _ _ _ h => h) (Or.inl ⟨by rfl, ?_⟩) hHeld ?_ ?_
              rotate_left
              · rintro w' ⟨s0, s1, s2, s3, s4, s5, s6, s7, s8, s9, s10, s11, s12, s13, s14, s15, s16, s17⟩
                go_simp
                with_reducible rfl
              rotate_left
              · simp only [Act.put, List.setIfInBounds_toArray, List.set_cons_zero, List.set_cons_succ, i64_w, i32_w]
                rfl
              refine one_ (i := 10) (N := some 38) #[true, true, true, true, true, true, true, true, true, true, true, false, false] rfl rfl (one_of HT_.out (by kernel_rfl)) (by decide) (fun K hK => ?_)
              refine goes_ Tryd.func7 (by kernel_rfl) rfl #[.agg #[.string a0_0, .string a0_1, .string a0_2, .int .i64 a0_3, .int .i64 a0_4, .slice A0_5 l0_5.length c0_5, .int .i64 a0_6, .int .i64 a0_7, .int .i64 a0_8], .agg #[.string a0_0, .string a0_1, .string a0_2, .int .i64 a0_3, .int .i64 a0_4, .slice A0_5 l0_5.length c0_5, .int .i64 a0_6, .int .i64 a0_7, .int .i64 a0_8]] (by rfl) rfl rfl (by (try simp only [List.map_toArray, List.map_cons, List.map_nil]); first | done | rfl | (simp only [List.length_drop, List.length_take]; rfl)) ?_
              with_reducible refine (policy_Same.calls kj5 a0_0 a0_1 a0_2 a0_3 a0_4 _ _ l0_5 a0_6 a0_7 a0_8 a0_0 a0_1 a0_2 a0_3 a0_4 _ _ l0_5 a0_6 a0_7 a0_8 t202 _ ?side1 ?side2 ?side3 ?side4 A45.out).mono ?_
              (case side1 => repeat (first | exact (Kd.C_below HR0_5.out HB.out) | (with_reducible refine Kd.C_alloc ?_ _) | (with_reducible refine Kd.C_drewN ?_ _) | (with_reducible refine Kd.C_drew ?_)))
              (case side2 => exact HC0_5.out)
              (case side3 => repeat (first | exact (Kd.C_below HR0_5.out HB.out) | (with_reducible refine Kd.C_alloc ?_ _) | (with_reducible refine Kd.C_drewN ?_ _) | (with_reducible refine Kd.C_drew ?_)))
              (case side4 => exact HC0_5.out)
              rintro e w50 ⟨rfl, hb⟩
              refine ⟨_, rfl, ?_⟩
              have n0_ := Aside0.mk (Kd.R_below (by (with_reducible repeat (first | apply Kd.R_alloc | apply Kd.R_drewN | apply Kd.R_drew)); exact HO197.out) hb)
              have n1_ := Aside0.mk (blk_below (g := gb187) (o := .cells #[.string a0_0, .string a0_1, .string a0_2, .int .i64 a0_3, .int .i64 a0_4, .slice A0_5 l0_5.length c0_5, .int .i64 a0_6, .int .i64 a0_7, .int .i64 a0_8] 24 (0, 0)) (by (with_reducible repeat (first | refine blk_drewN ?_ _ | refine blk_drew ?_ | refine blk_alloc ?_ _)); exact BK187.out) hb)
              have n2_ := Aside0.mk (blk_below (g := gb188) (o := .cells #[.string a1_0, .string a1_1, .string a1_2, .int .i64 a1_3, .int .i64 a1_4, .slice A1_5 l1_5.length c1_5, .int .i64 a1_6, .int .i64 a1_7, .int .i64 a1_8] 24 (0, 0)) (by (with_reducible repeat (first | refine blk_drewN ?_ _ | refine blk_drew ?_ | refine blk_alloc ?_ _)); exact BK188.out) hb)
              have n3_ := Aside0.mk (blk_below (g := gb199) (o := .cells #[.int .i64 t192, .string t193, .string t194, .slice Ao37 t195.length co37] 29 (0, 0)) (by (with_reducible repeat (first | refine blk_drewN ?_ _ | refine blk_drew ?_ | refine blk_alloc ?_ _)); exact BK199.out) hb)
              have n4_ := Aside0.mk (below_step (by repeat (first | (with_reducible first | exact HB.out | apply below_alloc | apply pw_below_drewN | apply below_drew1 | refine below_set ?_ GE187.out | refine below_set ?_ GE188.out | refine below_set ?_ GE199.out) | exact HB.out)) hb)
              clear HO197
              clear BK187
              clear BK188
              clear BK199
              clear HB
              have HO197 := n0_
              have BK187 := n1_
              have BK188 := n2_
              have BK199 := n3_
              have HB := n4_
              clear n0_ n1_ n2_ n3_ n4_
              (try clear hb)
              (try clear hb2)
              (try clear hk)
              (try clear hi)
              refine hK.out _ _ ⟨(blk_cell BK187.out 0).trans rfl, (blk_cell BK187.out 1).trans rfl, (blk_cell BK187.out 2).trans rfl, (blk_cell BK187.out 3).trans rfl, (blk_cell BK187.out 4).trans rfl, (blk_cell BK187.out 5).trans rfl, (blk_cell BK187.out 6).trans rfl, (blk_cell BK187.out 7).trans rfl, (blk_cell BK187.out 8).trans rfl, (blk_cell BK188.out 0).trans rfl, (blk_cell BK188.out 1).trans rfl, (blk_cell BK188.out 2).trans rfl, (blk_cell BK188.out 3).trans rfl, (blk_cell BK188.out 4).trans rfl, (blk_cell BK188.out 5).trans rfl, (blk_cell BK188.out 6).trans rfl, (blk_cell BK188.out 7).trans rfl, (blk_cell BK188.out 8).trans rfl⟩ (fun hHeld => ?_)
              clear hK K
              refine norm_ (a' := ?_) ?_ ?_
              rotate_left
              · show Act.put _ (some 38) _ = _
                simp only [Act.put, List.setIfInBounds_toArray, List.set_cons_zero, List.set_cons_succ, i64_w, i32_w]
                rfl
              refine pure_ (i := 11) (N := some 39) (v := ?_) (a' := ?_) #[true, true, true, true, true, true, true, true, true, true, true, true, false] rfl rfl (any_of HT_.out (by kernel_rfl)) (fun _ _ _ h => h) (Or.inl ⟨by rfl, ?_⟩) ?_ ?_
              rotate_left
              · intro w'
                go_simp
                with_reducible rfl
              rotate_left
              · simp only [Act.put, List.setIfInBounds_toArray, List.set_cons_zero, List.set_cons_succ, i64_w, i32_w]
                rfl
              refine pure_ (i := 12) (N := some 40) (v := ?_) (a' := ?_) #[true, true, true, true, true, true, true, true, true, true, true, true, true] rfl rfl (any_of HT_.out (by kernel_rfl)) (fun _ _ _ h => h) (Or.inl ⟨by rfl, ?_⟩) ?_ ?_
              rotate_left
              · intro w'
                go_simp
                with_reducible rfl
              rotate_left
              · simp only [Act.put, List.setIfInBounds_toArray, List.set_cons_zero, List.set_cons_succ, i64_w, i32_w]
                rfl
              refine done_ (done_of HT_.out (by kernel_rfl)) ?_
              try go_wp2
              go_meet
              case rel => exact ⟨_, (!t202), (by first | rfl | (simp; done) | (simp [*]; done)), H', ⟨by have := HJ5.out; first | omega | exact Nat.le_refl _⟩, ⟨by (with_reducible repeat (first | apply Kd.R_alloc | apply Kd.R_drewN | apply Kd.R_drew)); exact HO197.out⟩, ⟨by (with_reducible repeat (first | refine blk_drewN ?_ _ | refine blk_drew ?_ | refine blk_alloc ?_ _)); exact BK187.out⟩, ⟨by (with_reducible repeat (first | refine blk_drewN ?_ _ | refine blk_drew ?_ | refine blk_alloc ?_ _)); exact BK188.out⟩, ⟨by (with_reducible repeat (first | refine blk_drewN ?_ _ | refine blk_drew ?_ | refine blk_alloc ?_ _)); exact BK199.out⟩, ⟨by repeat (first | (with_reducible first | exact HB.out | apply below_alloc | apply pw_below_drewN | apply below_drew1 | refine below_set ?_ GE187.out | refine below_set ?_ GE188.out | refine below_set ?_ GE199.out) | exact HB.out)⟩⟩
          case rest =>
            clear HC29
            try clear c1
            try clear c2
            try clear p2
            try clear c3
            try clear c4
            try clear c5
            try clear c6
            try clear c7
            try clear c8
            try clear c11
            try clear c12
            try clear c16
            try clear c17
            try clear c22
            try clear c27
            try clear c30
            try clear c34
            try clear c35
            try clear c40
            try clear c40b0
            try clear c40b1
            try clear c40b2
            try clear hcz13_0
            try clear hcz13_1
            try clear hcz13_2
            try clear hcz13_3
            try clear hcz13_4
            try clear hcz13_5
            try clear hcz13_6
            try clear hcz13_7
            try clear hcz13_8
            try clear hcz18_0
            try clear hcz18_1
            try clear hcz18_2
            try clear hcz18_3
            try clear hcz18_4
            try clear hcz18_5
            try clear hcz18_6
            try clear hcz18_7
            try clear hcz18_8
            try clear hcz20_0
            try clear hcz20_1
            try clear hcz20_2
            try clear hcz20_3
            try clear hcz20_4
            try clear hcz20_5
            try clear hcz20_6
            try clear hcz20_7
            try clear hcz20_8
            try clear hcz23_0
            try clear hcz23_1
            try clear hcz23_2
            try clear hcz23_3
            try clear hcz23_4
            try clear hcz23_5
            try clear hcz23_6
            try clear hcz23_7
            try clear hcz23_8
            try clear hcz25_0
            try clear hcz25_1
            try clear hcz25_2
            try clear hcz25_3
            try clear hcz25_4
            try clear hcz25_5
            try clear hcz25_6
            try clear hcz25_7
            try clear hcz25_8
            try clear hcz31_0
            try clear hcz31_1
            try clear hcz31_2
            try clear hcz31_3
            try clear hcz31_4
            try clear hcz31_5
            try clear hcz31_6
            try clear hcz31_7
            try clear hcz31_8
            try clear hcz36_0
            try clear hcz36_1
            try clear hcz36_2
            try clear hcz36_3
            try clear hfz13_0
            try clear hfz13_1
            try clear hfz13_2
            try clear hfz13_3
            try clear hfz13_4
            try clear hfz13_5
            try clear hfz13_6
            try clear hfz13_7
            try clear hfz13_8
            try clear hfz18_0
            try clear hfz18_1
            try clear hfz18_2
            try clear hfz18_3
            try clear hfz18_4
            try clear hfz18_5
            try clear hfz18_6
            try clear hfz18_7
            try clear hfz18_8
            try clear hfz20_0
            try clear hfz20_1
            try clear hfz20_2
            try clear hfz20_3
            try clear hfz20_4
            try clear hfz20_5
            try clear hfz20_6
            try clear hfz20_7
            try clear hfz20_8
            try clear hfz23_0
            try clear hfz23_1
            try clear hfz23_2
            try clear hfz23_3
            try clear hfz23_4
            try clear hfz23_5
            try clear hfz23_6
            try clear hfz23_7
            try clear hfz23_8
            try clear hfz25_0
            try clear hfz25_1
            try clear hfz25_2
            try clear hfz25_3
            try clear hfz25_4
            try clear hfz25_5
            try clear hfz25_6
            try clear hfz25_7
            try clear hfz25_8
            try clear hfz31_0
            try clear hfz31_1
            try clear hfz31_2
            try clear hfz31_3
            try clear hfz31_4
            try clear hfz31_5
            try clear hfz31_6
            try clear hfz31_7
            try clear hfz31_8
            try clear hfz36_0
            try clear hfz36_1
            try clear hfz36_2
            try clear hfz36_3
            obtain ⟨kq, x40_28, rfl, HA, HJ28, HO_200003, BK187, BK188, BK199, HB⟩ := hcut
            cases kq with
            | zero => exact absurd HA.out (by simp [supercargolaw42_PolicyPapers.j1])
            | succ kj28 =>
              have H := HA.out
              clear HA
              simp only [supercargolaw42_PolicyPapers.j1] at H
              by_cases c51 : x40_28 = true
              · subst c51
                have H1 : (some false) = some r := by rw [if_pos rfl] at H; exact H
                clear H
                have H := H1
                clear H1
                obtain rfl := Option.some.inj H
                go_wp2
                go_ret
                exact ⟨by first | rfl | (simp [errW_none, errW_some] <;> rfl) | (simp [*, errW_none, errW_some] <;> rfl), by repeat (first | (with_reducible first | exact HB.out | apply below_alloc | apply pw_below_drewN | apply below_drew1 | refine below_set ?_ GE187.out | refine below_set ?_ GE188.out | refine below_set ?_ GE199.out) | exact HB.out)⟩
              · replace c51 := Bool.eq_false_iff.mpr c51
                subst c51
                have H1 : ((supercargoref42_May.f kj28 a0_0 a0_1 a0_2 a0_3 a0_4 l0_5 a0_6 a0_7 a0_8).bind fun t203 => (if t203 = true then ((supercargoref06_Name.f kj28 a2).bind fun t204 => (supercargolaw42_PolicyPapers.j2 kj28 a2 t198 (!t204) a0_0 a0_1 a0_2 a0_3 a0_4 l0_5 a0_6 a0_7 a0_8 t192 t193 t194 t195)) else (supercargolaw42_PolicyPapers.j2 kj28 a2 t198 true a0_0 a0_1 a0_2 a0_3 a0_4 l0_5 a0_6 a0_7 a0_8 t192 t193 t194 t195))) = some r := by rw [if_neg (show ¬ (false = true) by decide)] at H; exact H
                clear H
                have H := H1
                clear H1
                have HC52 := Aside0.mk H
                clear H
                go_upto_region 8 with (fail)
                go_cut [48] (fun v48 wc => ∃ (kq : Nat) (x48_51 : Bool), v48 = .bool x48_51 ∧ Aside0 (supercargolaw42_PolicyPapers.j2 kq a2 t198 x48_51 a0_0 a0_1 a0_2 a0_3 a0_4 l0_5 a0_6 a0_7 a0_8 t192 t193 t194 t195 = some r) ∧ Aside0 (kq ≤ kj28) ∧ Aside0 (Kd.R k47 47 wc w.heap.size (fun _ => True) (.slice Ao37 t195.length co37) t195) ∧ Aside0 (wc.heap[gb187]? = some (.cells #[.string a0_0, .string a0_1, .string a0_2, .int .i64 a0_3, .int .i64 a0_4, (.slice A0_5 l0_5.length c0_5), .int .i64 a0_6, .int .i64 a0_7, .int .i64 a0_8] 24 (0, 0))) ∧ Aside0 (wc.heap[gb188]? = some (.cells #[.string a1_0, .string a1_1, .string a1_2, .int .i64 a1_3, .int .i64 a1_4, (.slice A1_5 l1_5.length c1_5), .int .i64 a1_6, .int .i64 a1_7, .int .i64 a1_8] 24 (0, 0))) ∧ Aside0 (wc.heap[gb199]? = some (.cells #[.int .i64 t192, .string t193, .string t194, (.slice Ao37 t195.length co37)] 29 (0, 0))) ∧ Aside0 (Below w.heap.size w wc))
                case first =>
                  have H := HC52.out
                  clear HC52
                  replace H := Option.bind_eq_some_iff.mp H
                  obtain ⟨t203, A530, H⟩ := H
                  replace H : (if t203 = true then ((supercargoref06_Name.f kj28 a2).bind fun t204 => (supercargolaw42_PolicyPapers.j2 kj28 a2 t198 (!t204) a0_0 a0_1 a0_2 a0_3 a0_4 l0_5 a0_6 a0_7 a0_8 t192 t193 t194 t195)) else (supercargolaw42_PolicyPapers.j2 kj28 a2 t198 true a0_0 a0_1 a0_2 a0_3 a0_4 l0_5 a0_6 a0_7 a0_8 t192 t193 t194 t195)) = some r := H
                  have A53 := Aside0.mk A530
                  clear A530
                  by_cases c54 : t203 = true
                  · subst c54
                    have H1 : ((supercargoref06_Name.f kj28 a2).bind fun t204 => (supercargolaw42_PolicyPapers.j2 kj28 a2 t198 (!t204) a0_0 a0_1 a0_2 a0_3 a0_4 l0_5 a0_6 a0_7 a0_8 t192 t193 t194 t195)) = some r := by rw [if_pos rfl] at H; exact H
                    clear H
                    have H := H1
                    clear H1
                    replace H := Option.bind_eq_some_iff.mp H
                    obtain ⟨t204, A550, H⟩ := H
                    replace H : (supercargolaw42_PolicyPapers.j2 kj28 a2 t198 (!t204) a0_0 a0_1 a0_2 a0_3 a0_4 l0_5 a0_6 a0_7 a0_8 t192 t193 t194 t195) = some r := H
                    have A55 := Aside0.mk A550
                    clear A550
                    have H' := Aside0.mk H
                    clear H
                    have hnb56 := NB187_188.out
                    have hnc56 := NB188_187.out
                    have hnb57 := NB187_199.out
                    have hnc57 := NB199_187.out
                    have hcz58_0 : wc.cell? ⟨gb187, 0, none⟩ = some (.string a0_0) := (blk_cell BK187.out 0).trans rfl
                    have hcz58_1 : wc.cell? ⟨gb187, 1, none⟩ = some (.string a0_1) := (blk_cell BK187.out 1).trans rfl
                    have hcz58_2 : wc.cell? ⟨gb187, 2, none⟩ = some (.string a0_2) := (blk_cell BK187.out 2).trans rfl
                    have hcz58_3 : wc.cell? ⟨gb187, 3, none⟩ = some (.int .i64 a0_3) := (blk_cell BK187.out 3).trans rfl
                    have hcz58_4 : wc.cell? ⟨gb187, 4, none⟩ = some (.int .i64 a0_4) := (blk_cell BK187.out 4).trans rfl
                    have hcz58_5 : wc.cell? ⟨gb187, 5, none⟩ = some (.slice A0_5 l0_5.length c0_5) := (blk_cell BK187.out 5).trans rfl
                    have hcz58_6 : wc.cell? ⟨gb187, 6, none⟩ = some (.int .i64 a0_6) := (blk_cell BK187.out 6).trans rfl
                    have hcz58_7 : wc.cell? ⟨gb187, 7, none⟩ = some (.int .i64 a0_7) := (blk_cell BK187.out 7).trans rfl
                    have hcz58_8 : wc.cell? ⟨gb187, 8, none⟩ = some (.int .i64 a0_8) := (blk_cell BK187.out 8).trans rfl
                    have hfz58_0 := blk_frozen BK187.out 0
                    have hfz58_1 := blk_frozen BK187.out 1
                    have hfz58_2 := blk_frozen BK187.out 2
                    have hfz58_3 := blk_frozen BK187.out 3
                    have hfz58_4 := blk_frozen BK187.out 4
                    have hfz58_5 := blk_frozen BK187.out 5
                    have hfz58_6 := blk_frozen BK187.out 6
                    have hfz58_7 := blk_frozen BK187.out 7
                    have hfz58_8 := blk_frozen BK187.out 8
                    go_wp2_with (first | ((with_reducible refine gate_callee (f := 9) rfl ?_); refine goesL_ (some 42) rfl rfl Tryd.func9 (by kernel_rfl) rfl #[.agg #[.string a0_0, .string a0_1, .string a0_2, .int .i64 a0_3, .int .i64 a0_4, .slice A0_5 l0_5.length c0_5, .int .i64 a0_6, .int .i64 a0_7, .int .i64 a0_8]] rfl (by (try simp only [List.map_toArray, List.map_cons, List.map_nil]); first | done | rfl | (simp only [List.length_drop, List.length_take]; rfl)) ?_; (with_reducible refine (supercargoref42_May.calls kj28 a0_0 a0_1 a0_2 a0_3 a0_4 _ _ l0_5 a0_6 a0_7 a0_8 true _ ?side1 ?side2 A53.out).mono ?_); (case side1 => repeat (first | exact (Kd.C_below HR0_5.out HB.out) | (with_reducible refine Kd.C_alloc ?_ _) | (with_reducible refine Kd.C_drewN ?_ _) | (with_reducible refine Kd.C_drew ?_))); (case side2 => exact HC0_5.out); rintro e w59 ⟨rfl, hb⟩; refine ⟨_, rfl, ?_⟩; have n0_ := Aside0.mk (Kd.R_below (by (with_reducible repeat (first | apply Kd.R_alloc | apply Kd.R_drewN | apply Kd.R_drew)); exact HO_200003.out) hb); have n1_ := Aside0.mk (blk_below (g := gb187) (o := .cells #[.string a0_0, .string a0_1, .string a0_2, .int .i64 a0_3, .int .i64 a0_4, .slice A0_5 l0_5.length c0_5, .int .i64 a0_6, .int .i64 a0_7, .int .i64 a0_8] 24 (0, 0)) (by (with_reducible repeat (first | refine blk_drewN ?_ _ | refine blk_drew ?_ | refine blk_alloc ?_ _)); exact BK187.out) hb); have n2_ := Aside0.mk (blk_below (g := gb188) (o := .cells #[.string a1_0, .string a1_1, .string a1_2, .int .i64 a1_3, .int .i64 a1_4, .slice A1_5 l1_5.length c1_5, .int .i64 a1_6, .int .i64 a1_7, .int .i64 a1_8] 24 (0, 0)) (by (with_reducible repeat (first | refine blk_drewN ?_ _ | refine blk_drew ?_ | refine blk_alloc ?_ _)); exact BK188.out) hb); have n3_ := Aside0.mk (blk_below (g := gb199) (o := .cells #[.int .i64 t192, .string t193, .string t194, .slice Ao37 t195.length co37] 29 (0, 0)) (by (with_reducible repeat (first | refine blk_drewN ?_ _ | refine blk_drew ?_ | refine blk_alloc ?_ _)); exact BK199.out) hb); have n4_ := Aside0.mk (below_step (by repeat (first | (with_reducible first | exact HB.out | apply below_alloc | apply pw_below_drewN | apply below_drew1 | refine below_set ?_ GE187.out | refine below_set ?_ GE188.out | refine below_set ?_ GE199.out) | exact HB.out)) hb); clear HO_200003; clear BK187; clear BK188; clear BK199; clear HB; have HO_200003 := n0_; have BK187 := n1_; have BK188 := n2_; have BK199 := n3_; have HB := n4_; clear n0_ n1_ n2_ n3_ n4_; (try clear hb); (try clear hb2); (try clear hk); (try clear hi)) | (go_at_call 10; (with_reducible refine (supercargoref06_Name.calls kj28 a2 t204 _ A55.out).mono ?_); rintro e w' ⟨rfl, ⟨nd, rfl⟩⟩))
                    go_meet
                    case rel => exact ⟨_, (!t204), (by first | rfl | (simp; done) | (simp [*]; done)), H', ⟨by have := HJ5.out; have := HJ28.out; first | omega | exact Nat.le_refl _⟩, ⟨by (with_reducible repeat (first | apply Kd.R_alloc | apply Kd.R_drewN | apply Kd.R_drew)); exact HO_200003.out⟩, ⟨by (with_reducible repeat (first | refine blk_drewN ?_ _ | refine blk_drew ?_ | refine blk_alloc ?_ _)); exact BK187.out⟩, ⟨by (with_reducible repeat (first | refine blk_drewN ?_ _ | refine blk_drew ?_ | refine blk_alloc ?_ _)); exact BK188.out⟩, ⟨by (with_reducible repeat (first | refine blk_drewN ?_ _ | refine blk_drew ?_ | refine blk_alloc ?_ _)); exact BK199.out⟩, ⟨by repeat (first | (with_reducible first | exact HB.out | apply below_alloc | apply pw_below_drewN | apply below_drew1 | refine below_set ?_ GE187.out | refine below_set ?_ GE188.out | refine below_set ?_ GE199.out) | exact HB.out)⟩⟩
                  · replace c54 := Bool.eq_false_iff.mpr c54
                    subst c54
                    have H1 : (supercargolaw42_PolicyPapers.j2 kj28 a2 t198 true a0_0 a0_1 a0_2 a0_3 a0_4 l0_5 a0_6 a0_7 a0_8 t192 t193 t194 t195) = some r := by rw [if_neg (show ¬ (false = true) by decide)] at H; exact H
                    clear H
                    have H := H1
                    clear H1
                    have H' := Aside0.mk H
                    clear H
                    have hnb60 := NB187_188.out
                    have hnc60 := NB188_187.out
                    have hnb61 := NB187_199.out
                    have hnc61 := NB199_187.out
                    have hcz62_0 : wc.cell? ⟨gb187, 0, none⟩ = some (.string a0_0) := (blk_cell BK187.out 0).trans rfl
                    have hcz62_1 : wc.cell? ⟨gb187, 1, none⟩ = some (.string a0_1) := (blk_cell BK187.out 1).trans rfl
                    have hcz62_2 : wc.cell? ⟨gb187, 2, none⟩ = some (.string a0_2) := (blk_cell BK187.out 2).trans rfl
                    have hcz62_3 : wc.cell? ⟨gb187, 3, none⟩ = some (.int .i64 a0_3) := (blk_cell BK187.out 3).trans rfl
                    have hcz62_4 : wc.cell? ⟨gb187, 4, none⟩ = some (.int .i64 a0_4) := (blk_cell BK187.out 4).trans rfl
                    have hcz62_5 : wc.cell? ⟨gb187, 5, none⟩ = some (.slice A0_5 l0_5.length c0_5) := (blk_cell BK187.out 5).trans rfl
                    have hcz62_6 : wc.cell? ⟨gb187, 6, none⟩ = some (.int .i64 a0_6) := (blk_cell BK187.out 6).trans rfl
                    have hcz62_7 : wc.cell? ⟨gb187, 7, none⟩ = some (.int .i64 a0_7) := (blk_cell BK187.out 7).trans rfl
                    have hcz62_8 : wc.cell? ⟨gb187, 8, none⟩ = some (.int .i64 a0_8) := (blk_cell BK187.out 8).trans rfl
                    have hfz62_0 := blk_frozen BK187.out 0
                    have hfz62_1 := blk_frozen BK187.out 1
                    have hfz62_2 := blk_frozen BK187.out 2
                    have hfz62_3 := blk_frozen BK187.out 3
                    have hfz62_4 := blk_frozen BK187.out 4
                    have hfz62_5 := blk_frozen BK187.out 5
                    have hfz62_6 := blk_frozen BK187.out 6
                    have hfz62_7 := blk_frozen BK187.out 7
                    have hfz62_8 := blk_frozen BK187.out 8
                    go_wp2_with (first | ((with_reducible refine gate_callee (f := 9) rfl ?_); refine goesL_ (some 42) rfl rfl Tryd.func9 (by kernel_rfl) rfl #[.agg #[.string a0_0, .string a0_1, .string a0_2, .int .i64 a0_3, .int .i64 a0_4, .slice A0_5 l0_5.length c0_5, .int .i64 a0_6, .int .i64 a0_7, .int .i64 a0_8]] rfl (by (try simp only [List.map_toArray, List.map_cons, List.map_nil]); first | done | rfl | (simp only [List.length_drop, List.length_take]; rfl)) ?_; (with_reducible refine (supercargoref42_May.calls kj28 a0_0 a0_1 a0_2 a0_3 a0_4 _ _ l0_5 a0_6 a0_7 a0_8 false _ ?side1 ?side2 A53.out).mono ?_); (case side1 => repeat (first | exact (Kd.C_below HR0_5.out HB.out) | (with_reducible refine Kd.C_alloc ?_ _) | (with_reducible refine Kd.C_drewN ?_ _) | (with_reducible refine Kd.C_drew ?_))); (case side2 => exact HC0_5.out); rintro e w63 ⟨rfl, hb⟩; refine ⟨_, rfl, ?_⟩; have n0_ := Aside0.mk (Kd.R_below (by (with_reducible repeat (first | apply Kd.R_alloc | apply Kd.R_drewN | apply Kd.R_drew)); exact HO_200003.out) hb); have n1_ := Aside0.mk (blk_below (g := gb187) (o := .cells #[.string a0_0, .string a0_1, .string a0_2, .int .i64 a0_3, .int .i64 a0_4, .slice A0_5 l0_5.length c0_5, .int .i64 a0_6, .int .i64 a0_7, .int .i64 a0_8] 24 (0, 0)) (by (with_reducible repeat (first | refine blk_drewN ?_ _ | refine blk_drew ?_ | refine blk_alloc ?_ _)); exact BK187.out) hb); have n2_ := Aside0.mk (blk_below (g := gb188) (o := .cells #[.string a1_0, .string a1_1, .string a1_2, .int .i64 a1_3, .int .i64 a1_4, .slice A1_5 l1_5.length c1_5, .int .i64 a1_6, .int .i64 a1_7, .int .i64 a1_8] 24 (0, 0)) (by (with_reducible repeat (first | refine blk_drewN ?_ _ | refine blk_drew ?_ | refine blk_alloc ?_ _)); exact BK188.out) hb); have n3_ := Aside0.mk (blk_below (g := gb199) (o := .cells #[.int .i64 t192, .string t193, .string t194, .slice Ao37 t195.length co37] 29 (0, 0)) (by (with_reducible repeat (first | refine blk_drewN ?_ _ | refine blk_drew ?_ | refine blk_alloc ?_ _)); exact BK199.out) hb); have n4_ := Aside0.mk (below_step (by repeat (first | (with_reducible first | exact HB.out | apply below_alloc | apply pw_below_drewN | apply below_drew1 | refine below_set ?_ GE187.out | refine below_set ?_ GE188.out | refine below_set ?_ GE199.out) | exact HB.out)) hb); clear HO_200003; clear BK187; clear BK188; clear BK199; clear HB; have HO_200003 := n0_; have BK187 := n1_; have BK188 := n2_; have BK199 := n3_; have HB := n4_; clear n0_ n1_ n2_ n3_ n4_; (try clear hb); (try clear hb2); (try clear hk); (try clear hi)))
                    go_meet
                    case rel => exact ⟨_, (true), (by first | rfl | (simp; done) | (simp [*]; done)), H', ⟨by have := HJ5.out; have := HJ28.out; first | omega | exact Nat.le_refl _⟩, ⟨by (with_reducible repeat (first | apply Kd.R_alloc | apply Kd.R_drewN | apply Kd.R_drew)); exact HO_200003.out⟩, ⟨by (with_reducible repeat (first | refine blk_drewN ?_ _ | refine blk_drew ?_ | refine blk_alloc ?_ _)); exact BK187.out⟩, ⟨by (with_reducible repeat (first | refine blk_drewN ?_ _ | refine blk_drew ?_ | refine blk_alloc ?_ _)); exact BK188.out⟩, ⟨by (with_reducible repeat (first | refine blk_drewN ?_ _ | refine blk_drew ?_ | refine blk_alloc ?_ _)); exact BK199.out⟩, ⟨by repeat (first | (with_reducible first | exact HB.out | apply below_alloc | apply pw_below_drewN | apply below_drew1 | refine below_set ?_ GE187.out | refine below_set ?_ GE188.out | refine below_set ?_ GE199.out) | exact HB.out)⟩⟩
                case rest =>
                  clear HC52
                  try clear c1
                  try clear c2
                  try clear p2
                  try clear c3
                  try clear c4
                  try clear c5
                  try clear c6
                  try clear c7
                  try clear c8
                  try clear c9
                  try clear c11
                  try clear c12
                  try clear c16
                  try clear c17
                  try clear c22
                  try clear c27
                  try clear c30
                  try clear c34
                  try clear c35
                  try clear c40
                  try clear c40b0
                  try clear c40b1
                  try clear c40b2
                  try clear c51
                  try clear c54
                  try clear c56
                  try clear c57
                  try clear c60
                  try clear c61
                  try clear hcz13_0
                  try clear hcz13_1
                  try clear hcz13_2
                  try clear hcz13_3
                  try clear hcz13_4
                  try clear hcz13_5
                  try clear hcz13_6
                  try clear hcz13_7
                  try clear hcz13_8
                  try clear hcz18_0
                  try clear hcz18_1
                  try clear hcz18_2
                  try clear hcz18_3
                  try clear hcz18_4
                  try clear hcz18_5
                  try clear hcz18_6
                  try clear hcz18_7
                  try clear hcz18_8
                  try clear hcz20_0
                  try clear hcz20_1
                  try clear hcz20_2
                  try clear hcz20_3
                  try clear hcz20_4
                  try clear hcz20_5
                  try clear hcz20_6
                  try clear hcz20_7
                  try clear hcz20_8
                  try clear hcz23_0
                  try clear hcz23_1
                  try clear hcz23_2
                  try clear hcz23_3
                  try clear hcz23_4
                  try clear hcz23_5
                  try clear hcz23_6
                  try clear hcz23_7
                  try clear hcz23_8
                  try clear hcz25_0
                  try clear hcz25_1
                  try clear hcz25_2
                  try clear hcz25_3
                  try clear hcz25_4
                  try clear hcz25_5
                  try clear hcz25_6
                  try clear hcz25_7
                  try clear hcz25_8
                  try clear hcz31_0
                  try clear hcz31_1
                  try clear hcz31_2
                  try clear hcz31_3
                  try clear hcz31_4
                  try clear hcz31_5
                  try clear hcz31_6
                  try clear hcz31_7
                  try clear hcz31_8
                  try clear hcz36_0
                  try clear hcz36_1
                  try clear hcz36_2
                  try clear hcz36_3
                  try clear hcz58_0
                  try clear hcz58_1
                  try clear hcz58_2
                  try clear hcz58_3
                  try clear hcz58_4
                  try clear hcz58_5
                  try clear hcz58_6
                  try clear hcz58_7
                  try clear hcz58_8
                  try clear hcz62_0
                  try clear hcz62_1
                  try clear hcz62_2
                  try clear hcz62_3
                  try clear hcz62_4
                  try clear hcz62_5
                  try clear hcz62_6
                  try clear hcz62_7
                  try clear hcz62_8
                  try clear hfz13_0
                  try clear hfz13_1
                  try clear hfz13_2
                  try clear hfz13_3
                  try clear hfz13_4
                  try clear hfz13_5
                  try clear hfz13_6
                  try clear hfz13_7
                  try clear hfz13_8
                  try clear hfz18_0
                  try clear hfz18_1
                  try clear hfz18_2
                  try clear hfz18_3
                  try clear hfz18_4
                  try clear hfz18_5
                  try clear hfz18_6
                  try clear hfz18_7
                  try clear hfz18_8
                  try clear hfz20_0
                  try clear hfz20_1
                  try clear hfz20_2
                  try clear hfz20_3
                  try clear hfz20_4
                  try clear hfz20_5
                  try clear hfz20_6
                  try clear hfz20_7
                  try clear hfz20_8
                  try clear hfz23_0
                  try clear hfz23_1
                  try clear hfz23_2
                  try clear hfz23_3
                  try clear hfz23_4
                  try clear hfz23_5
                  try clear hfz23_6
                  try clear hfz23_7
                  try clear hfz23_8
                  try clear hfz25_0
                  try clear hfz25_1
                  try clear hfz25_2
                  try clear hfz25_3
                  try clear hfz25_4
                  try clear hfz25_5
                  try clear hfz25_6
                  try clear hfz25_7
                  try clear hfz25_8
                  try clear hfz31_0
                  try clear hfz31_1
                  try clear hfz31_2
                  try clear hfz31_3
                  try clear hfz31_4
                  try clear hfz31_5
                  try clear hfz31_6
                  try clear hfz31_7
                  try clear hfz31_8
                  try clear hfz36_0
                  try clear hfz36_1
                  try clear hfz36_2
                  try clear hfz36_3
                  try clear hfz58_0
                  try clear hfz58_1
                  try clear hfz58_2
                  try clear hfz58_3
                  try clear hfz58_4
                  try clear hfz58_5
                  try clear hfz58_6
                  try clear hfz58_7
                  try clear hfz58_8
                  try clear hfz62_0
                  try clear hfz62_1
                  try clear hfz62_2
                  try clear hfz62_3
                  try clear hfz62_4
                  try clear hfz62_5
                  try clear hfz62_6
                  try clear hfz62_7
                  try clear hfz62_8
                  try clear p2
                  obtain ⟨kq, x48_51, rfl, HA, HJ51, HO_200003, BK187, BK188, BK199, HB⟩ := hcut
                  cases kq with
                  | zero => exact absurd HA.out (by simp [supercargolaw42_PolicyPapers.j2])
                  | succ kj51 =>
                    have H := HA.out
                    clear HA
                    simp only [supercargolaw42_PolicyPapers.j2] at H
                    by_cases c64 : x48_51 = true
                    · subst c64
                      have H1 : (if t198 = 1 then ((supercargoref42_Docs.f kj51 t192 t193 t194 t195 0 (⟨#[]⟩ : ByteArray) (⟨#[]⟩ : ByteArray) ([] : List (S47))).bind fun t205 => (some t205)) else (some false)) = some r := by rw [if_pos rfl] at H; exact H
                      clear H
                      have H := H1
                      clear H1
                      by_cases c65 : t198 = 1
                      · rw [if_pos c65] at H
                        have c65b0 : (t198 == 1) = true := beq_iff_eq.mpr c65
                        have c65b1 : (t198 != 1) = false := bne_eq_false_iff_eq.mpr c65
                        clear c65
                        replace H := Option.bind_eq_some_iff.mp H
                        obtain ⟨t205, A660, H⟩ := H
                        replace H : (some t205) = some r := H
                        have A66 := Aside0.mk A660
                        clear A660
                        obtain rfl := Option.some.inj H
                        have hnb67 := NB199_187.out
                        have hnc67 := NB187_199.out
                        have hnb68 := NB199_188.out
                        have hnc68 := NB188_199.out
                        have hcz69_0 : wc.cell? ⟨gb199, 0, none⟩ = some (.int .i64 t192) := (blk_cell BK199.out 0).trans rfl
                        have hcz69_1 : wc.cell? ⟨gb199, 1, none⟩ = some (.string t193) := (blk_cell BK199.out 1).trans rfl
                        have hcz69_2 : wc.cell? ⟨gb199, 2, none⟩ = some (.string t194) := (blk_cell BK199.out 2).trans rfl
                        have hcz69_3 : wc.cell? ⟨gb199, 3, none⟩ = some (.slice Ao37 t195.length co37) := (blk_cell BK199.out 3).trans rfl
                        have hfz69_0 := blk_frozen BK199.out 0
                        have hfz69_1 := blk_frozen BK199.out 1
                        have hfz69_2 := blk_frozen BK199.out 2
                        have hfz69_3 := blk_frozen BK199.out 3
                        go_wp2_with (first | (go_at_call 11; (refine (supercargoref42_Docs.calls kj51 t192 t193 t194 _ _ t195 0 (⟨#[]⟩ : ByteArray) (⟨#[]⟩ : ByteArray) _ _ ([] : List (S47)) t205 _ ?side1 ?side2 ?side3 ?side4 A66.out).mono ?_); (case side1 => repeat (first | exact (Kd.R_reads' HO_200003.out).2.2 | (with_reducible refine Kd.C_alloc ?_ _) | (with_reducible refine Kd.C_drewN ?_ _) | (with_reducible refine Kd.C_drew ?_))); (case side2 => exact (Kd.R_reads' HO_200003.out).2.1); (case side3 => exact Kd.C_nil _ _); (case side4 => exact Nat.le_refl _); rintro e w70 ⟨rfl, hb⟩; have n0_ := Aside0.mk (Kd.R_below (by (with_reducible repeat (first | apply Kd.R_alloc | apply Kd.R_drewN | apply Kd.R_drew)); exact HO_200003.out) hb); have n1_ := Aside0.mk (blk_below (g := gb187) (o := .cells #[.string a0_0, .string a0_1, .string a0_2, .int .i64 a0_3, .int .i64 a0_4, .slice A0_5 l0_5.length c0_5, .int .i64 a0_6, .int .i64 a0_7, .int .i64 a0_8] 24 (0, 0)) (by (with_reducible repeat (first | refine blk_drewN ?_ _ | refine blk_drew ?_ | refine blk_alloc ?_ _)); exact BK187.out) hb); have n2_ := Aside0.mk (blk_below (g := gb188) (o := .cells #[.string a1_0, .string a1_1, .string a1_2, .int .i64 a1_3, .int .i64 a1_4, .slice A1_5 l1_5.length c1_5, .int .i64 a1_6, .int .i64 a1_7, .int .i64 a1_8] 24 (0, 0)) (by (with_reducible repeat (first | refine blk_drewN ?_ _ | refine blk_drew ?_ | refine blk_alloc ?_ _)); exact BK188.out) hb); have n3_ := Aside0.mk (blk_below (g := gb199) (o := .cells #[.int .i64 t192, .string t193, .string t194, .slice Ao37 t195.length co37] 29 (0, 0)) (by (with_reducible repeat (first | refine blk_drewN ?_ _ | refine blk_drew ?_ | refine blk_alloc ?_ _)); exact BK199.out) hb); have n4_ := Aside0.mk (below_step (by repeat (first | (with_reducible first | exact HB.out | apply below_alloc | apply pw_below_drewN | apply below_drew1 | refine below_set ?_ GE187.out | refine below_set ?_ GE188.out | refine below_set ?_ GE199.out) | exact HB.out)) hb); clear HO_200003; clear BK187; clear BK188; clear BK199; clear HB; have HO_200003 := n0_; have BK187 := n1_; have BK188 := n2_; have BK199 := n3_; have HB := n4_; clear n0_ n1_ n2_ n3_ n4_; (try clear hb); (try clear hb2); (try clear hk); (try clear hi)))
                        go_ret
                        exact ⟨by first | rfl | (simp [errW_none, errW_some] <;> rfl) | (simp [*, errW_none, errW_some] <;> rfl), by repeat (first | (with_reducible first | exact HB.out | apply below_alloc | apply pw_below_drewN | apply below_drew1 | refine below_set ?_ GE187.out | refine below_set ?_ GE188.out | refine below_set ?_ GE199.out) | exact HB.out)⟩
                      · rw [if_neg c65] at H
                        have c65b0 : (t198 == 1) = false := beq_eq_false_iff_ne.mpr c65
                        have c65b1 : (t198 != 1) = true := bne_iff_ne.mpr c65
                        obtain rfl := Option.some.inj H
                        go_wp2
                        go_ret
                        exact ⟨by first | rfl | (simp [errW_none, errW_some] <;> rfl) | (simp [*, errW_none, errW_some] <;> rfl), by repeat (first | (with_reducible first | exact HB.out | apply below_alloc | apply pw_below_drewN | apply below_drew1 | refine below_set ?_ GE187.out | refine below_set ?_ GE188.out | refine below_set ?_ GE199.out) | exact HB.out)⟩
                    · replace c64 := Bool.eq_false_iff.mpr c64
                      subst c64
                      have H1 : (if t198 = 0 then ((supercargoref42_Doc.f kj51 a0_0 a0_1 a0_2 a0_3 a0_4 l0_5 a0_6 a0_7 a0_8 a2).bind fun bt206 => ((supercargoref42_Docs.f kj51 t192 t193 t194 t195 bt206.1 bt206.2.1 bt206.2.2.1 bt206.2.2.2).bind fun t212 => (some t212))) else (some false)) = some r := by rw [if_neg (show ¬ (false = true) by decide)] at H; exact H
                      clear H
                      have H := H1
                      clear H1
                      by_cases c71 : t198 = 0
                      · rw [if_pos c71] at H
                        have c71b0 : (t198 == 0) = true := beq_iff_eq.mpr c71
                        have c71b1 : (t198 != 0) = false := bne_eq_false_iff_eq.mpr c71
                        clear c71
                        replace H := Option.bind_eq_some_iff.mp H
                        obtain ⟨⟨t206, t207, t208, t209⟩, A720, H⟩ := H
                        replace H : ((supercargoref42_Docs.f kj51 t192 t193 t194 t195 t206 t207 t208 t209).bind fun t212 => (some t212)) = some r := H
                        have A72 := Aside0.mk A720
                        clear A720
                        replace H := Option.bind_eq_some_iff.mp H
                        obtain ⟨t212, A730, H⟩ := H
                        replace H : (some t212) = some r := H
                        have A73 := Aside0.mk A730
                        clear A730
                        obtain rfl := Option.some.inj H
                        try go_wp2
                        have n0_ := Aside0.mk (Kd.R_drew HO_200003.out)
                        have n1_ := Aside0.mk (blk_drew BK187.out)
                        have n2_ := Aside0.mk (blk_drew BK188.out)
                        have n3_ := Aside0.mk (blk_drew BK199.out)
                        have n4_ := Aside0.mk (below_drew1 HB.out)
                        clear HO_200003
                        clear BK187
                        clear BK188
                        clear BK199
                        clear HB
                        have HO_200003 := n0_
                        have BK187 := n1_
                        have BK188 := n2_
                        have BK199 := n3_
                        have HB := n4_
                        clear n0_ n1_ n2_ n3_ n4_
                        refine start_ (n := 10) (S := fun w' => w'.cell? ⟨gb199, 0, none⟩ = some (.int .i64 t192) ∧ w'.cell? ⟨gb199, 1, none⟩ = some (.string t193) ∧ w'.cell? ⟨gb199, 2, none⟩ = some (.string t194) ∧ w'.cell? ⟨gb199, 3, none⟩ = some (.slice Ao37 t195.length co37) ∧ w'.cell? ⟨gb187, 0, none⟩ = some (.string a0_0) ∧ w'.cell? ⟨gb187, 1, none⟩ = some (.string a0_1) ∧ w'.cell? ⟨gb187, 2, none⟩ = some (.string a0_2) ∧ w'.cell? ⟨gb187, 3, none⟩ = some (.int .i64 a0_3) ∧ w'.cell? ⟨gb187, 4, none⟩ = some (.int .i64 a0_4) ∧ w'.cell? ⟨gb187, 5, none⟩ = some (.slice A0_5 l0_5.length c0_5) ∧ w'.cell? ⟨gb187, 6, none⟩ = some (.int .i64 a0_6) ∧ w'.cell? ⟨gb187, 7, none⟩ = some (.int .i64 a0_7) ∧ w'.cell? ⟨gb187, 8, none⟩ = some (.int .i64 a0_8)) (ds := []) #[false, false, false, false, false, false, false, false, false, false] (by kernel_rfl) rfl rfl ⟨(blk_cell BK199.out 0).trans rfl, (blk_cell BK199.out 1).trans rfl, (blk_cell BK199.out 2).trans rfl, (blk_cell BK199.out 3).trans rfl, (blk_cell BK187.out 0).trans rfl, (blk_cell BK187.out 1).trans rfl, (blk_cell BK187.out 2).trans rfl, (blk_cell BK187.out 3).trans rfl, (blk_cell BK187.out 4).trans rfl, (blk_cell BK187.out 5).trans rfl, (blk_cell BK187.out 6).trans rfl, (blk_cell BK187.out 7).trans rfl, (blk_cell BK187.out 8).trans rfl⟩ (fun hHeld => ?_); refine with_tabW supercargolaw42_PolicyPapers.tab10 supercargolaw42_PolicyPapers.bits10 (fun HT_ HW_ => ?_)
                        generalize wc.drew = w74 at HO_200003 BK187 BK188 BK199 HB hHeld ⊢
                        refine pure_ (i := 0) (N := some 56) (v := ?_) (a' := ?_) #[true, false, false, false, false, false, false, false, false, false] rfl rfl (any_of HT_.out (by kernel_rfl)) (fun _ _ _ h => h) (Or.inl ⟨by rfl, ?_⟩) ?_ ?_
                        rotate_left
                        · intro w'
                          go_simp
                          with_reducible rfl
                        rotate_left
                        · simp only [Act.put, List.setIfInBounds_toArray, List.set_cons_zero, List.set_cons_succ, i64_w, i32_w]
                          rfl
                        refine pure_ (i := 1) (N := some 57) (v := ?_) (a' := ?_) #[true, true, false, false, false, false, false, false, false, false] rfl rfl (any_of HT_.out (by kernel_rfl)) (fun _ _ _ h => h) (Or.inl ⟨by rfl, ?_⟩) ?_ ?_
                        rotate_left
                        · intro w'
                          go_simp
                          with_reducible rfl
                        rotate_left
                        · simp only [Act.put, List.setIfInBounds_toArray, List.set_cons_zero, List.set_cons_succ, i64_w, i32_w]
                          rfl
                        refine pure_ (i := 2) (N := some 58) (v := ?_) (a' := ?_) #[true, true, true, false, false, false, false, false, false, false] rfl rfl (any_of HT_.out (by kernel_rfl)) (fun _ _ _ h => h) (Or.inl ⟨by rfl, ?_⟩) ?_ ?_
                        rotate_left
                        · intro w'
                          go_simp
                          with_reducible rfl
                        rotate_left
                        · simp only [Act.put, List.setIfInBounds_toArray, List.set_cons_zero, List.set_cons_succ, i64_w, i32_w]
                          rfl
                        refine pure_ (i := 5) (N := some 61) (v := ?_) (a' := ?_) #[true, true, true, false, false, true, false, false, false, false] rfl rfl (any_of HT_.out (by kernel_rfl)) (fun _ _ _ h => h) (Or.inl ⟨by rfl, ?_⟩) ?_ ?_
                        rotate_left
                        · intro w'
                          go_simp
                          with_reducible rfl
                        rotate_left
                        · simp only [Act.put, List.setIfInBounds_toArray, List.set_cons_zero, List.set_cons_succ, i64_w, i32_w]
                          rfl
                        refine take_ (i := 3) (N := some 59) (v := ?_) (a' := ?_) #[true, true, true, true, false, true, false, false, false, false] rfl rfl (take_ofW HT_.out HW_.out (by kernel_rfl)) (fun _ _ _ h => h) (Or.inl ⟨by rfl, ?_⟩) hHeld ?_ ?_
                        rotate_left
                        · rintro w' ⟨s0, s1, s2, s3, s4, s5, s6, s7, s8, s9, s10, s11, s12⟩
                          go_simp
                          with_reducible rfl
                        rotate_left
                        · simp only [Act.put, List.setIfInBounds_toArray, List.set_cons_zero, List.set_cons_succ, i64_w, i32_w]
                          rfl
                        refine take_ (i := 4) (N := some 60) (v := ?_) (a' := ?_) #[true, true, true, true, true, true, false, false, false, false] rfl rfl (take_ofW HT_.out HW_.out (by kernel_rfl)) (fun _ _ _ h => h) (Or.inl ⟨by rfl, ?_⟩) hHeld ?_ ?_
                        rotate_left
                        · rintro w' ⟨s0, s1, s2, s3, s4, s5, s6, s7, s8, s9, s10, s11, s12⟩
                          go_simp
                          with_reducible rfl
                        rotate_left
                        · simp only [Act.put, List.setIfInBounds_toArray, List.set_cons_zero, List.set_cons_succ, i64_w, i32_w]
                          rfl
                        refine one_ (i := 6) (N := some 62) #[true, true, true, true, true, true, true, false, false, false] rfl rfl (one_of HT_.out (by kernel_rfl)) (by decide) (fun K hK => ?_)
                        refine goes_ Tryd.func12 (by kernel_rfl) rfl #[.agg #[.string a0_0, .string a0_1, .string a0_2, .int .i64 a0_3, .int .i64 a0_4, .slice A0_5 l0_5.length c0_5, .int .i64 a0_6, .int .i64 a0_7, .int .i64 a0_8], .string a2] (by rfl) rfl rfl (by (try simp only [List.map_toArray, List.map_cons, List.map_nil]); first | done | rfl | (simp only [List.length_drop, List.length_take]; rfl)) ?_
                        with_reducible refine (supercargoref42_Doc.calls kj51 a0_0 a0_1 a0_2 a0_3 a0_4 _ _ l0_5 a0_6 a0_7 a0_8 a2 t206 t207 t208 t209 _ ?side1 ?side2 A72.out).mono ?_
                        (case side1 => repeat (first | exact (Kd.C_below HR0_5.out HB.out) | (with_reducible refine Kd.C_alloc ?_ _) | (with_reducible refine Kd.C_drewN ?_ _) | (with_reducible refine Kd.C_drew ?_)))
                        (case side2 => exact HC0_5.out)
                        rintro e w75 ⟨v210, rfl, ho0, hb⟩
                        refine ⟨_, rfl, ?_⟩
                        have n0_ := Aside0.mk (Kd.R_elder' (by (with_reducible repeat (first | apply Kd.R_alloc | apply Kd.R_drewN | apply Kd.R_drew)); exact HO_200003.out) (Kd.R_base ho0) hb)
                        have n1_ := Aside0.mk (Kd.R_lower (Kd.R_new' ho0 (Kd.R_lt (by (with_reducible repeat (first | apply Kd.R_alloc | apply Kd.R_drewN | apply Kd.R_drew)); exact HO_200003.out))) (below_size (by repeat (first | (with_reducible first | exact HB.out | apply below_alloc | apply pw_below_drewN | apply below_drew1 | refine below_set ?_ GE187.out | refine below_set ?_ GE188.out | refine below_set ?_ GE199.out) | exact HB.out))))
                        have n2_ := Aside0.mk (blk_below (g := gb187) (o := .cells #[.string a0_0, .string a0_1, .string a0_2, .int .i64 a0_3, .int .i64 a0_4, .slice A0_5 l0_5.length c0_5, .int .i64 a0_6, .int .i64 a0_7, .int .i64 a0_8] 24 (0, 0)) (by (with_reducible repeat (first | refine blk_drewN ?_ _ | refine blk_drew ?_ | refine blk_alloc ?_ _)); exact BK187.out) hb)
                        have n3_ := Aside0.mk (blk_below (g := gb188) (o := .cells #[.string a1_0, .string a1_1, .string a1_2, .int .i64 a1_3, .int .i64 a1_4, .slice A1_5 l1_5.length c1_5, .int .i64 a1_6, .int .i64 a1_7, .int .i64 a1_8] 24 (0, 0)) (by (with_reducible repeat (first | refine blk_drewN ?_ _ | refine blk_drew ?_ | refine blk_alloc ?_ _)); exact BK188.out) hb)
                        have n4_ := Aside0.mk (blk_below (g := gb199) (o := .cells #[.int .i64 t192, .string t193, .string t194, .slice Ao37 t195.length co37] 29 (0, 0)) (by (with_reducible repeat (first | refine blk_drewN ?_ _ | refine blk_drew ?_ | refine blk_alloc ?_ _)); exact BK199.out) hb)
                        have n5_ := Aside0.mk (below_step (by repeat (first | (with_reducible first | exact HB.out | apply below_alloc | apply pw_below_drewN | apply below_drew1 | refine below_set ?_ GE187.out | refine below_set ?_ GE188.out | refine below_set ?_ GE199.out) | exact HB.out)) hb)
                        clear HO_200003
                        clear BK187
                        clear BK188
                        clear BK199
                        clear HB
                        have HO_200003 := n0_
                        have HO211 := n1_
                        have BK187 := n2_
                        have BK188 := n3_
                        have BK199 := n4_
                        have HB := n5_
                        clear n0_ n1_ n2_ n3_ n4_ n5_
                        (try clear hb)
                        (try clear hb2)
                        (try clear hk)
                        (try clear hi)
                        (try clear ho0)
                        obtain ⟨Ao76, co76, eo76⟩ := Kd.R_slice HO211.out
                        (first | subst eo76 | (injection eo76 with f1_ f2_ f3_; have f4_ := f1_.symm; have f5_ := f3_.symm; clear f1_ f2_ f3_; subst f4_; subst f5_))
                        refine hK.out _ _ ⟨(blk_cell BK199.out 0).trans rfl, (blk_cell BK199.out 1).trans rfl, (blk_cell BK199.out 2).trans rfl, (blk_cell BK199.out 3).trans rfl, (blk_cell BK187.out 0).trans rfl, (blk_cell BK187.out 1).trans rfl, (blk_cell BK187.out 2).trans rfl, (blk_cell BK187.out 3).trans rfl, (blk_cell BK187.out 4).trans rfl, (blk_cell BK187.out 5).trans rfl, (blk_cell BK187.out 6).trans rfl, (blk_cell BK187.out 7).trans rfl, (blk_cell BK187.out 8).trans rfl⟩ (fun hHeld => ?_)
                        clear hK K
                        refine norm_ (a' := ?_) ?_ ?_
                        rotate_left
                        · show Act.put _ (some 62) _ = _
                          simp only [Act.put, List.setIfInBounds_toArray, List.set_cons_zero, List.set_cons_succ, i64_w, i32_w]
                          rfl
                        refine one_ (i := 7) (N := some 63) #[true, true, true, true, true, true, true, true, false, false] rfl rfl (one_of HT_.out (by kernel_rfl)) (by decide) (fun K hK => ?_)
                        refine goes_ Tryd.func11 (by kernel_rfl) rfl #[.agg #[.int .i64 t192, .string t193, .string t194, .slice Ao37 t195.length co37], .agg #[.int .i64 t206, .string t207, .string t208, .slice Ao76 t209.length co76]] (by rfl) rfl rfl (by (try simp only [List.map_toArray, List.map_cons, List.map_nil]); first | done | rfl | (simp only [List.length_drop, List.length_take]; rfl)) ?_
                        with_reducible refine (supercargoref42_Docs.calls kj51 t192 t193 t194 _ _ t195 t206 t207 t208 _ _ t209 t212 _ ?side1 ?side2 ?side3 ?side4 A73.out).mono ?_
                        (case side1 => repeat (first | exact (Kd.R_reads' HO_200003.out).2.2 | (with_reducible refine Kd.C_alloc ?_ _) | (with_reducible refine Kd.C_drewN ?_ _) | (with_reducible refine Kd.C_drew ?_)))
                        (case side2 => exact (Kd.R_reads' HO_200003.out).2.1)
                        (case side3 => repeat (first | exact (Kd.R_reads' HO211.out).2.2 | (with_reducible refine Kd.C_alloc ?_ _) | (with_reducible refine Kd.C_drewN ?_ _) | (with_reducible refine Kd.C_drew ?_)))
                        (case side4 => exact (Kd.R_reads' HO211.out).2.1)
                        rintro e w77 ⟨rfl, hb⟩
                        refine ⟨_, rfl, ?_⟩
                        have n0_ := Aside0.mk (Kd.R_below (by (with_reducible repeat (first | apply Kd.R_alloc | apply Kd.R_drewN | apply Kd.R_drew)); exact HO_200003.out) hb)
                        have n1_ := Aside0.mk (Kd.R_below (by (with_reducible repeat (first | apply Kd.R_alloc | apply Kd.R_drewN | apply Kd.R_drew)); exact HO211.out) hb)
                        have n2_ := Aside0.mk (blk_below (g := gb187) (o := .cells #[.string a0_0, .string a0_1, .string a0_2, .int .i64 a0_3, .int .i64 a0_4, .slice A0_5 l0_5.length c0_5, .int .i64 a0_6, .int .i64 a0_7, .int .i64 a0_8] 24 (0, 0)) (by (with_reducible repeat (first | refine blk_drewN ?_ _ | refine blk_drew ?_ | refine blk_alloc ?_ _)); exact BK187.out) hb)
                        have n3_ := Aside0.mk (blk_below (g := gb188) (o := .cells #[.string a1_0, .string a1_1, .string a1_2, .int .i64 a1_3, .int .i64 a1_4, .slice A1_5 l1_5.length c1_5, .int .i64 a1_6, .int .i64 a1_7, .int .i64 a1_8] 24 (0, 0)) (by (with_reducible repeat (first | refine blk_drewN ?_ _ | refine blk_drew ?_ | refine blk_alloc ?_ _)); exact BK188.out) hb)
                        have n4_ := Aside0.mk (blk_below (g := gb199) (o := .cells #[.int .i64 t192, .string t193, .string t194, .slice Ao37 t195.length co37] 29 (0, 0)) (by (with_reducible repeat (first | refine blk_drewN ?_ _ | refine blk_drew ?_ | refine blk_alloc ?_ _)); exact BK199.out) hb)
                        have n5_ := Aside0.mk (below_step (by repeat (first | (with_reducible first | exact HB.out | apply below_alloc | apply pw_below_drewN | apply below_drew1 | refine below_set ?_ GE187.out | refine below_set ?_ GE188.out | refine below_set ?_ GE199.out) | exact HB.out)) hb)
                        clear HO_200003
                        clear HO211
                        clear BK187
                        clear BK188
                        clear BK199
                        clear HB
                        have HO_200003 := n0_
                        have HO211 := n1_
                        have BK187 := n2_
                        have BK188 := n3_
                        have BK199 := n4_
                        have HB := n5_
                        clear n0_ n1_ n2_ n3_ n4_ n5_
                        (try clear hb)
                        (try clear hb2)
                        (try clear hk)
                        (try clear hi)
                        refine hK.out _ _ ⟨(blk_cell BK199.out 0).trans rfl, (blk_cell BK199.out 1).trans rfl, (blk_cell BK199.out 2).trans rfl, (blk_cell BK199.out 3).trans rfl, (blk_cell BK187.out 0).trans rfl, (blk_cell BK187.out 1).trans rfl, (blk_cell BK187.out 2).trans rfl, (blk_cell BK187.out 3).trans rfl, (blk_cell BK187.out 4).trans rfl, (blk_cell BK187.out 5).trans rfl, (blk_cell BK187.out 6).trans rfl, (blk_cell BK187.out 7).trans rfl, (blk_cell BK187.out 8).trans rfl⟩ (fun hHeld => ?_)
                        clear hK K
                        refine norm_ (a' := ?_) ?_ ?_
                        rotate_left
                        · show Act.put _ (some 63) _ = _
                          simp only [Act.put, List.setIfInBounds_toArray, List.set_cons_zero, List.set_cons_succ, i64_w, i32_w]
                          rfl
                        refine pure_ (i := 8) (N := some 64) (v := ?_) (a' := ?_) #[true, true, true, true, true, true, true, true, true, false] rfl rfl (any_of HT_.out (by kernel_rfl)) (fun _ _ _ h => h) (Or.inl ⟨by rfl, ?_⟩) ?_ ?_
                        rotate_left
                        · intro w'
                          go_simp
                          with_reducible rfl
                        rotate_left
                        · simp only [Act.put, List.setIfInBounds_toArray, List.set_cons_zero, List.set_cons_succ, i64_w, i32_w]
                          rfl
                        refine pure_ (i := 9) (N := some 6) (v := ?_) (a' := ?_) #[true, true, true, true, true, true, true, true, true, true] rfl rfl (any_of HT_.out (by kernel_rfl)) (fun _ _ _ h => h) (Or.inl ⟨by rfl, ?_⟩) ?_ ?_
                        rotate_left
                        · intro w'
                          go_simp
                          with_reducible rfl
                        rotate_left
                        · simp only [Act.put, List.setIfInBounds_toArray, List.set_cons_zero, List.set_cons_succ, i64_w, i32_w]
                          rfl
                        refine done_ (done_of HT_.out (by kernel_rfl)) ?_
                        try go_wp2
                        go_ret
                        exact ⟨by first | rfl | (simp [errW_none, errW_some] <;> rfl) | (simp [*, errW_none, errW_some] <;> rfl), by repeat (first | (with_reducible first | exact HB.out | apply below_alloc | apply pw_below_drewN | apply below_drew1 | refine below_set ?_ GE187.out | refine below_set ?_ GE188.out | refine below_set ?_ GE199.out) | exact HB.out)⟩
                      · rw [if_neg c71] at H
                        have c71b0 : (t198 == 0) = false := beq_eq_false_iff_ne.mpr c71
                        have c71b1 : (t198 != 0) = true := bne_iff_ne.mpr c71
                        obtain rfl := Option.some.inj H
                        try go_wp2
                        have n0_ := Aside0.mk (Kd.R_drew HO_200003.out)
                        have n1_ := Aside0.mk (blk_drew BK187.out)
                        have n2_ := Aside0.mk (blk_drew BK188.out)
                        have n3_ := Aside0.mk (blk_drew BK199.out)
                        have n4_ := Aside0.mk (below_drew1 HB.out)
                        clear HO_200003
                        clear BK187
                        clear BK188
                        clear BK199
                        clear HB
                        have HO_200003 := n0_
                        have BK187 := n1_
                        have BK188 := n2_
                        have BK199 := n3_
                        have HB := n4_
                        clear n0_ n1_ n2_ n3_ n4_
                        refine start_ (n := 10) (S := fun w' => True) (ds := []) #[false, false, false, false, false, false, false, false, false, false] (by kernel_rfl) rfl rfl trivial (fun hHeld => ?_); refine with_tabW supercargolaw42_PolicyPapers.tab10 supercargolaw42_PolicyPapers.bits10 (fun HT_ HW_ => ?_)
                        generalize wc.drew = w78 at HO_200003 BK187 BK188 BK199 HB hHeld ⊢
                        refine pure_ (i := 0) (N := some 56) (v := ?_) (a' := ?_) #[true, false, false, false, false, false, false, false, false, false] rfl rfl (any_of HT_.out (by kernel_rfl)) (fun _ _ _ h => h) (Or.inl ⟨by rfl, ?_⟩) ?_ ?_
                        rotate_left
                        · intro w'
                          go_simp
                          with_reducible rfl
                        rotate_left
                        · simp only [Act.put, List.setIfInBounds_toArray, List.set_cons_zero, List.set_cons_succ, i64_w, i32_w]
                          rfl
                        refine pure_ (i := 1) (N := some 57) (v := ?_) (a' := ?_) #[true, true, false, false, false, false, false, false, false, false] rfl rfl (any_of HT_.out (by kernel_rfl)) (fun _ _ _ h => h) (Or.inl ⟨by rfl, ?_⟩) ?_ ?_
                        rotate_left
                        · intro w'
                          go_simp
                          with_reducible rfl
                        rotate_left
                        · simp only [Act.put, List.setIfInBounds_toArray, List.set_cons_zero, List.set_cons_succ, i64_w, i32_w]
                          rfl
                        refine pure_ (i := 2) (N := some 58) (v := ?_) (a' := ?_) #[true, true, true, false, false, false, false, false, false, false] rfl rfl (any_of HT_.out (by kernel_rfl)) (fun _ _ _ h => h) (Or.inl ⟨by rfl, ?_⟩) ?_ ?_
                        rotate_left
                        · intro w'
                          go_simp
                          with_reducible rfl
                        rotate_left
                        · simp only [Act.put, List.setIfInBounds_toArray, List.set_cons_zero, List.set_cons_succ, i64_w, i32_w]
                          rfl
                        refine pure_ (i := 3) (N := some 59) (v := undef) (a' := ?_) #[true, true, true, true, false, false, false, false, false, false] rfl rfl (any_of HT_.out (by kernel_rfl)) (fun _ _ _ h => h) (Or.inr ⟨by rfl, rfl⟩) ?_ ?_
                        rotate_left
                        · simp only [Act.put, List.setIfInBounds_toArray, List.set_cons_zero, List.set_cons_succ, i64_w, i32_w]
                          rfl
                        refine pure_ (i := 4) (N := some 60) (v := undef) (a' := ?_) #[true, true, true, true, true, false, false, false, false, false] rfl rfl (any_of HT_.out (by kernel_rfl)) (fun _ _ _ h => h) (Or.inr ⟨by rfl, rfl⟩) ?_ ?_
                        rotate_left
                        · simp only [Act.put, List.setIfInBounds_toArray, List.set_cons_zero, List.set_cons_succ, i64_w, i32_w]
                          rfl
                        refine pure_ (i := 5) (N := some 61) (v := undef) (a' := ?_) #[true, true, true, true, true, true, false, false, false, false] rfl rfl (any_of HT_.out (by kernel_rfl)) (fun _ _ _ h => h) (Or.inr ⟨by rfl, rfl⟩) ?_ ?_
                        rotate_left
                        · simp only [Act.put, List.setIfInBounds_toArray, List.set_cons_zero, List.set_cons_succ, i64_w, i32_w]
                          rfl
                        refine pure_ (i := 6) (N := some 62) (v := undef) (a' := ?_) #[true, true, true, true, true, true, true, false, false, false] rfl rfl (any_of HT_.out (by kernel_rfl)) (fun _ _ _ h => h) (Or.inr ⟨by rfl, rfl⟩) ?_ ?_
                        rotate_left
                        · simp only [Act.put, List.setIfInBounds_toArray, List.set_cons_zero, List.set_cons_succ, i64_w, i32_w]
                          rfl
                        refine pure_ (i := 7) (N := some 63) (v := undef) (a' := ?_) #[true, true, true, true, true, true, true, true, false, false] rfl rfl (any_of HT_.out (by kernel_rfl)) (fun _ _ _ h => h) (Or.inr ⟨by rfl, rfl⟩) ?_ ?_
                        rotate_left
                        · simp only [Act.put, List.setIfInBounds_toArray, List.set_cons_zero, List.set_cons_succ, i64_w, i32_w]
                          rfl
                        refine pure_ (i := 8) (N := some 64) (v := ?_) (a' := ?_) #[true, true, true, true, true, true, true, true, true, false] rfl rfl (any_of HT_.out (by kernel_rfl)) (fun _ _ _ h => h) (Or.inl ⟨by rfl, ?_⟩) ?_ ?_
                        rotate_left
                        · intro w'
                          go_simp
                          with_reducible rfl
                        rotate_left
                        · simp only [Act.put, List.setIfInBounds_toArray, List.set_cons_zero, List.set_cons_succ, i64_w, i32_w]
                          rfl
                        refine pure_ (i := 9) (N := some 6) (v := ?_) (a' := ?_) #[true, true, true, true, true, true, true, true, true, true] rfl rfl (any_of HT_.out (by kernel_rfl)) (fun _ _ _ h => h) (Or.inl ⟨by rfl, ?_⟩) ?_ ?_
                        rotate_left
                        · intro w'
                          go_simp
                          with_reducible rfl
                        rotate_left
                        · simp only [Act.put, List.setIfInBounds_toArray, List.set_cons_zero, List.set_cons_succ, i64_w, i32_w]
                          rfl
                        refine done_ (done_of HT_.out (by kernel_rfl)) ?_
                        try go_wp2
                        go_ret
                        exact ⟨by first | rfl | (simp [errW_none, errW_some] <;> rfl) | (simp [*, errW_none, errW_some] <;> rfl), by repeat (first | (with_reducible first | exact HB.out | apply below_alloc | apply pw_below_drewN | apply below_drew1 | refine below_set ?_ GE187.out | refine below_set ?_ GE188.out | refine below_set ?_ GE199.out) | exact HB.out)⟩
  · replace c5 := Bool.eq_false_iff.mpr c5
    subst c5
    have H1 : (some false) = some r := by rw [if_neg (show ¬ (false = true) by decide)] at H; exact H
    clear H
    have H := H1
    clear H1
    obtain rfl := Option.some.inj H
    go_enter Tryd.func3, Tryd.ntmps3
    go_wp2_with (first | ((with_reducible refine gate_dst (N := 3) rfl ?_); (try (refine gate_guard (by rfl) ?_; dsimp only)); refine box_event ?hg (N := 3) ?hd (cs := #[.string a0_0, .string a0_1, .string a0_2, .int .i64 a0_3, .int .i64 a0_4, .slice A0_5 l0_5.length c0_5, .int .i64 a0_6, .int .i64 a0_7, .int .i64 a0_8]) (t := 24) ?hr ?_; (case hd => rfl); (case hg => rfl); (case hr => first | (go_simp; done) | (go_simp; rfl)); intro gb187 hg w79 hbox hb; have n0_ := Aside0.mk (below_step (by repeat (first | (with_reducible first | exact HB.out | apply below_alloc | apply pw_below_drewN | apply below_drew1) | exact HB.out)) hb); have n1_ := Aside0.mk (hbox); have n2_ := Aside0.mk ((by rw [hg]; exact (below_size (by repeat (first | (with_reducible first | exact HB.out | apply below_alloc | apply pw_below_drewN | apply below_drew1) | exact HB.out))) : w.heap.size ≤ gb187)); have n3_ := Aside0.mk ((by rw [hg]; exact (below_size (by repeat (first | (with_reducible first | exact HB.out | apply below_alloc | apply pw_below_drewN | apply below_drew1) | exact HB.out))) : w.heap.size ≤ gb187)); clear HB; have HB := n0_; have BK187 := n1_; have GW187 := n2_; have GE187 := n3_; clear n0_ n1_ n2_ n3_; clear hb hbox hg) | ((with_reducible refine gate_dst (N := 4) rfl ?_); (try (refine gate_guard (by rfl) ?_; dsimp only)); refine box_event ?hg (N := 4) ?hd (cs := #[.string a1_0, .string a1_1, .string a1_2, .int .i64 a1_3, .int .i64 a1_4, .slice A1_5 l1_5.length c1_5, .int .i64 a1_6, .int .i64 a1_7, .int .i64 a1_8]) (t := 24) ?hr ?_; (case hd => rfl); (case hg => rfl); (case hr => first | (go_simp; done) | (go_simp; rfl)); intro gb188 hg w80 hbox hb; have n0_ := Aside0.mk (blk_below (g := gb187) (o := .cells #[.string a0_0, .string a0_1, .string a0_2, .int .i64 a0_3, .int .i64 a0_4, .slice A0_5 l0_5.length c0_5, .int .i64 a0_6, .int .i64 a0_7, .int .i64 a0_8] 24 (0, 0)) (by (with_reducible repeat (first | refine blk_drewN ?_ _ | refine blk_drew ?_ | refine blk_alloc ?_ _)); exact BK187.out) hb); have n1_ := Aside0.mk (below_step (by repeat (first | (with_reducible first | exact HB.out | apply below_alloc | apply pw_below_drewN | apply below_drew1 | refine below_set ?_ GE187.out) | exact HB.out)) hb); have n2_ := Aside0.mk (hbox); have n3_ := Aside0.mk ((by rw [hg]; exact (below_size (by repeat (first | (with_reducible first | exact HB.out | apply below_alloc | apply pw_below_drewN | apply below_drew1 | refine below_set ?_ GE187.out) | exact HB.out))) : w.heap.size ≤ gb188)); have n4_ := Aside0.mk ((by rw [hg]; exact (below_size (by repeat (first | (with_reducible first | exact HB.out | apply below_alloc | apply pw_below_drewN | apply below_drew1 | refine below_set ?_ GE187.out) | exact HB.out))) : w.heap.size ≤ gb188)); have n5_ := Aside0.mk ((by rw [hg]; exact Nat.ne_of_lt (blk_lt (g := gb187) (o := .cells #[.string a0_0, .string a0_1, .string a0_2, .int .i64 a0_3, .int .i64 a0_4, .slice A0_5 l0_5.length c0_5, .int .i64 a0_6, .int .i64 a0_7, .int .i64 a0_8] 24 (0, 0)) (by (with_reducible repeat (first | refine blk_drewN ?_ _ | refine blk_drew ?_ | refine blk_alloc ?_ _)); exact BK187.out)) : gb187 ≠ gb188)); have n6_ := Aside0.mk ((by rw [hg]; exact Nat.ne_of_gt (blk_lt (g := gb187) (o := .cells #[.string a0_0, .string a0_1, .string a0_2, .int .i64 a0_3, .int .i64 a0_4, .slice A0_5 l0_5.length c0_5, .int .i64 a0_6, .int .i64 a0_7, .int .i64 a0_8] 24 (0, 0)) (by (with_reducible repeat (first | refine blk_drewN ?_ _ | refine blk_drew ?_ | refine blk_alloc ?_ _)); exact BK187.out)) : gb188 ≠ gb187)); clear BK187; clear HB; have BK187 := n0_; have HB := n1_; have BK188 := n2_; have GW188 := n3_; have GE188 := n4_; have NB187_188 := n5_; have NB188_187 := n6_; clear n0_ n1_ n2_ n3_ n4_ n5_ n6_; clear hb hbox hg) | ((with_reducible refine gate_callee (f := 4) rfl ?_); refine goesL_ (some 9) rfl rfl Tryd.func4 (by kernel_rfl) rfl #[] rfl (by (try simp only [List.map_toArray, List.map_cons, List.map_nil]); first | done | rfl | (simp only [List.length_drop, List.length_take]; rfl)) ?_; (with_reducible refine (supercargolaw42_awake.calls  false _ A4.out).mono ?_); rintro e w81 ⟨rfl, hb⟩; refine ⟨_, rfl, ?_⟩; have n0_ := Aside0.mk (blk_below (g := gb187) (o := .cells #[.string a0_0, .string a0_1, .string a0_2, .int .i64 a0_3, .int .i64 a0_4, .slice A0_5 l0_5.length c0_5, .int .i64 a0_6, .int .i64 a0_7, .int .i64 a0_8] 24 (0, 0)) (by (with_reducible repeat (first | refine blk_drewN ?_ _ | refine blk_drew ?_ | refine blk_alloc ?_ _)); exact BK187.out) hb); have n1_ := Aside0.mk (blk_below (g := gb188) (o := .cells #[.string a1_0, .string a1_1, .string a1_2, .int .i64 a1_3, .int .i64 a1_4, .slice A1_5 l1_5.length c1_5, .int .i64 a1_6, .int .i64 a1_7, .int .i64 a1_8] 24 (0, 0)) (by (with_reducible repeat (first | refine blk_drewN ?_ _ | refine blk_drew ?_ | refine blk_alloc ?_ _)); exact BK188.out) hb); have n2_ := Aside0.mk (below_step (by repeat (first | (with_reducible first | exact HB.out | apply below_alloc | apply pw_below_drewN | apply below_drew1 | refine below_set ?_ GE187.out | refine below_set ?_ GE188.out) | exact HB.out)) hb); clear BK187; clear BK188; clear HB; have BK187 := n0_; have BK188 := n1_; have HB := n2_; clear n0_ n1_ n2_; (try clear hb); (try clear hb2); (try clear hk); (try clear hi)))
    go_ret
    exact ⟨by first | rfl | (simp [errW_none, errW_some] <;> rfl) | (simp [*, errW_none, errW_some] <;> rfl), by repeat (first | (with_reducible first | exact HB.out | apply below_alloc | apply pw_below_drewN | apply below_drew1 | refine below_set ?_ GE187.out | refine below_set ?_ GE188.out) | exact HB.out)⟩

end Go.Proofs.YtkjcblbpeoijhaaDoor.G
