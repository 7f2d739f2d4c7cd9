/- PolicyShares' walk over the printed contracts, and its plain law. -/
import Derived.Test.YtkjcblbpeoijhaaPurePolicyMore
import Derived.RegionTactic
import Derived.ChangeAlike
namespace Go.Proofs.Ytkjcblbpeoijhaa.Pol
open Go.RowKit Go.Proofs.YtkjcblbpeoijhaaW.PrintWords Go.Proofs.YtkjcblbpeoijhaaW.PrintLast Go.Proofs.YtkjcblbpeoijhaaW.PrintMore Go.Proofs.Ytkjcblbpeoijhaa.G Go.Proofs.Ytkjcblbpeoijhaa.Ext
set_option linter.unusedVariables false
theorem set1 {W : World} {g : Nat} {f0 f1 f2 : ByteArray} {f3 f4 : Int} {v5 : Value} {f6 f7 f8 : Int} (h : Box W g f0 f1 f2 f3 f4 v5 f6 f7 f8) (n8 : Int) :
    ∃ W', W.setCell ⟨g, 8, none⟩ (.int .i64 n8) = W' ∧ Box W' g f0 f1 f2 f3 f4 v5 f6 f7 n8 ∧ (∀ w : World, Below w.heap.size w W → w.heap.size ≤ g → Below w.heap.size w W') ∧ ∀ b cs t, b ≠ g → W.heap[b]? = some (.cells cs t (0, 0)) → W'.heap[b]? = some (.cells cs t (0, 0)) :=
  ⟨_, rfl, ⟨(blk_set h.out 8 _).trans (by simp [pcells])⟩, fun w hb hg => below_set hb hg, fun b cs t hne hb => blk_far hb hne _⟩
theorem mk2 {w3 w : World} {g : Nat} {f0 f1 f2 : ByteArray} {f3 f4 : Int} {v5 : Value} {f6 f7 f8 : Int} (h : Box w3 g f0 f1 f2 f3 f4 v5 f6 f7 f8) (hb : Below w.heap.size w w3) (s1 s2 : Int) :
    ∃ w4, ((w3.alloc (.cells #[.string f0, .string f1, .string f2, .int .i64 f3, .int .i64 f4, v5, .int .i64 f6, .int .i64 f7, .int .i64 s1] 24)).alloc (.cells #[.string f0, .string f1, .string f2, .int .i64 f3, .int .i64 f4, v5, .int .i64 f6, .int .i64 f7, .int .i64 s2] 24)).drew = w4 ∧
      Box w4 w3.heap.size f0 f1 f2 f3 f4 v5 f6 f7 s1 ∧ Box w4 (w3.heap.size + 1) f0 f1 f2 f3 f4 v5 f6 f7 s2 ∧ Box w4 g f0 f1 f2 f3 f4 v5 f6 f7 f8 ∧ Below w.heap.size w w4 :=
  ⟨_, rfl, ⟨blk_drew (blk_alloc (blk_new _ _) _)⟩, ⟨by
    have h1 := blk_new (w3.alloc (.cells #[.string f0, .string f1, .string f2, .int .i64 f3, .int .i64 f4, v5, .int .i64 f6, .int .i64 f7, .int .i64 s1] 24)) (.cells #[.string f0, .string f1, .string f2, .int .i64 f3, .int .i64 f4, v5, .int .i64 f6, .int .i64 f7, .int .i64 s2] 24)
    rw [World.size_alloc] at h1
    exact blk_drew h1⟩, ⟨blk_drew (blk_alloc (blk_alloc h.out _) _)⟩, below_drew (below_alloc (below_alloc hb _) _)⟩
set_option maxHeartbeats 4000000 in
set_option maxRecDepth 100000 in
theorem shares_main (f0 f1 f2 : ByteArray) (f3 f4 : Int) (A5 : Option Addr) (c5 : Nat) (l : List Int) (f6 f7 f8 a1 a2 a3 : Int) (w : World) (hr : Kd.C (Kd.int .i64) w A5 l.length l) (hc : l.length ≤ c5)
    (k : Nat) (hA : supercargolaw42_awake.f k = some true) (hL : supercargoref42_Long.f f0 f1 f2 f3 f4 l f6 f7 f8 = some false) (g1 : 1 ≤ a1) (g2 : a1 ≤ 999)
    (rn rm rk : Int) (b : Bool) (hP1 : policy_Pays.f k f0 f1 f2 f3 f4 l f6 f7 1000 a2 a3 = some (rn, b)) (hP2 : policy_Pays.f k f0 f1 f2 f3 f4 l f6 f7 a1 a2 a3 = some (rm, b)) (hP3 : policy_Pays.f k f0 f1 f2 f3 f4 l f6 f7 (1000 - a1) a2 a3 = some (rk, b))
    (e0 : b = false → rm = 0 ∧ rk = 0) (r1 : 0 ≤ rm ∧ rm ≤ 1099511627776) (r2 : 0 ≤ rk ∧ rk ≤ 1099511627776) (r3 : 0 ≤ rn ∧ rn ≤ 1099511627776) (e1 : b = true → rm + rk ≤ rn ∧ rn - 1 ≤ rm + rk) :
    Calls Try.prog 5 #[.agg #[.string f0, .string f1, .string f2, .int .i64 f3, .int .i64 f4, .slice A5 l.length c5, .int .i64 f6, .int .i64 f7, .int .i64 f8], .int .i64 a1, .int .i64 a2, .int .i64 a3] w fun e w' => e = .returned (.bool true) ∧ Below w.heap.size w w' := by
  have hu24 := Try.underlying24
  have HR := Aside0.mk hr
  have HA := Aside0.mk hA
  have HL := Aside0.mk hL
  have HP1 := Aside0.mk hP1
  have HP2 := Aside0.mk hP2
  have HP3 := Aside0.mk hP3
  have E0 := Aside0.mk e0
  have E1 := Aside0.mk e1
  clear hr hA hL hP1 hP2 hP3 e0 e1
  go_enter Try.func5, Try.ntmps5
  go_wp2_with fail
  (with_reducible refine (supercargolaw42_awake.calls k true _ HA.out).mono ?_)
  rintro e w1 ⟨rfl, hb1⟩
  have HB1 := Aside0.mk (bl (below_alloc (Below.refl _ _) _) hb1)
  have X1 : Box w1 w.heap.size f0 f1 f2 f3 f4 (.slice A5 l.length c5) f6 f7 f8 := Box.below ⟨heap_alloc_new w _⟩ hb1
  obtain ⟨x0, x1, x2, x3, x4, x5, x6, x7, x8⟩ := X1.cells
  clear hb1
  go_wp2_with fail
  (with_reducible refine (supercargoref42_Long.calls f0 f1 f2 f3 f4 A5 c5 l f6 f7 f8 false _ (Kd.C_below HR.out HB1.out) hc HL.out).mono ?_)
  rintro e w2 ⟨rfl, hb2⟩
  have HB2 := Aside0.mk (bl HB1.out hb2)
  have X2 := X1.below hb2
  clear x0 x1 x2 x3 x4 x5 x6 x7 x8 X1 hb2 HB1
  obtain ⟨x0, x1, x2, x3, x4, x5, x6, x7, x8⟩ := X2.cells
  have fr := X2.fr
  have hz2 := X2.lt
  go_upto_region 6 with (fail)
  obtain ⟨w3, e3, X3, hb3, -⟩ := set1 X2 1000
  rw [e3]
  have HB3 := Aside0.mk (hb3 w HB2.out (Nat.le_refl _))
  clear x0 x1 x2 x3 x4 x5 x6 x7 x8 fr hz2 X2 HB2 hb3 e3
  obtain ⟨x0, x1, x2, x3, x4, x5, x6, x7, x8⟩ := X3.cells
  have hz3 := X3.lt
  go_region
  go_upto_region 8 with (fail)
  · obtain ⟨w4, e4, YA, YB, X4, hb4⟩ := mk2 X3 HB3.out a1 (1000 - a1)
    rw [e4]
    have HB4 := Aside0.mk hb4
    clear x0 x1 x2 x3 x4 x5 x6 x7 x8 e4 hb4 X3 HB3
    generalize decide (a1 < 1) = q1
    generalize decide (999 < a1) = q2
    obtain ⟨x0, x1, x2, x3, x4, x5, x6, x7, x8⟩ := X4.cells
    go_wp2_with fail
    (with_reducible refine (policy_Pays.calls k f0 f1 f2 f3 f4 A5 c5 l f6 f7 1000 a2 a3 rn b _ (Kd.C_below HR.out HB4.out) hc HP1.out).mono ?_)
    rintro e w5 ⟨rfl, hb5⟩
    have HB5 := Aside0.mk (bl HB4.out hb5)
    have YA5 := YA.below hb5
    have YB5 := YB.below hb5
    clear x0 x1 x2 x3 x4 x5 x6 x7 x8 X4 YA YB hb5 HB4
    obtain ⟨x0, x1, x2, x3, x4, x5, x6, x7, x8⟩ := YA5.cells
    go_wp2_with fail
    (with_reducible refine (policy_Pays.calls k f0 f1 f2 f3 f4 A5 c5 l f6 f7 a1 a2 a3 rm b _ (Kd.C_below HR.out HB5.out) hc HP2.out).mono ?_)
    rintro e w6 ⟨rfl, hb6⟩
    have HB6 := Aside0.mk (bl HB5.out hb6)
    have YB6 := YB5.below hb6
    clear x0 x1 x2 x3 x4 x5 x6 x7 x8 YA5 YB5 hb6 HB5
    obtain ⟨x0, x1, x2, x3, x4, x5, x6, x7, x8⟩ := YB6.cells
    go_wp2_with fail
    (with_reducible refine (policy_Pays.calls k f0 f1 f2 f3 f4 A5 c5 l f6 f7 (1000 - a1) a2 a3 rk b _ (Kd.C_below HR.out HB6.out) hc HP3.out).mono ?_)
    rintro e w7 ⟨rfl, hb7⟩
    have HB7 := Aside0.mk (bl HB6.out hb7)
    clear x0 x1 x2 x3 x4 x5 x6 x7 x8 YB6 hb7 HB6
    cases b with
    | true =>
      obtain ⟨h1, h2⟩ := E1.out rfl
      go_wp2_with fail
      go_ret
      exact ⟨by first | rfl | simp, HB7.out⟩
    | false =>
      obtain ⟨rfl, rfl⟩ := E0.out rfl
      go_wp2_with fail
      go_ret
      exact ⟨by first | rfl | simp, HB7.out⟩
  · obtain ⟨w4, e4, YB, YA, X4, hb4⟩ := mk2 X3 HB3.out (1000 - a1) a1
    rw [e4]
    have HB4 := Aside0.mk hb4
    clear x0 x1 x2 x3 x4 x5 x6 x7 x8 e4 hb4 X3 HB3
    generalize decide (a1 < 1) = q1
    generalize decide (999 < a1) = q2
    obtain ⟨x0, x1, x2, x3, x4, x5, x6, x7, x8⟩ := X4.cells
    go_wp2_with fail
    (with_reducible refine (policy_Pays.calls k f0 f1 f2 f3 f4 A5 c5 l f6 f7 1000 a2 a3 rn b _ (Kd.C_below HR.out HB4.out) hc HP1.out).mono ?_)
    rintro e w5 ⟨rfl, hb5⟩
    have HB5 := Aside0.mk (bl HB4.out hb5)
    have YA5 := YA.below hb5
    have YB5 := YB.below hb5
    clear x0 x1 x2 x3 x4 x5 x6 x7 x8 X4 YA YB hb5 HB4
    obtain ⟨x0, x1, x2, x3, x4, x5, x6, x7, x8⟩ := YA5.cells
    go_wp2_with fail
    (with_reducible refine (policy_Pays.calls k f0 f1 f2 f3 f4 A5 c5 l f6 f7 a1 a2 a3 rm b _ (Kd.C_below HR.out HB5.out) hc HP2.out).mono ?_)
    rintro e w6 ⟨rfl, hb6⟩
    have HB6 := Aside0.mk (bl HB5.out hb6)
    have YB6 := YB5.below hb6
    clear x0 x1 x2 x3 x4 x5 x6 x7 x8 YA5 YB5 hb6 HB5
    obtain ⟨x0, x1, x2, x3, x4, x5, x6, x7, x8⟩ := YB6.cells
    go_wp2_with fail
    (with_reducible refine (policy_Pays.calls k f0 f1 f2 f3 f4 A5 c5 l f6 f7 (1000 - a1) a2 a3 rk b _ (Kd.C_below HR.out HB6.out) hc HP3.out).mono ?_)
    rintro e w7 ⟨rfl, hb7⟩
    have HB7 := Aside0.mk (bl HB6.out hb7)
    clear x0 x1 x2 x3 x4 x5 x6 x7 x8 YB6 hb7 HB6
    cases b with
    | true =>
      obtain ⟨h1, h2⟩ := E1.out rfl
      go_wp2_with fail
      go_ret
      exact ⟨by first | rfl | simp, HB7.out⟩
    | false =>
      obtain ⟨rfl, rfl⟩ := E0.out rfl
      go_wp2_with fail
      go_ret
      exact ⟨by first | rfl | simp, HB7.out⟩

set_option maxHeartbeats 1000000 in
set_option maxRecDepth 100000 in
theorem shares_early (f0 f1 f2 : ByteArray) (f3 f4 : Int) (A5 : Option Addr) (c5 : Nat) (l : List Int) (f6 f7 f8 a1 a2 a3 : Int) (w : World) (hr : Kd.C (Kd.int .i64) w A5 l.length l) (hc : l.length ≤ c5)
    (k : Nat) (hA : supercargolaw42_awake.f k = some true) (lg : Bool) (hL : supercargoref42_Long.f f0 f1 f2 f3 f4 l f6 f7 f8 = some lg) (bad : ¬ (lg = false ∧ 1 ≤ a1 ∧ a1 ≤ 999)) :
    Calls Try.prog 5 #[.agg #[.string f0, .string f1, .string f2, .int .i64 f3, .int .i64 f4, .slice A5 l.length c5, .int .i64 f6, .int .i64 f7, .int .i64 f8], .int .i64 a1, .int .i64 a2, .int .i64 a3] w fun e w' => e = .returned (.bool true) ∧ Below w.heap.size w w' := by
  have hu24 := Try.underlying24
  have HR := Aside0.mk hr
  have HA := Aside0.mk hA
  have HL := Aside0.mk hL
  have BAD := Aside0.mk bad
  clear hr hA hL bad
  go_enter Try.func5, Try.ntmps5
  go_wp2_with fail
  (with_reducible refine (supercargolaw42_awake.calls k true _ HA.out).mono ?_)
  rintro e w1 ⟨rfl, hb1⟩
  have HB1 := Aside0.mk (bl (below_alloc (Below.refl _ _) _) hb1)
  have X1 : Box w1 w.heap.size f0 f1 f2 f3 f4 (.slice A5 l.length c5) f6 f7 f8 := Box.below ⟨heap_alloc_new w _⟩ hb1
  obtain ⟨x0, x1, x2, x3, x4, x5, x6, x7, x8⟩ := X1.cells
  clear hb1
  go_wp2_with fail
  (with_reducible refine (supercargoref42_Long.calls f0 f1 f2 f3 f4 A5 c5 l f6 f7 f8 lg _ (Kd.C_below HR.out HB1.out) hc HL.out).mono ?_)
  rintro e w2 ⟨rfl, hb2⟩
  have HB2 := Aside0.mk (bl HB1.out hb2)
  clear x0 x1 x2 x3 x4 x5 x6 x7 x8 X1 hb2 HB1
  cases lg with
  | true =>
    go_wp2_with fail
    go_ret
    exact ⟨rfl, HB2.out⟩
  | false =>
    by_cases h1 : a1 < 1
    · go_wp2_with fail
      go_ret
      exact ⟨rfl, HB2.out⟩
    · by_cases h2 : 999 < a1
      · go_wp2_with fail
        go_ret
        exact ⟨rfl, HB2.out⟩
      · exact (BAD.out ⟨rfl, by omega, by omega⟩).elim
/-- PolicyShares answers true. -/
theorem shares_calls (f0 f1 f2 : ByteArray) (f3 f4 : Int) (A5 : Option Addr) (c5 : Nat) (l : List Int) (f6 f7 f8 a1 a2 a3 : Int) (w : World) (hr : Kd.C (Kd.int .i64) w A5 l.length l) (hc : l.length ≤ c5) :
    Calls Try.prog 5 #[.agg #[.string f0, .string f1, .string f2, .int .i64 f3, .int .i64 f4, .slice A5 l.length c5, .int .i64 f6, .int .i64 f7, .int .i64 f8], .int .i64 a1, .int .i64 a2, .int .i64 a3] w fun e w' => e = .returned (.bool true) ∧ Below w.heap.size w w' := by
  obtain ⟨k1, h1⟩ := awake_ev
  have hL := long_eq f0 f1 f2 f3 f4 l f6 f7 f8
  by_cases hlong : 100 < f0.size ∨ 100 < f1.size ∨ 100 < f2.size ∨ 100 < l.length
  · rw [decide_eq_true hlong] at hL
    exact shares_early f0 f1 f2 f3 f4 A5 c5 l f6 f7 f8 a1 a2 a3 w hr hc k1 (h1 k1 (by omega)) true hL (fun h => by cases h.1)
  · rw [decide_eq_false hlong] at hL
    simp only [not_or] at hlong
    have s0 : f0.size ≤ 100 := by omega
    have s1 : f1.size ≤ 100 := by omega
    have s2 : f2.size ≤ 100 := by omega
    have sl : l.length ≤ 100 := by omega
    by_cases good : 1 ≤ a1 ∧ a1 ≤ 999
    · obtain ⟨g1, g2⟩ := good
      obtain ⟨k3, h3⟩ := pays_ev f0 f1 f2 f3 f4 l f6 f7 1000 a2 a3 s0 s1 s2 sl
      obtain ⟨k4, h4⟩ := pays_ev f0 f1 f2 f3 f4 l f6 f7 a1 a2 a3 s0 s1 s2 sl
      obtain ⟨k5, h5⟩ := pays_ev f0 f1 f2 f3 f4 l f6 f7 (1000 - a1) a2 a3 s0 s1 s2 sl
      have q3 := h3 (k1 + k3 + k4 + k5) (by omega)
      have q4 := h4 (k1 + k3 + k4 + k5) (by omega)
      have q5 := h5 (k1 + k3 + k4 + k5) (by omega)
      by_cases m : mayB f0 f1 f2 f3 f4 l f6 f7 1000 = true ∧ (1 ≤ a3 ∧ a3 ≤ 1099511627776) ∧ (0 ≤ a2 ∧ a2 ≤ 1099511627776)
      · obtain ⟨hm, hv, hl⟩ := m
        obtain ⟨hs, ho, _, _⟩ := may_bounds f0 f1 f2 f3 f4 l f6 f7 1000 hm
        rw [pay_some hm hv hl] at q3
        rw [pay_some (may_own hm ho (by omega)) hv hl] at q4
        rw [pay_some (may_own hm ho (by omega)) hv hl] at q5
        have c1 := pay_core (own := f4) (share := 1000) hs (by omega) (by omega) hv hl
        have c2 := pay_core (own := f4) (share := a1) hs (by omega) (by omega) hv hl
        have c3 := pay_core (own := f4) (share := 1000 - a1) hs (by omega) (by omega) hv hl
        have m2 : mn a3 f3 ≤ f3 := by rw [mn_def]; split <;> omega
        refine shares_main f0 f1 f2 f3 f4 A5 c5 l f6 f7 f8 a1 a2 a3 w hr hc _ (h1 _ (by omega)) hL g1 g2 _ _ _ true q3 q4 q5 (fun h => by cases h) (by omega) (by omega) (by omega) (fun _ => ?_)
        unfold payN
        rw [Int.mul_sub]
        omega
      · have z : ∀ s, 1 ≤ s ∧ s ≤ 1000 → payB f0 f1 f2 f3 f4 l f6 f7 s a2 a3 = (0, false) := by
          intro s hs
          refine if_neg (fun h => m ⟨?_, h.2⟩)
          obtain ⟨_, ho, _⟩ := may_bounds f0 f1 f2 f3 f4 l f6 f7 s h.1
          exact may_own h.1 ho (by omega)
        rw [z _ (by omega)] at q3 q4 q5
        exact shares_main f0 f1 f2 f3 f4 A5 c5 l f6 f7 f8 a1 a2 a3 w hr hc _ (h1 _ (by omega)) hL g1 g2 _ _ _ false q3 q4 q5 (fun _ => ⟨rfl, rfl⟩) (by omega) (by omega) (by omega) (fun h => by cases h)
    · exact shares_early f0 f1 f2 f3 f4 A5 c5 l f6 f7 f8 a1 a2 a3 w hr hc k1 (h1 _ (by omega)) false hL (fun h => good h.2)
end Go.Proofs.Ytkjcblbpeoijhaa.Pol
