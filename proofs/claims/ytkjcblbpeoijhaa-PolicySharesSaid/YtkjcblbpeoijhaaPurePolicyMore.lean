/- PolicyMore's walk over the printed contracts, and its plain law. -/
import Derived.Test.YtkjcblbpeoijhaaPolC
namespace Go.Proofs.Ytkjcblbpeoijhaa.Pol
open Go.RowKit Go.Proofs.YtkjcblbpeoijhaaW.PrintWords Go.Proofs.YtkjcblbpeoijhaaW.PrintLast Go.Proofs.YtkjcblbpeoijhaaW.PrintMore Go.Proofs.Ytkjcblbpeoijhaa.G Go.Proofs.Ytkjcblbpeoijhaa.Ext
set_option linter.unusedVariables false

/-- A policy's cells in a variable of the call's own. -/
def pcells (f0 f1 f2 : ByteArray) (f3 f4 : Int) (v5 : Value) (f6 f7 f8 : Int) : Array Value := #[.string f0, .string f1, .string f2, .int .i64 f3, .int .i64 f4, v5, .int .i64 f6, .int .i64 f7, .int .i64 f8]
/-- A variable that holds a policy. -/
structure Box (W : World) (g : Nat) (f0 f1 f2 : ByteArray) (f3 f4 : Int) (v5 : Value) (f6 f7 f8 : Int) : Prop where mk :: (out : W.heap[g]? = some (.cells (pcells f0 f1 f2 f3 f4 v5 f6 f7 f8) 24 (0, 0)))
section
variable {W W1 : World} {g : Nat} {f0 f1 f2 : ByteArray} {f3 f4 : Int} {v5 : Value} {f6 f7 f8 : Int}
theorem Box.lt (h : Box W g f0 f1 f2 f3 f4 v5 f6 f7 f8) : g < W.heap.size := (Array.getElem?_eq_some_iff.1 h.out).1
theorem Box.below (h : Box W g f0 f1 f2 f3 f4 v5 f6 f7 f8) (hb : Below W.heap.size W W1) : Box W1 g f0 f1 f2 f3 f4 v5 f6 f7 f8 := ⟨(hb.block g h.lt).trans h.out⟩
theorem Box.c (h : Box W g f0 f1 f2 f3 f4 v5 f6 f7 f8) (i : Nat) : W.cell? ⟨g, i, none⟩ = (pcells f0 f1 f2 f3 f4 v5 f6 f7 f8)[i]? := by simp [World.cell?, h.out]
theorem Box.fr (h : Box W g f0 f1 f2 f3 f4 v5 f6 f7 f8) (i : Nat) : W.frozen? ⟨g, i, none⟩ = false := by simp [World.frozen?, h.out]
theorem Box.cells (h : Box W g f0 f1 f2 f3 f4 v5 f6 f7 f8) : W.cell? ⟨g, 0, none⟩ = some (.string f0) ∧ W.cell? ⟨g, 1, none⟩ = some (.string f1) ∧ W.cell? ⟨g, 2, none⟩ = some (.string f2) ∧ W.cell? ⟨g, 3, none⟩ = some (.int .i64 f3) ∧ W.cell? ⟨g, 4, none⟩ = some (.int .i64 f4) ∧ W.cell? ⟨g, 5, none⟩ = some v5 ∧ W.cell? ⟨g, 6, none⟩ = some (.int .i64 f6) ∧ W.cell? ⟨g, 7, none⟩ = some (.int .i64 f7) ∧ W.cell? ⟨g, 8, none⟩ = some (.int .i64 f8) :=
  ⟨h.c 0, h.c 1, h.c 2, h.c 3, h.c 4, h.c 5, h.c 6, h.c 7, h.c 8⟩
end
/-- A variable's cells written anew. -/
theorem set11 {W : World} {g : Nat} {o0 o1 o2 : ByteArray} {o3 o4 : Int} {o5 : Value} {o6 o7 o8 : Int} (h : Box W g o0 o1 o2 o3 o4 o5 o6 o7 o8) (f0 f1 f2 : ByteArray) (f3 f4 : Int) (v5 : Value) (f6 f7 f8 n4 n8 : Int) :
    ∃ W', (((((((((((W.setCell ⟨g, 0, none⟩ (.string f0)).setCell ⟨g, 1, none⟩ (.string f1)).setCell ⟨g, 2, none⟩ (.string f2)).setCell ⟨g, 3, none⟩ (.int .i64 f3)).setCell ⟨g, 4, none⟩ (.int .i64 f4)).setCell ⟨g, 5, none⟩ v5).setCell ⟨g, 6, none⟩ (.int .i64 f6)).setCell ⟨g, 7, none⟩ (.int .i64 f7)).setCell ⟨g, 8, none⟩ (.int .i64 f8)).setCell ⟨g, 4, none⟩ (.int .i64 n4)).setCell ⟨g, 8, none⟩ (.int .i64 n8)) = W' ∧
      Box W' g f0 f1 f2 f3 n4 v5 f6 f7 n8 ∧ (∀ w : World, Below w.heap.size w W → w.heap.size ≤ g → Below w.heap.size w W') ∧ ∀ b cs t, b ≠ g → W.heap[b]? = some (.cells cs t (0, 0)) → W'.heap[b]? = some (.cells cs t (0, 0)) :=
  ⟨_, rfl, ⟨(blk_set (blk_set (blk_set (blk_set (blk_set (blk_set (blk_set (blk_set (blk_set (blk_set (blk_set h.out 0 _) 1 _) 2 _) 3 _) 4 _) 5 _) 6 _) 7 _) 8 _) 4 _) 8 _).trans (by simp [pcells])⟩,
    fun w hb hg => below_set (below_set (below_set (below_set (below_set (below_set (below_set (below_set (below_set (below_set (below_set hb hg) hg) hg) hg) hg) hg) hg) hg) hg) hg) hg,
    fun b cs t hne hb => blk_far (blk_far (blk_far (blk_far (blk_far (blk_far (blk_far (blk_far (blk_far (blk_far (blk_far hb hne _) hne _) hne _) hne _) hne _) hne _) hne _) hne _) hne _) hne _) hne _⟩
set_option maxHeartbeats 1000000 in
set_option maxRecDepth 100000 in
theorem more_early (f0 f1 f2 : ByteArray) (f3 f4 : Int) (A5 : Option Addr) (c5 : Nat) (l : List Int) (f6 f7 f8 a1 a2 a3 a4 : Int) (w : World) (hr : Kd.C (Kd.int .i64) w A5 l.length l) (hc : l.length ≤ c5)
    (k : Nat) (hA : supercargolaw42_awake.f k = some true) (lg my : Bool) (hL : supercargoref42_Long.f f0 f1 f2 f3 f4 l f6 f7 f8 = some lg) (hM : lg = false → supercargoref42_May.f k f0 f1 f2 f3 f4 l f6 f7 f8 = some my)
    (bad : ¬ (lg = false ∧ my = true ∧ 1 ≤ a3 ∧ a3 ≤ 1099511627776 ∧ 0 ≤ a1 ∧ 0 ≤ a2 ∧ a1 ≤ 549755813888 ∧ a2 ≤ 549755813888 ∧ 0 ≤ a4 ∧ a4 ≤ f3 - f4)) (hfb : my = true → 0 ≤ f4 ∧ f4 ≤ f3 ∧ f3 ≤ 1099511627776) :
    Calls Try.prog 4 #[.agg #[.string f0, .string f1, .string f2, .int .i64 f3, .int .i64 f4, .slice A5 l.length c5, .int .i64 f6, .int .i64 f7, .int .i64 f8], .int .i64 a1, .int .i64 a2, .int .i64 a3, .int .i64 a4] w fun e w' => e = .returned (.bool true) ∧ Below w.heap.size w w' := by
  have hu24 := Try.underlying24
  have HR := Aside0.mk hr
  have BAD := Aside0.mk bad
  have HM : Aside0 (lg = false → supercargoref42_May.f k f0 f1 f2 f3 f4 l f6 f7 f8 = some my) := Aside0.mk hM
  have HF := Aside0.mk hfb
  clear hr bad hM hfb
  go_enter Try.func4, Try.ntmps4
  go_wp2_with fail
  refine (supercargolaw42_awake.calls k true _ hA).mono ?_
  rintro e w1 ⟨rfl, hb1⟩
  have HB1 := Aside0.mk (bl (below_alloc (Below.refl _ _) _) hb1)
  have X1 : Box w1 w.heap.size f0 f1 f2 f3 f4 (.slice A5 l.length c5) f6 f7 f8 := Box.below ⟨heap_alloc_new w _⟩ hb1
  obtain ⟨x0, x1, x2, x3, x4, x5, x6, x7, x8⟩ := X1.cells
  clear hb1
  go_wp2_with fail
  refine (supercargoref42_Long.calls f0 f1 f2 f3 f4 A5 c5 l f6 f7 f8 lg _ (Kd.C_below HR.out HB1.out) hc hL).mono ?_
  rintro e w2 ⟨rfl, hb2⟩
  have HB2 := Aside0.mk (bl HB1.out hb2)
  have X2 := X1.below hb2
  clear x0 x1 x2 x3 x4 x5 x6 x7 x8 X1 hb2 HB1
  obtain ⟨x0, x1, x2, x3, x4, x5, x6, x7, x8⟩ := X2.cells
  cases lg with
  | true =>
    go_wp2_with fail
    go_ret
    exact ⟨rfl, HB2.out⟩
  | false =>
    go_wp2_with fail
    refine (supercargoref42_May.calls k f0 f1 f2 f3 f4 A5 c5 l f6 f7 f8 my _ (Kd.C_below HR.out HB2.out) hc (by simpa using HM.out)).mono ?_
    rintro e w3 ⟨rfl, hb3⟩
    have HB3 := Aside0.mk (bl HB2.out hb3)
    have X3 := X2.below hb3
    clear x0 x1 x2 x3 x4 x5 x6 x7 x8 X2 hb3 HB2
    obtain ⟨x0, x1, x2, x3, x4, x5, x6, x7, x8⟩ := X3.cells
    cases my with
    | false =>
      go_wp2_with fail
      go_ret
      exact ⟨rfl, HB3.out⟩
    | true =>
      have hfb : 0 ≤ f4 ∧ f4 ≤ f3 ∧ f3 ≤ 1099511627776 := by simpa using HF.out
      obtain ⟨b1, b2, b3⟩ := hfb
      go_wp2_with fail
      all_goals first | (go_ret; exact ⟨rfl, HB3.out⟩) | exact (BAD.out ⟨by simp, by simp, by omega, by omega, by omega, by omega, by omega, by omega, by omega, by omega⟩).elim
set_option maxHeartbeats 700000 in
set_option maxRecDepth 100000 in
/-- The way where all is asked. -/
theorem more_main (f0 f1 f2 : ByteArray) (f3 f4 : Int) (A5 : Option Addr) (c5 : Nat) (l : List Int) (f6 f7 f8 a1 a2 a3 a4 : Int) (w : World) (hr : Kd.C (Kd.int .i64) w A5 l.length l) (hc : l.length ≤ c5)
    (k : Nat) (hA : supercargolaw42_awake.f k = some true) (hL : supercargoref42_Long.f f0 f1 f2 f3 f4 l f6 f7 f8 = some false) (hM : supercargoref42_May.f k f0 f1 f2 f3 f4 l f6 f7 f8 = some true)
    (g1 : 1 ≤ a3) (g2 : a3 ≤ 1099511627776) (g3 : 0 ≤ a1) (g4 : 0 ≤ a2) (g5 : a1 ≤ 549755813888) (g6 : a2 ≤ 549755813888) (g7 : 0 ≤ a4) (g8 : a4 ≤ f3 - f4) (b1 : 0 ≤ f4) (b2 : f4 ≤ f3) (b3 : f3 ≤ 1099511627776)
    (ra rb rc rd : Int) (hP1 : policy_Pays.f k f0 f1 f2 f3 f4 l f6 f7 f8 a1 a3 = some (ra, true)) (hP2 : policy_Pays.f k f0 f1 f2 f3 f4 l f6 f7 f8 (a1 + a2) a3 = some (rb, true)) (hP3 : policy_Pays.f k f0 f1 f2 f3 (f4 + a4) l f6 f7 f8 a1 a3 = some (rc, true))
    (hP4 : policy_Pays.f k f0 f1 f2 f3 0 l f6 f7 1000 a1 a3 = some (rd, true)) (e1 : ra ≤ rb) (e2 : rc ≤ ra) (e3 : ¬ f3 < a3 → rd = mn a1 a3) :
    Calls Try.prog 4 #[.agg #[.string f0, .string f1, .string f2, .int .i64 f3, .int .i64 f4, .slice A5 l.length c5, .int .i64 f6, .int .i64 f7, .int .i64 f8], .int .i64 a1, .int .i64 a2, .int .i64 a3, .int .i64 a4] w fun e w' => e = .returned (.bool true) ∧ Below w.heap.size w w' := by
  have hu24 := Try.underlying24
  have HR := Aside0.mk hr
  have HA := Aside0.mk hA
  have HL := Aside0.mk hL
  have HM := Aside0.mk hM
  have HP1 := Aside0.mk hP1
  have HP2 := Aside0.mk hP2
  have HP3 := Aside0.mk hP3
  have HP4 := Aside0.mk hP4
  have E1 := Aside0.mk e1
  have E2 := Aside0.mk e2
  have E3 := Aside0.mk e3
  clear hr hA hL hM hP1 hP2 hP3 hP4 e1 e2 e3
  go_enter Try.func4, Try.ntmps4
  go_wp2_with fail
  (with_reducible refine (supercargolaw42_awake.calls k true _ HA.out).mono ?_)
  rintro e w1 ⟨rfl, hb1⟩
  have HB1 := Aside0.mk (bl (below_alloc (Below.refl _ _) _) hb1)
  have X1 : Box w1 w.heap.size f0 f1 f2 f3 f4 (.slice A5 l.length c5) f6 f7 f8 := Box.below ⟨heap_alloc_new w _⟩ hb1
  obtain ⟨x0, x1, x2, x3, x4, x5, x6, x7, x8⟩ := X1.cells
  clear hb1
  go_wp2_with fail
  (with_reducible refine (supercargoref42_Long.calls f0 f1 f2 f3 f4 A5 c5 l f6 f7 f8 false _ (Kd.C_below HR.out HB1.out) hc HL.out).mono ?_)
  rintro e w2 ⟨rfl, hb2⟩
  have HB2 := Aside0.mk (bl HB1.out hb2)
  have X2 := X1.below hb2
  clear x0 x1 x2 x3 x4 x5 x6 x7 x8 X1 hb2 HB1
  obtain ⟨x0, x1, x2, x3, x4, x5, x6, x7, x8⟩ := X2.cells
  go_wp2_with fail
  (with_reducible refine (supercargoref42_May.calls k f0 f1 f2 f3 f4 A5 c5 l f6 f7 f8 true _ (Kd.C_below HR.out HB2.out) hc HM.out).mono ?_)
  rintro e w3 ⟨rfl, hb3⟩
  have HB3 := Aside0.mk (bl HB2.out hb3)
  have X3 := X2.below hb3
  clear x0 x1 x2 x3 x4 x5 x6 x7 x8 X2 hb3 HB2
  obtain ⟨x0, x1, x2, x3, x4, x5, x6, x7, x8⟩ := X3.cells
  go_wp2_with fail
  generalize decide (a3 < 1) = q1
  generalize decide (1099511627776 < a3) = q2
  generalize decide (a1 < 0) = q3
  generalize decide (a2 < 0) = q4
  generalize decide (549755813888 < a1) = q5
  generalize decide (549755813888 < a2) = q6
  generalize decide (a4 < 0) = q7
  generalize decide (f3 - f4 < a4) = q8
  (with_reducible refine (policy_Pays.calls k f0 f1 f2 f3 f4 A5 c5 l f6 f7 f8 a1 a3 ra true _ (Kd.C_below HR.out HB3.out) hc HP1.out).mono ?_)
  rintro e w4 ⟨rfl, hb4⟩
  have HB4 := Aside0.mk (bl HB3.out hb4)
  have X4 := X3.below hb4
  clear x0 x1 x2 x3 x4 x5 x6 x7 x8 X3 hb4 HB3
  obtain ⟨x0, x1, x2, x3, x4, x5, x6, x7, x8⟩ := X4.cells
  go_wp2_with fail
  (with_reducible refine (policy_Pays.calls k f0 f1 f2 f3 f4 A5 c5 l f6 f7 f8 (a1 + a2) a3 rb true _ (Kd.C_below HR.out HB4.out) hc HP2.out).mono ?_)
  rintro e w5 ⟨rfl, hb5⟩
  have HB5 := Aside0.mk (bl HB4.out hb5)
  have X5 := X4.below hb5
  clear x0 x1 x2 x3 x4 x5 x6 x7 x8 X4 hb5 HB4
  obtain ⟨x0, x1, x2, x3, x4, x5, x6, x7, x8⟩ := X5.cells
  have hz5 := X5.lt
  go_wp2_with fail
  (with_reducible refine (policy_Pays.calls k f0 f1 f2 f3 (f4 + a4) A5 c5 l f6 f7 f8 a1 a3 rc true _ (Kd.C_below HR.out (by repeat (first | exact HB5.out | apply below_alloc))) hc HP3.out).mono ?_)
  rintro e w6 ⟨rfl, hb6⟩
  have HB6 := Aside0.mk (bl (below_alloc HB5.out _) hb6)
  have X6 := Box.below (X5.below (below_alloc (Below.refl _ _) _)) hb6
  have Y6 : Box w6 w5.heap.size f0 f1 f2 f3 (f4 + a4) (.slice A5 l.length c5) f6 f7 f8 := Box.below ⟨heap_alloc_new w5 _⟩ hb6
  clear x0 x1 x2 x3 x4 x5 x6 x7 x8 X5 hb6 HB5
  obtain ⟨x0, x1, x2, x3, x4, x5, x6, x7, x8⟩ := X6.cells
  obtain ⟨y0, y1, y2, y3, y4, y5, y6, y7, y8⟩ := Y6.cells
  have fr := Y6.fr
  have hz6 := Y6.lt
  have e1 := E1.out
  have e2 := E2.out
  go_upto_region 12 with (fail)
  clear e1 e2
  generalize decide (rb < ra) = q9
  generalize decide (ra < rc) = q10
  go_upto_region 14 with (fail)
  obtain ⟨w7, e7, Y7, hb7, hx7⟩ := set11 Y6 f0 f1 f2 f3 f4 (.slice A5 l.length c5) f6 f7 f8 0 1000
  rw [e7]
  have HB7 := Aside0.mk (hb7 w HB6.out (by omega))
  have X7 : Box w7 w.heap.size f0 f1 f2 f3 f4 (.slice A5 l.length c5) f6 f7 f8 := ⟨hx7 _ _ _ (by omega) X6.out⟩
  clear x0 x1 x2 x3 x4 x5 x6 x7 x8 y0 y1 y2 y3 y4 y5 y6 y7 y8 fr X6 Y6 HB6 e7 hb7 hx7
  obtain ⟨y0, y1, y2, y3, y4, y5, y6, y7, y8⟩ := Y7.cells
  go_wp2_with fail
  (with_reducible refine (policy_Pays.calls k f0 f1 f2 f3 0 A5 c5 l f6 f7 1000 a1 a3 rd true _ (Kd.C_below HR.out HB7.out) hc HP4.out).mono ?_)
  rintro e w8 ⟨rfl, hb8⟩
  have HB8 := Aside0.mk (bl HB7.out hb8)
  have X8 := X7.below hb8
  clear y0 y1 y2 y3 y4 y5 y6 y7 y8 X7 Y7 hb8 HB7
  obtain ⟨x0, x1, x2, x3, x4, x5, x6, x7, x8⟩ := X8.cells
  by_cases hsv : f3 < a3
  · go_wp2_with fail
    go_ret
    exact ⟨by first | rfl | simp, HB8.out⟩
  · have hmn : mn a1 a3 = min a1 a3 := by rw [mn_def]; split <;> omega
    have e := (E3.out (by omega)).trans hmn
    have E := Aside0.mk e
    clear e hmn
    go_wp2_with fail
    go_ret
    exact ⟨ret_bool (by rw [E.out]; simp), HB8.out⟩

theorem payN_mono {sum own share a b value : Int} (hs : 1 ≤ sum) (hsh : 0 ≤ share) (hv : 1 ≤ value) (h : a ≤ b) : payN sum own share a value ≤ payN sum own share b value := by
  have hm : mn a value ≤ mn b value := by simp only [mn_def]; split <;> split <;> omega
  have h0 : 0 ≤ mn value sum := by rw [mn_def]; split <;> omega
  have h1 := Int.ediv_le_ediv (c := value) (by omega) (Int.mul_le_mul_of_nonneg_right hm h0)
  have h2 : mx (mn a value * mn value sum / value - own) 0 ≤ mx (mn b value * mn value sum / value - own) 0 := by simp only [mx_def]; split <;> split <;> omega
  have h3 := Int.mul_le_mul_of_nonneg_right h2 hsh
  unfold payN
  omega
theorem payN_own {sum own more share a value : Int} (hsh : 0 ≤ share) (h : 0 ≤ more) : payN sum (own + more) share a value ≤ payN sum own share a value := by
  have h2 : mx (mn a value * mn value sum / value - (own + more)) 0 ≤ mx (mn a value * mn value sum / value - own) 0 := by simp only [mx_def]; split <;> split <;> omega
  have h3 := Int.mul_le_mul_of_nonneg_right h2 hsh
  unfold payN
  omega
theorem payN_full {sum a value : Int} (ha : 0 ≤ a) (hv : 1 ≤ value) (h : value ≤ sum) : payN sum 0 1000 a value = mn a value := by
  have h0 : mn value sum = value := by rw [mn_def, if_neg (by omega)]
  have h1 : 0 ≤ mn a value := by rw [mn_def]; split <;> omega
  unfold payN
  rw [h0, Int.mul_ediv_cancel (mn a value) (show value ≠ 0 by omega), mx_def, if_neg (by omega)]
  omega
theorem may_own {f0 f1 f2 : ByteArray} {f3 f4 : Int} {l : List Int} {f6 f7 f8 g4 g8 : Int} (h : mayB f0 f1 f2 f3 f4 l f6 f7 f8 = true) (h4 : 0 ≤ g4 ∧ g4 ≤ f3) (h8 : 1 ≤ g8 ∧ g8 ≤ 1000) : mayB f0 f1 f2 f3 g4 l f6 f7 g8 = true := by
  unfold mayB restB at h ⊢
  simp only [Bool.and_eq_true, decide_eq_true_eq] at h ⊢
  exact ⟨h.1, h.2.1, h4, h8, h.2.2.2.2⟩
theorem pay_some {f0 f1 f2 : ByteArray} {f3 f4 : Int} {l : List Int} {f6 f7 f8 loss value : Int} (h : mayB f0 f1 f2 f3 f4 l f6 f7 f8 = true) (hv : 1 ≤ value ∧ value ≤ 1099511627776) (hl : 0 ≤ loss ∧ loss ≤ 1099511627776) : payB f0 f1 f2 f3 f4 l f6 f7 f8 loss value = (payN f3 f4 f8 loss value, true) := if_pos ⟨h, hv, hl⟩
/-- PolicyMore answers true. -/
theorem more_calls (f0 f1 f2 : ByteArray) (f3 f4 : Int) (A5 : Option Addr) (c5 : Nat) (l : List Int) (f6 f7 f8 a1 a2 a3 a4 : Int) (w : World) (hr : Kd.C (Kd.int .i64) w A5 l.length l) (hc : l.length ≤ c5) :
    Calls Try.prog 4 #[.agg #[.string f0, .string f1, .string f2, .int .i64 f3, .int .i64 f4, .slice A5 l.length c5, .int .i64 f6, .int .i64 f7, .int .i64 f8], .int .i64 a1, .int .i64 a2, .int .i64 a3, .int .i64 a4] w fun e w' => e = .returned (.bool true) ∧ Below w.heap.size w w' := by
  obtain ⟨k1, h1⟩ := awake_ev
  have hL := long_eq f0 f1 f2 f3 f4 l f6 f7 f8
  by_cases hlong : 100 < f0.size ∨ 100 < f1.size ∨ 100 < f2.size ∨ 100 < l.length
  · rw [decide_eq_true hlong] at hL
    exact more_early f0 f1 f2 f3 f4 A5 c5 l f6 f7 f8 a1 a2 a3 a4 w hr hc k1 (h1 k1 (by omega)) true false hL (fun h => by cases h) (fun h => by cases h.1) (fun h => by cases h)
  · rw [decide_eq_false hlong] at hL
    simp only [not_or] at hlong
    have s0 : f0.size ≤ 100 := by omega
    have s1 : f1.size ≤ 100 := by omega
    have s2 : f2.size ≤ 100 := by omega
    have sl : l.length ≤ 100 := by omega
    obtain ⟨k2, h2⟩ := rmay_ev f0 f1 f2 f3 f4 l f6 f7 f8 s0 s1 s2 sl
    have fb : mayB f0 f1 f2 f3 f4 l f6 f7 f8 = true → 0 ≤ f4 ∧ f4 ≤ f3 ∧ f3 ≤ 1099511627776 := fun h => by
      have := may_bounds f0 f1 f2 f3 f4 l f6 f7 f8 h
      omega
    by_cases good : mayB f0 f1 f2 f3 f4 l f6 f7 f8 = true ∧ 1 ≤ a3 ∧ a3 ≤ 1099511627776 ∧ 0 ≤ a1 ∧ 0 ≤ a2 ∧ a1 ≤ 549755813888 ∧ a2 ≤ 549755813888 ∧ 0 ≤ a4 ∧ a4 ≤ f3 - f4
    · obtain ⟨hm, g1, g2, g3, g4, g5, g6, g7, g8⟩ := good
      obtain ⟨hs, ho, hsh, _⟩ := may_bounds f0 f1 f2 f3 f4 l f6 f7 f8 hm
      obtain ⟨k3, h3⟩ := pays_ev f0 f1 f2 f3 f4 l f6 f7 f8 a1 a3 s0 s1 s2 sl
      obtain ⟨k4, h4⟩ := pays_ev f0 f1 f2 f3 f4 l f6 f7 f8 (a1 + a2) a3 s0 s1 s2 sl
      obtain ⟨k5, h5⟩ := pays_ev f0 f1 f2 f3 (f4 + a4) l f6 f7 f8 a1 a3 s0 s1 s2 sl
      obtain ⟨k6, h6⟩ := pays_ev f0 f1 f2 f3 0 l f6 f7 1000 a1 a3 s0 s1 s2 sl
      rw [pay_some hm ⟨g1, g2⟩ (by omega)] at h3
      rw [pay_some hm ⟨g1, g2⟩ (by omega)] at h4
      rw [pay_some (may_own hm (by omega) hsh) ⟨g1, g2⟩ (by omega)] at h5
      rw [pay_some (may_own hm (by omega) (by omega)) ⟨g1, g2⟩ (by omega)] at h6
      exact more_main f0 f1 f2 f3 f4 A5 c5 l f6 f7 f8 a1 a2 a3 a4 w hr hc (k1 + k2 + k3 + k4 + k5 + k6) (h1 _ (by omega)) hL (by rw [← hm]; exact h2 _ (by omega)) g1 g2 g3 g4 g5 g6 g7 g8 ho.1 ho.2 hs.2
        _ _ _ _ (h3 _ (by omega)) (h4 _ (by omega)) (h5 _ (by omega)) (h6 _ (by omega)) (payN_mono hs.1 (by omega) g1 (by omega)) (payN_own (by omega) g7) (fun h => payN_full g3 g1 (by omega))
    · exact more_early f0 f1 f2 f3 f4 A5 c5 l f6 f7 f8 a1 a2 a3 a4 w hr hc (k1 + k2) (h1 _ (by omega)) false _ hL (fun _ => h2 _ (by omega)) (fun h => good h.2) fb
end Go.Proofs.Ytkjcblbpeoijhaa.Pol
