/- port.Delay: what it tells, and that it keeps what it was handed. -/
import Derived.Test.YtbojieeildhlcaaDoorPortAny
import Derived.Test.YtbojieeildhlcaaDoorPortBest
namespace Go.Proofs.YtbojieeildhlcaaDoor.Port
open Go.RowKit Go.Shelf Go.Proofs.YtbojieeildhlcaaDoorW.PrintWords Go.Proofs.YtbojieeildhlcaaDoorW.PrintLast Go.Proofs.YtbojieeildhlcaaDoorW.PrintMore Go.Proofs.YtbojieeildhlcaaDoor.G Go.Proofs.YtbojieeildhlcaaDoor.Ext
set_option linter.unusedVariables false
set_option linter.unusedSimpArgs false

/-- A call, days later. -/
def plus (d : Int) (x : S32) : S32 := ⟨x.f0, wrap64 (x.f1 + d), wrap64 (x.f2 + d), wrap64 (x.f3 + d)⟩
/-- The calls from c on, as far as k, later. -/
def late (c k : Nat) (d : Int) (l : List S32) : List S32 := l.mapIdx fun i x => if c ≤ i ∧ i < k then plus d x else x
theorem late_len (c k : Nat) (d : Int) (l : List S32) : (late c k d l).length = l.length := by simp [late]
theorem late_start (c : Nat) (d : Int) (l : List S32) : late c c d l = l := by
  unfold late
  apply List.ext_getElem
  · simp
  · intro i h1 h2
    simp only [List.getElem_mapIdx]
    rw [if_neg (by omega)]
theorem late_step {c k : Nat} {d : Int} {l : List S32} (h : c ≤ k) (hk : k < l.length) : (late c k d l).set k (plus d ((late c k d l).getD k z32)) = late c (k + 1) d l := by
  have hx : (late c k d l).getD k z32 = l[k] := by
    rw [List.getD_eq_getElem?_getD, List.getElem?_eq_getElem (by rw [late_len]; exact hk)]
    simp only [late, List.getElem_mapIdx, Option.getD_some]
    rw [if_neg (by omega)]
  rw [hx]
  apply List.ext_getElem
  · simp [late]
  · intro i h1 h2
    rw [List.getElem_set]
    by_cases e : k = i
    · subst e
      simp only [if_true, late, List.getElem_mapIdx]
      rw [if_pos (by omega)]
    · rw [if_neg e]
      simp only [late, List.getElem_mapIdx]
      by_cases h3 : c ≤ i ∧ i < k
      · rw [if_pos h3, if_pos (by omega)]
      · rw [if_neg h3, if_neg (by omega)]
/-- Whether nothing is to be done. -/
def badB (s : ByteArray) (l : List S32) (call days : Int) : Bool := !(mayB ⟨s, l⟩) || (decide (call < 0) || (decide (call ≥ (l.length : Int)) || (decide (days < 0) || decide (days > 1048576))))
def delF (s : ByteArray) (l : List S32) (call days : Int) : List S32 :=
  if badB s l call days = true then l else if mayB ⟨s, late call.toNat l.length days l⟩ = true then late call.toNat l.length days l else l
/-- Where the three boxes are. -/
structure St (w W : World) (s : ByteArray) (A : Option Addr) (n c : Nat) (v : Value) : Prop where
  box : W.heap[w.heap.size]? = some (.cells #[.string s, .slice A n c] 35 (0, 0))
  res : W.heap[w.heap.size + 1]? = some (.cells #[.string (⟨#[]⟩ : ByteArray), .slice none 0 0] 35 (0, 0))
  out : W.heap[w.heap.size + 1 + 1]? = some (.cells #[.string s, v] 35 (0, 0))
  below : Below w.heap.size w W
theorem St.step {w W W' : World} {s : ByteArray} {A : Option Addr} {n c : Nat} {v : Value} (h : St w W s A n c v) (hb : Below W.heap.size W W') : St w W' s A n c v :=
  ⟨blk_below h.box hb, blk_below h.res hb, blk_below h.out hb, below_step h.below hb⟩
theorem St.put {w W : World} {s : ByteArray} {A : Option Addr} {n c : Nat} {v : Value} (h : St w W s A n c v) (u : Value) : St w (W.setCell ⟨w.heap.size + 1 + 1, 1, none⟩ u) s A n c u :=
  ⟨blk_far h.box (show w.heap.size ≠ w.heap.size + 1 + 1 by omega) _, blk_far h.res (show w.heap.size + 1 ≠ w.heap.size + 1 + 1 by omega) _, blk_put h.out 1 u rfl, below_set h.below (by omega)⟩
theorem St.c0 {w W : World} {s : ByteArray} {A : Option Addr} {n c : Nat} {v : Value} (h : St w W s A n c v) :
    W.cell? ⟨w.heap.size, 0, none⟩ = some (.string s) ∧ W.cell? ⟨w.heap.size, 1, none⟩ = some (.slice A n c) ∧ W.cell? ⟨w.heap.size + 1 + 1, 0, none⟩ = some (.string s) ∧ W.cell? ⟨w.heap.size + 1 + 1, 1, none⟩ = some v ∧ W.frozen? ⟨w.heap.size + 1 + 1, 1, none⟩ = false :=
  ⟨blk_cell h.box 0, blk_cell h.box 1, blk_cell h.out 0, blk_cell h.out 1, blk_frozen h.out 1⟩
theorem St.c1 {w W : World} {s : ByteArray} {A : Option Addr} {n c : Nat} {v : Value} (h : St w W s A n c v) :
    W.cell? ⟨w.heap.size + 1, 0, none⟩ = some (.string (⟨#[]⟩ : ByteArray)) ∧ W.cell? ⟨w.heap.size + 1, 1, none⟩ = some (.slice none 0 0) ∧ W.frozen? ⟨w.heap.size + 1, 0, none⟩ = false ∧ W.frozen? ⟨w.heap.size + 1, 1, none⟩ = false :=
  ⟨blk_cell h.res 0, blk_cell h.res 1, blk_frozen h.res 0, blk_frozen h.res 1⟩
theorem e35 : ∀ q, q ∈ 32 :: k32.E → q ≠ 35 := fun q hq => by
  have h : q ∈ [32] := hq
  rw [List.mem_singleton.1 h]
  decide
theorem del_ret {w W : World} {s : ByteArray} {A : Option Addr} {n c : Nat} {v : Value} {m : List S32} {tmps : Array Value} (hS : St w W s A n c v) (hR : Kd.R k32 32 W w.heap.size (fun _ => True) v m) (hp : tmps.getD 6 undef = .pointer (some ⟨w.heap.size + 1, 0, none⟩)) :
    bodyPost Tryd.prog Tryd.f12 (fun e w' => ∃ v1_ : Value, e = .returned (.agg #[.string s, v1_]) ∧ Kd.R k32 32 w' w.heap.size (fun _ => True) v1_ m ∧ Below w.heap.size w w') Exit.ret { tmps := tmps, defers := [] } ((W.setCell ⟨w.heap.size + 1, 0, none⟩ (.string s)).setCell ⟨w.heap.size + 1, 1, none⟩ v) := by
  have h1 := blk_put hS.res 0 (.string s) rfl
  have h2 := blk_put h1 1 v rfl
  refine bodyPost_ret (results_cell_row rfl _ _ (w.heap.size + 1) 35 #[.string s, v] (0, 0) _ hp h2 Tryd.underlying35 rfl (by kernel_rfl)) rfl ?_
  exact ⟨v, rfl, Kd.R_set (Kd.R_set hR hS.res e35 0 _) h1 e35 1 _, below_set (below_set hS.below (by omega)) (by omega)⟩
theorem row_put {W : World} {base g n cap k : Nat} {xs : List S32} (h : Kd.R k32 32 W base (fun _ => True) (.slice (some ⟨g, 0, none⟩) n cap) xs) (hk : k < n) (j : Nat) (v : Int) (x' : S32) (hj : 1 ≤ j) (hj3 : j ≤ 3)
    (hx : x' = ⟨(xs.getD k z32).f0, if j = 1 then v else (xs.getD k z32).f1, if j = 2 then v else (xs.getD k z32).f2, if j = 3 then v else (xs.getD k z32).f3⟩) :
    Kd.R k32 32 (W.setCell ⟨g, k * 4 + j, none⟩ (.int .i64 v)) base (fun _ => True) (.slice (some ⟨g, 0, none⟩) n cap) (xs.set k x') := by
  obtain ⟨cc, hccl, hM, hcell, hfroz⟩ := Kd.R_elem h z32 (k : Int) (by omega) (by omega)
  obtain rfl := k32_openM hM
  have hz : k32.sz = 4 := rfl
  have h2 := (Kd.R_seg (d := k32) (okp := fun k => True ∧ k ≠ g) h (k : Int) (by omega) (by omega) (seg := [.int .i64 v]) (j := j) hccl hcell (by rw [hz]; simp; omega) (x' := x') (by
    subst hx
    have hj4 : j = 1 ∨ j = 2 ∨ j = 3 := by omega
    rcases hj4 with rfl | rfl | rfl <;> exact k32_mkM W base _ _) (fun _ h => h)).1
  exact h2
theorem set_get {xs : List S32} {k : Nat} (h : k < xs.length) (x : S32) : (xs.set k x).getD k z32 = x := by
  rw [List.getD_eq_getElem?_getD, List.getElem?_set_self h]; rfl
theorem St.far {w W : World} {s : ByteArray} {A : Option Addr} {n c : Nat} {v : Value} (h : St w W s A n c v) {g : Nat} (hb : w.heap.size ≤ g) {cs : Array Value} (hg : W.heap[g]? = some (.cells cs 32 (0, 0))) (j : Nat) (u : Value) : St w (W.setCell ⟨g, j, none⟩ u) s A n c v :=
  ⟨blk_far h.box (blk_ne h.box hg (by decide)) _, blk_far h.res (blk_ne h.res hg (by decide)) _, blk_far h.out (blk_ne h.out hg (by decide)) _, below_set h.below hb⟩
theorem row_put3 {w W : World} {s : ByteArray} {A : Option Addr} {n0 c : Nat} {v : Value} {g n cap k : Nat} {xs : List S32} (hS : St w W s A n0 c v) (h : Kd.R k32 32 W w.heap.size (fun _ => True) (.slice (some ⟨g, 0, none⟩) n cap) xs) (hk : k < n) (v1 v2 v3 : Int) (hb : w.heap.size ≤ g) :
    Kd.R k32 32 (((W.setCell ⟨g, k * 4 + 2, none⟩ (.int .i64 v2)).setCell ⟨g, k * 4 + 3, none⟩ (.int .i64 v3)).setCell ⟨g, k * 4 + 1, none⟩ (.int .i64 v1)) w.heap.size (fun _ => True) (.slice (some ⟨g, 0, none⟩) n cap) (xs.set k ⟨(xs.getD k z32).f0, v1, v2, v3⟩) ∧
    St w (((W.setCell ⟨g, k * 4 + 2, none⟩ (.int .i64 v2)).setCell ⟨g, k * 4 + 3, none⟩ (.int .i64 v3)).setCell ⟨g, k * 4 + 1, none⟩ (.int .i64 v1)) s A n0 c v := by
  have hn := (Kd.R_reads' h).1
  have hl : k < xs.length := by omega
  have h1 := row_put h hk 2 v2 ⟨(xs.getD k z32).f0, (xs.getD k z32).f1, v2, (xs.getD k z32).f3⟩ (by omega) (by omega) rfl
  have h2 := row_put h1 hk 3 v3 ⟨(xs.getD k z32).f0, (xs.getD k z32).f1, v2, v3⟩ (by omega) (by omega) (by rw [set_get hl]; rfl)
  rw [List.set_set] at h2
  have h3 := row_put h2 hk 1 v1 ⟨(xs.getD k z32).f0, v1, v2, v3⟩ (by omega) (by omega) (by rw [set_get hl]; rfl)
  rw [List.set_set] at h3
  obtain ⟨cs, hcs⟩ := Kd.R_typed h g rfl
  exact ⟨h3, ((hS.far hb hcs _ _).far hb (blk_set hcs _ _) _ _).far hb (blk_set (blk_set hcs _ _) _ _) _ _⟩
/-- Until the first store the element is as it was. -/
def SL (g o : Nat) (x : S32) (L : Array Bool) (W : World) : Prop := L.getD 23 false = false → W.cell? ⟨g, o + 1, none⟩ = some (.int .i64 x.f1) ∧ W.cell? ⟨g, o + 2, none⟩ = some (.int .i64 x.f2) ∧ W.cell? ⟨g, o + 3, none⟩ = some (.int .i64 x.f3)
theorem SL_un {g o : Nat} {x : S32} {i : Nat} (hi : i ≠ 23) : ∀ L W, SL g o x (L.setIfInBounds i true) W → SL g o x L W := fun L W h hL => h (by rw [getD_set_ne false hi]; exact hL)
def backB (md : Region.Mode) (ops : Array Oper) (i j : Nat) : Bool := match ops[j]? with | some o => o.after.any (fun e => e.on == i && Region.binds md e) | none => false
theorem closed_back {md : Region.Mode} {ops : Array Oper} {L : Array Bool} {i j : Nat} (h : Closed md ops L) (hb : backB md ops i j = true) (hl : L.getD i true = false) : L.getD j false = false := by
  cases hj : L.getD j false with
  | false => rfl
  | true =>
    unfold backB at hb
    cases ho : ops[j]? with
    | none => rw [ho] at hb; cases hb
    | some o =>
      rw [ho] at hb
      obtain ⟨e, he, hh⟩ := Array.any_eq_true'.1 hb
      simp only [Bool.and_eq_true, beq_iff_eq] at hh
      have h1 := h j o ho hj e he hh.2
      rw [hh.1] at h1
      rw [Array.getD_eq_getD_getElem?] at hl h1
      cases h2 : L[i]? with
      | none => rw [h2] at h1; cases h1
      | some b => rw [h2] at h1 hl; simp at h1 hl; rw [h1] at hl; cases hl
set_option maxRecDepth 100000 in
set_option maxHeartbeats 8000000 in
theorem delay_calls (s : ByteArray) (A : Option Addr) (c : Nat) (l : List S32) (call days : Int) (w : World) (hr : Kd.C k32 w A l.length l) (hc : l.length ≤ c) (hl : l.length ≤ 1000000) :
    Calls Tryd.prog 12 #[.agg #[.string s, .slice A l.length c], .int .i64 call, .int .i64 days] w fun e w' => ∃ v1_ : Value, e = .returned (.agg #[.string s, v1_]) ∧ Kd.R k32 32 w' w.heap.size (fun _ => True) v1_ (delF s l call days) ∧ Below w.heap.size w w' := by
  have hu35 := Tryd.underlying35
  have hu32 := Tryd.underlying32
  have hr0 := Aside0.mk hr
  clear hr
  obtain ⟨km, hkm⟩ := (may_ev ⟨s, l⟩).rounds
  have hkm := Aside0.mk hkm
  go_enter Tryd.func12, Tryd.ntmps12
  refine wp_cut (fun a' W => Aside0 (((w.alloc (Obj.cells #[.string s, .slice A l.length c] 35)).alloc (Obj.cells #[.string (⟨#[]⟩ : ByteArray), .slice none 0 0] 35)) = W) ∧ a' = { tmps := #[.agg #[.string s, .slice A l.length c], .int .i64 call, .int .i64 days, .pointer (some ⟨w.heap.size, 0, none⟩), undef, undef, .pointer (some ⟨w.heap.size + 1, 0, none⟩), undef, undef, undef, undef, undef, undef, undef, undef, undef, undef, undef, undef, undef, undef, undef, undef, undef, undef, undef, undef, undef, undef, undef, undef, undef, undef, undef, undef, undef, undef, undef, undef, undef, undef, undef, undef, undef, undef, undef, undef, undef, undef, undef, undef, undef, undef, undef, undef, undef, undef, undef, undef, undef, undef, undef, undef, undef, undef, undef, undef, undef, undef, undef, undef, undef, undef, undef, undef, undef, undef, undef, undef, undef, undef, undef, undef, undef, undef], defers := [] }) ?b0 ?c0
  case b0 =>
    go_wp2
    exact ⟨trivial⟩
  case c0 =>
  rintro a' W0 ⟨⟨hW0⟩, rfl⟩
  have hW0 := Aside0.mk hW0
  refine wp_cut (fun a' W => ∃ v10, a' = { tmps := #[.agg #[.string s, .slice A l.length c], .int .i64 call, .int .i64 days, .pointer (some ⟨w.heap.size, 0, none⟩), undef, undef, .pointer (some ⟨w.heap.size + 1, 0, none⟩), .pointer (some ⟨w.heap.size + 1 + 1, 0, none⟩), undef, undef, v10, undef, undef, undef, undef, undef, undef, undef, undef, undef, undef, undef, undef, undef, undef, undef, undef, undef, undef, undef, undef, undef, undef, undef, undef, undef, undef, undef, undef, undef, undef, undef, undef, undef, undef, undef, undef, undef, undef, undef, undef, undef, undef, undef, undef, undef, undef, undef, undef, undef, undef, undef, undef, undef, undef, undef, undef, undef, undef, undef, undef, undef, undef, undef, undef, undef, undef, undef, undef, undef, undef, undef, undef, undef, undef], defers := [] } ∧ St w W s A l.length c (.slice A l.length c)) ?b1 ?c1
  case b1 =>
    have x0 : W0.cell? ⟨w.heap.size, 0, none⟩ = some (.string s) := by rw [← hW0.out]; simp [go_sem]
    have x1 : W0.cell? ⟨w.heap.size, 1, none⟩ = some (.slice A l.length c) := by rw [← hW0.out]; simp [go_sem]
    have x2 : W0.heap.size = w.heap.size + 1 + 1 := by rw [← hW0.out]; simp
    go_wp2
    refine ⟨?_, ?_, ?_, ?_⟩
    · rw [← hW0.out]; exact blk_alloc (blk_alloc (blk_new w _) _) _
    · rw [← hW0.out]
      have h := blk_new (w.alloc (Obj.cells #[.string s, .slice A l.length c] 35)) (Obj.cells #[.string (⟨#[]⟩ : ByteArray), .slice none 0 0] 35)
      rw [World.size_alloc] at h
      exact blk_alloc h _
    · rw [← x2]; exact blk_new W0 _
    · rw [← hW0.out]; exact below_alloc (below_alloc (below_alloc (Below.refl _ _) _) _) _
  case c1 =>
  rintro a' W1 ⟨v10, rfl, hS1⟩
  clear hW0
  refine wp_cut (fun a' W => ∃ A1 c1 v10 v11 v12 v13 v14, a' = { tmps := #[.agg #[.string s, .slice A l.length c], .int .i64 call, .int .i64 days, .pointer (some ⟨w.heap.size, 0, none⟩), undef, undef, .pointer (some ⟨w.heap.size + 1, 0, none⟩), .pointer (some ⟨w.heap.size + 1 + 1, 0, none⟩), undef, undef, v10, v11, v12, v13, v14, undef, undef, undef, undef, undef, undef, undef, undef, undef, undef, undef, undef, undef, undef, undef, undef, undef, undef, undef, undef, undef, undef, undef, undef, undef, undef, undef, undef, undef, undef, undef, undef, undef, undef, undef, undef, undef, undef, undef, undef, undef, undef, undef, undef, undef, undef, undef, undef, undef, undef, undef, undef, undef, undef, undef, undef, undef, undef, undef, undef, undef, undef, undef, undef, undef, undef, undef, undef, undef, undef], defers := [] } ∧ St w W s A l.length c (.slice A1 l.length c1) ∧ Kd.R k32 32 W w.heap.size (fun _ => True) (.slice A1 l.length c1) l) ?b2 ?c2
  case b2 =>
    obtain ⟨x0, x1, x2, x3, x4⟩ := hS1.c0
    have hS1 := Aside0.mk hS1
    go_wp2_with (first
      | (go_at_call 23; refine (clone_Call.calls A c l l _ (Kd.C_below hr0.out hS1.out.below) hc (if_pos hl)).mono ?_; rintro e W2 ⟨v0, rfl, hR, hb⟩; obtain ⟨A1, c1, rfl, hc1, hC1⟩ := Kd.R_reads hR; have hR := Aside0.mk hR; have hS2 := Aside0.mk (hS1.out.step hb); obtain ⟨y0, y1, y2, y3, y4⟩ := hS2.out.c0; clear hC1 x0 x1 x2 x3 x4 hb))
    exact ⟨A1, c1, _, _, _, _, _, rfl, hS2.out.put _, Kd.R_set (Kd.R_lower hR.out hS1.out.below.size) hS2.out.out e35 1 _⟩
  case c2 =>
  rintro a' W2 ⟨A1, c1, v10, v11, v12, v13, v14, rfl, hS2, hR2⟩
  refine wp_cut (fun a' W => ∃ v10 v11 v12 v13 v14 v15 v16 v17 v18 v19 v20 v21 v22 v23 v24 v25 v26 v27 v28 v29 v30 v31 v32 v33 v34 v35 v36, a' = { tmps := #[.agg #[.string s, .slice A l.length c], .int .i64 call, .int .i64 days, .pointer (some ⟨w.heap.size, 0, none⟩), undef, undef, .pointer (some ⟨w.heap.size + 1, 0, none⟩), .pointer (some ⟨w.heap.size + 1 + 1, 0, none⟩), undef, undef, v10, v11, v12, v13, v14, v15, v16, v17, v18, v19, v20, v21, v22, v23, v24, v25, v26, v27, v28, v29, v30, v31, v32, v33, v34, v35, v36, undef, undef, undef, undef, undef, undef, undef, undef, undef, undef, undef, undef, undef, undef, undef, undef, undef, undef, undef, undef, undef, undef, undef, undef, undef, undef, undef, undef, undef, undef, undef, undef, undef, undef, undef, undef, undef, undef, undef, undef, undef, undef, undef, undef, undef, undef, undef, undef], defers := [] } ∧ badB s l call days = false ∧ St w W s A l.length c (.slice A1 l.length c1) ∧ Kd.R k32 32 W w.heap.size (fun _ => True) (.slice A1 l.length c1) l) ?b3 ?c3
  case b3 =>
    refine wp_cut (fun a' W => ∃ v10 v11 v12 v13 v14 v15 v16 v17 v18 v19 v20 v21 v22 v23 v24 v25 v26 v27 v28 v29 v30 v31 v32 v33 v34 v35, a' = { tmps := #[.agg #[.string s, .slice A l.length c], .int .i64 call, .int .i64 days, .pointer (some ⟨w.heap.size, 0, none⟩), undef, undef, .pointer (some ⟨w.heap.size + 1, 0, none⟩), .pointer (some ⟨w.heap.size + 1 + 1, 0, none⟩), undef, undef, v10, v11, v12, v13, v14, v15, v16, v17, v18, v19, v20, v21, v22, v23, v24, v25, v26, v27, v28, v29, v30, v31, v32, v33, v34, v35, .bool (badB s l call days), undef, undef, undef, undef, undef, undef, undef, undef, undef, undef, undef, undef, undef, undef, undef, undef, undef, undef, undef, undef, undef, undef, undef, undef, undef, undef, undef, undef, undef, undef, undef, undef, undef, undef, undef, undef, undef, undef, undef, undef, undef, undef, undef, undef, undef, undef, undef, undef], defers := [] } ∧ St w W s A l.length c (.slice A1 l.length c1) ∧ Kd.R k32 32 W w.heap.size (fun _ => True) (.slice A1 l.length c1) l) ?r3 ?q3
    case r3 =>
      obtain ⟨x0, x1, x2, x3, x4⟩ := hS2.c0
      have hS2 := Aside0.mk hS2
      have hR2 := Aside0.mk hR2
      have hn : (l.length : Int) ≤ 1000000 := by omega
      have go : ∀ bb, badB s l call days = bb → ((mayB ⟨s, l⟩ = false ∧ bb = true) ∨ (mayB ⟨s, l⟩ = true ∧ ((call < 0 ∧ bb = true) ∨ (¬ call < 0 ∧ ((call ≥ (l.length : Int) ∧ bb = true) ∨ (¬ call ≥ (l.length : Int) ∧ ((days < 0 ∧ bb = true) ∨ (¬ days < 0 ∧ ((days > 1048576 ∧ bb = true) ∨ (¬ days > 1048576 ∧ bb = false)))))))))) := by
        intro bb hbb
        subst hbb
        unfold badB
        cases mayB ⟨s, l⟩ <;> by_cases h1 : call < 0 <;> by_cases h2 : call ≥ (l.length : Int) <;> by_cases h3 : days < 0 <;> by_cases h4 : days > 1048576 <;> simp [h1, h2, h3, h4]
      generalize hbb : badB s l call days = bb
      rcases go bb hbb with ⟨hm, rfl⟩ | ⟨hm, ⟨h1, rfl⟩ | ⟨h1, ⟨h2, rfl⟩ | ⟨h2, ⟨h3, rfl⟩ | ⟨h3, ⟨h4, rfl⟩ | ⟨h4, rfl⟩⟩⟩⟩⟩
      all_goals clear hbb go
      all_goals
        go_wp2_with (first
          | (go_at_call 15; refine (port_May.calls km s A c l _ _ (Kd.C_below hr0.out hS2.out.below) hc hkm.out).mono ?_; rintro e W3 ⟨rfl, hb⟩; have hS3 := Aside0.mk (hS2.out.step hb); have hR3 := Aside0.mk (Kd.R_below hR2.out hb); obtain ⟨y0, y1, y2, y3, y4⟩ := hS3.out.c0; clear x0 x1 x2 x3 x4 hb))
        first
          | exact ⟨_, _, _, _, _, _, _, _, _, _, _, _, _, _, _, _, _, _, _, _, _, _, _, _, _, _, rfl, hS3.out, hR3.out⟩
          | (simp only [show decide (call < 0) = false from decide_eq_false (by omega), show decide (days < 0) = false from decide_eq_false (by omega), show decide ((l.length : Int) ≤ call) = false from decide_eq_false (by omega), show decide (1048576 < days) = false from decide_eq_false (by omega), Bool.or_self]; exact ⟨_, _, _, _, _, _, _, _, _, _, _, _, _, _, _, _, _, _, _, _, _, _, _, _, _, _, rfl, hS3.out, hR3.out⟩)
    case q3 =>
      rintro a' W3 ⟨v10, v11, v12, v13, v14, v15, v16, v17, v18, v19, v20, v21, v22, v23, v24, v25, v26, v27, v28, v29, v30, v31, v32, v33, v34, v35, rfl, hS3, hR3⟩
      refine wp_cond (t := badB s l call days) rfl ?_
      cases hbad : badB s l call days with
      | false =>
        simp only [Bool.false_eq_true, if_false]
        refine wp_skip ?_
        exact ⟨_, _, _, _, _, _, _, _, _, _, _, _, _, _, _, _, _, _, _, _, _, _, _, _, _, _, _, rfl, trivial, hS3, hR3⟩
      | true =>
        simp only [if_true]
        obtain ⟨x0, x1, x2, x3, x4⟩ := hS3.c0
        obtain ⟨y0, y1, y2, y3⟩ := hS3.c1
        have hS3 := Aside0.mk hS3
        have hR3 := Aside0.mk hR3
        go_wp2
        rw [show delF s l call days = l by unfold delF; rw [if_pos hbad]]
        exact del_ret hS3.out hR3.out rfl
  case c3 =>
  rintro a' W3 ⟨v10, v11, v12, v13, v14, v15, v16, v17, v18, v19, v20, v21, v22, v23, v24, v25, v26, v27, v28, v29, v30, v31, v32, v33, v34, v35, v36, rfl, hbad, hS3, hR3⟩
  have hb4 : mayB ⟨s, l⟩ = true ∧ 0 ≤ call ∧ call < (l.length : Int) ∧ 0 ≤ days ∧ days ≤ 1048576 := by
    unfold badB at hbad
    simp at hbad
    exact ⟨hbad.1, by omega, by omega, by omega, by omega⟩
  obtain ⟨hmay, hc0, hcl, hd0, hd1⟩ := hb4
  obtain ⟨g, cap, hv, hbg, hgW, _⟩ := Kd.R_form hR3 (by omega)
  obtain ⟨rfl, rfl⟩ : A1 = some ⟨g, 0, none⟩ ∧ c1 = cap := by
    injection hv with e1 _ e3
    exact ⟨e1, e3⟩
  clear hv hgW
  refine wp_cut (fun a' W => ∃ v8 v9 v38 v39 v40 v41 v42 v43 v44 v45 v46 v47 v48 v49 v50 v51 v52 v53 v54 v55 v56 v57 v58 v59 v60 v61 v62 v63 v64 v65 v66 v67 v68 v69 v70 v71 v72 v73 v74 v75 v76, a' = { tmps := #[.agg #[.string s, .slice A l.length c], .int .i64 call, .int .i64 days, .pointer (some ⟨w.heap.size, 0, none⟩), undef, undef, .pointer (some ⟨w.heap.size + 1, 0, none⟩), .pointer (some ⟨w.heap.size + 1 + 1, 0, none⟩), v8, v9, v10, v11, v12, v13, v14, v15, v16, v17, v18, v19, v20, v21, v22, v23, v24, v25, v26, v27, v28, v29, v30, v31, v32, v33, v34, v35, v36, undef, v38, v39, v40, v41, v42, v43, v44, v45, v46, v47, v48, v49, v50, v51, v52, v53, v54, v55, v56, v57, v58, v59, v60, v61, v62, v63, v64, v65, v66, v67, v68, v69, v70, v71, v72, v73, v74, v75, v76, undef, undef, undef, undef, undef, undef, undef, undef], defers := [] } ∧ St w W s A l.length c (.slice (some ⟨g, 0, none⟩) l.length c1) ∧ Kd.R k32 32 W w.heap.size (fun _ => True) (.slice (some ⟨g, 0, none⟩) l.length c1) (late call.toNat l.length days l)) ?b4 ?c4
  case b4 =>
    refine wp_cut (fun a' W => ∃ v38, W = W3 ∧ a' = { tmps := #[.agg #[.string s, .slice A l.length c], .int .i64 call, .int .i64 days, .pointer (some ⟨w.heap.size, 0, none⟩), undef, undef, .pointer (some ⟨w.heap.size + 1, 0, none⟩), .pointer (some ⟨w.heap.size + 1 + 1, 0, none⟩), .int .i64 call, undef, v10, v11, v12, v13, v14, v15, v16, v17, v18, v19, v20, v21, v22, v23, v24, v25, v26, v27, v28, v29, v30, v31, v32, v33, v34, v35, v36, undef, v38, undef, undef, undef, undef, undef, undef, undef, undef, undef, undef, undef, undef, undef, undef, undef, undef, undef, undef, undef, undef, undef, undef, undef, undef, undef, undef, undef, undef, undef, undef, undef, undef, undef, undef, undef, undef, undef, undef, undef, undef, undef, undef, undef, undef, undef, undef], defers := [] }) ?r4 ?q4
    case r4 =>
      have hS3 := Aside0.mk hS3
      have hR3 := Aside0.mk hR3
      go_wp2
      try exact ⟨_, rfl, rfl⟩
    case q4 =>
      rintro a' W ⟨v38, rfl, rfl⟩
      have hr4 := Kd.R_lower hR3 (Nat.le_refl _)
      have hs4 := hS3
      have hS3 := Aside0.mk hS3
      have hR3 := Aside0.mk hR3
      go_wp2
      go_loopw [8] (fun v8 wr => ∃ k : Nat, call ≤ k ∧ k ≤ l.length ∧ v8 = .int .i64 k ∧ St w wr s A l.length c (.slice (some ⟨g, 0, none⟩) l.length c1) ∧ Kd.R k32 32 wr w.heap.size (fun _ => True) (.slice (some ⟨g, 0, none⟩) l.length c1) (late call.toNat k days l)) (fun v8 _ => l.length - (intOf v8).toNat)
      case atStart => exact ⟨call.toNat, by omega, by omega, by congr 1; omega, hs4, by rw [late_start]; exact hr4⟩
      case round =>
        obtain ⟨k, hck, hkl, rfl, hS, hR⟩ := hrel
        clear hr4 hs4 hR3 hS3
        obtain ⟨x0, x1, x2, x3, x4⟩ := hS.c0
        have hS := Aside0.mk hS
        have hR := Aside0.mk hR
        by_cases hlt : k < l.length
        · have hlt' : (k : Int) < (l.length : Int) := by omega
          go_wp2
          rename_i KK hKK
          obtain ⟨cc, hccl, hM, hcell, hfroz⟩ := Kd.R_elem hR.out z32 (k : Int) (by omega) (by omega)
          obtain rfl := k32_openM hM
          generalize hx : (late call.toNat k days l).getD (k : Int).toNat z32 = x at hM hcell hccl
          have q1 : wr.cell? ⟨g, k * 4 + 1, none⟩ = some (.int .i64 x.f1) := hcell 1 _ rfl
          have q2 : wr.cell? ⟨g, k * 4 + 2, none⟩ = some (.int .i64 x.f2) := hcell 2 _ rfl
          have q3 : wr.cell? ⟨g, k * 4 + 3, none⟩ = some (.int .i64 x.f3) := hcell 3 _ rfl
          have z1 : wr.frozen? ⟨g, k * 4 + 1, none⟩ = false := hfroz 1
          have z2 : wr.frozen? ⟨g, k * 4 + 2, none⟩ = false := hfroz 2
          have z3 : wr.frozen? ⟨g, k * 4 + 3, none⟩ = false := hfroz 3
          clear hcell hfroz x0 x1 x2 x3 x4
          refine region_plainL (S := SL g (k * 4) x) (K := _) (by kernel_rfl) (fun _ _ h => h) ?_
          have hSL : ∀ L, SL g (k * 4) x L wr.drew := fun L _ => ⟨q1, q2, q3⟩
          refine wpAnyL_take (i := 0) (v := ?hv0) rfl (by kernel_rfl) (by kernel_rfl) (by kernel_rfl) (by kernel_rfl) (fun _ _ _ h => h) (SL_un (by decide)) (Or.inl ⟨by rfl, ?hy0⟩) (hSL _) (hSL _) ?rest0
          case hy0 => (intro w' hU; go_simp; with_reducible rfl)
          refine wpAnyL_take (i := 1) (v := ?hv1) rfl (by kernel_rfl) (by kernel_rfl) (by kernel_rfl) (by kernel_rfl) (fun _ _ _ h => h) (SL_un (by decide)) (Or.inl ⟨by rfl, ?hy1⟩) (hSL _) (hSL _) ?rest1
          case hy1 => (intro w' hU; go_simp; with_reducible rfl)
          refine wpAnyL_take (i := 2) (v := ?hv2) rfl (by kernel_rfl) (by kernel_rfl) (by kernel_rfl) (by kernel_rfl) (fun _ _ _ h => h) (SL_un (by decide)) (Or.inl ⟨by rfl, ?hy2⟩) (hSL _) (hSL _) ?rest2
          case hy2 => (intro w' hU; go_simp; with_reducible rfl)
          refine wpAnyL_take (i := 3) (v := ?hv3) rfl (by kernel_rfl) (by kernel_rfl) (by kernel_rfl) (by kernel_rfl) (fun _ _ _ h => h) (SL_un (by decide)) (Or.inl ⟨by rfl, ?hy3⟩) (hSL _) (hSL _) ?rest3
          case hy3 => (intro w' hU; go_simp; with_reducible rfl)
          refine wpAnyL_take (i := 4) (v := ?hv4) rfl (by kernel_rfl) (by kernel_rfl) (by kernel_rfl) (by kernel_rfl) (fun _ _ _ h => h) (SL_un (by decide)) (Or.inl ⟨by rfl, ?hy4⟩) (hSL _) (hSL _) ?rest4
          case hy4 => (intro w' hU; go_simp; with_reducible rfl)
          refine wpAnyL_take (i := 5) (v := ?hv5) rfl (by kernel_rfl) (by kernel_rfl) (by kernel_rfl) (by kernel_rfl) (fun _ _ _ h => h) (SL_un (by decide)) (Or.inl ⟨by rfl, ?hy5⟩) (hSL _) (hSL _) ?rest5
          case hy5 => (intro w' hU; go_simp; with_reducible rfl)
          refine wpAnyL_take (i := 6) (v := ?hv6) rfl (by kernel_rfl) (by kernel_rfl) (by kernel_rfl) (by kernel_rfl) (fun _ _ _ h => h) (SL_un (by decide)) (Or.inl ⟨by rfl, ?hy6⟩) (hSL _) (hSL _) ?rest6
          case hy6 => (intro w' hU; obtain ⟨L', hu1, hu2, hu3⟩ := hU; obtain ⟨e1, e2, e3⟩ := hu3 (closed_back (i := 6) (j := 23) hu2 (by kernel_rfl) hu1); clear hu3; go_simp; with_reducible rfl)
          refine wpAnyL_take (i := 7) (v := ?hv7) rfl (by kernel_rfl) (by kernel_rfl) (by kernel_rfl) (by kernel_rfl) (fun _ _ _ h => h) (SL_un (by decide)) (Or.inl ⟨by rfl, ?hy7⟩) (hSL _) (hSL _) ?rest7
          case hy7 => (intro w' hU; go_simp; with_reducible rfl)
          refine wpAnyL_take (i := 8) (v := ?hv8) rfl (by kernel_rfl) (by kernel_rfl) (by kernel_rfl) (by kernel_rfl) (fun _ _ _ h => h) (SL_un (by decide)) (Or.inl ⟨by rfl, ?hy8⟩) (hSL _) (hSL _) ?rest8
          case hy8 => (intro w' hU; go_simp; with_reducible rfl)
          refine wpAnyL_take (i := 9) (v := ?hv9) rfl (by kernel_rfl) (by kernel_rfl) (by kernel_rfl) (by kernel_rfl) (fun _ _ _ h => h) (SL_un (by decide)) (Or.inl ⟨by rfl, ?hy9⟩) (hSL _) (hSL _) ?rest9
          case hy9 => (intro w' hU; go_simp; with_reducible rfl)
          refine wpAnyL_take (i := 10) (v := ?hv10) rfl (by kernel_rfl) (by kernel_rfl) (by kernel_rfl) (by kernel_rfl) (fun _ _ _ h => h) (SL_un (by decide)) (Or.inl ⟨by rfl, ?hy10⟩) (hSL _) (hSL _) ?rest10
          case hy10 => (intro w' hU; go_simp; with_reducible rfl)
          refine wpAnyL_take (i := 11) (v := ?hv11) rfl (by kernel_rfl) (by kernel_rfl) (by kernel_rfl) (by kernel_rfl) (fun _ _ _ h => h) (SL_un (by decide)) (Or.inl ⟨by rfl, ?hy11⟩) (hSL _) (hSL _) ?rest11
          case hy11 => (intro w' hU; go_simp; with_reducible rfl)
          refine wpAnyL_take (i := 12) (v := ?hv12) rfl (by kernel_rfl) (by kernel_rfl) (by kernel_rfl) (by kernel_rfl) (fun _ _ _ h => h) (SL_un (by decide)) (Or.inl ⟨by rfl, ?hy12⟩) (hSL _) (hSL _) ?rest12
          case hy12 => (intro w' hU; obtain ⟨L', hu1, hu2, hu3⟩ := hU; obtain ⟨e1, e2, e3⟩ := hu3 (closed_back (i := 12) (j := 23) hu2 (by kernel_rfl) hu1); clear hu3; go_simp; with_reducible rfl)
          refine wpAnyL_take (i := 13) (v := ?hv13) rfl (by kernel_rfl) (by kernel_rfl) (by kernel_rfl) (by kernel_rfl) (fun _ _ _ h => h) (SL_un (by decide)) (Or.inl ⟨by rfl, ?hy13⟩) (hSL _) (hSL _) ?rest13
          case hy13 => (intro w' hU; go_simp; with_reducible rfl)
          refine wpAnyL_take (i := 14) (v := ?hv14) rfl (by kernel_rfl) (by kernel_rfl) (by kernel_rfl) (by kernel_rfl) (fun _ _ _ h => h) (SL_un (by decide)) (Or.inl ⟨by rfl, ?hy14⟩) (hSL _) (hSL _) ?rest14
          case hy14 => (intro w' hU; go_simp; with_reducible rfl)
          refine wpAnyL_take (i := 15) (v := ?hv15) rfl (by kernel_rfl) (by kernel_rfl) (by kernel_rfl) (by kernel_rfl) (fun _ _ _ h => h) (SL_un (by decide)) (Or.inl ⟨by rfl, ?hy15⟩) (hSL _) (hSL _) ?rest15
          case hy15 => (intro w' hU; go_simp; with_reducible rfl)
          refine wpAnyL_take (i := 16) (v := ?hv16) rfl (by kernel_rfl) (by kernel_rfl) (by kernel_rfl) (by kernel_rfl) (fun _ _ _ h => h) (SL_un (by decide)) (Or.inl ⟨by rfl, ?hy16⟩) (hSL _) (hSL _) ?rest16
          case hy16 => (intro w' hU; go_simp; with_reducible rfl)
          refine wpAnyL_take (i := 17) (v := ?hv17) rfl (by kernel_rfl) (by kernel_rfl) (by kernel_rfl) (by kernel_rfl) (fun _ _ _ h => h) (SL_un (by decide)) (Or.inl ⟨by rfl, ?hy17⟩) (hSL _) (hSL _) ?rest17
          case hy17 => (intro w' hU; go_simp; with_reducible rfl)
          refine wpAnyL_take (i := 18) (v := ?hv18) rfl (by kernel_rfl) (by kernel_rfl) (by kernel_rfl) (by kernel_rfl) (fun _ _ _ h => h) (SL_un (by decide)) (Or.inl ⟨by rfl, ?hy18⟩) (hSL _) (hSL _) ?rest18
          case hy18 => (intro w' hU; obtain ⟨L', hu1, hu2, hu3⟩ := hU; obtain ⟨e1, e2, e3⟩ := hu3 (closed_back (i := 18) (j := 23) hu2 (by kernel_rfl) hu1); clear hu3; go_simp; with_reducible rfl)
          refine wpAnyL_take (i := 19) (v := ?hv19) rfl (by kernel_rfl) (by kernel_rfl) (by kernel_rfl) (by kernel_rfl) (fun _ _ _ h => h) (SL_un (by decide)) (Or.inl ⟨by rfl, ?hy19⟩) (hSL _) (hSL _) ?rest19
          case hy19 => (intro w' hU; go_simp; with_reducible rfl)
          refine wpAnyL_take (i := 20) (v := ?hv20) rfl (by kernel_rfl) (by kernel_rfl) (by kernel_rfl) (by kernel_rfl) (fun _ _ _ h => h) (SL_un (by decide)) (Or.inl ⟨by rfl, ?hy20⟩) (hSL _) (hSL _) ?rest20
          case hy20 => (intro w' hU; go_simp; with_reducible rfl)
          refine wpAnyL_take (i := 21) (v := ?hv21) rfl (by kernel_rfl) (by kernel_rfl) (by kernel_rfl) (by kernel_rfl) (fun _ _ _ h => h) (SL_un (by decide)) (Or.inl ⟨by rfl, ?hy21⟩) (hSL _) (hSL _) ?rest21
          case hy21 => (intro w' hU; go_simp; with_reducible rfl)
          refine wpAnyL_take (i := 22) (v := ?hv22) rfl (by kernel_rfl) (by kernel_rfl) (by kernel_rfl) (by kernel_rfl) (fun _ _ _ h => h) (SL_un (by decide)) (Or.inl ⟨by rfl, ?hy22⟩) (hSL _) (hSL _) ?rest22
          case hy22 => (intro w' hU; go_simp; with_reducible rfl)
          have hS1 : ∀ (W' : World) (L : Array Bool), L.getD 23 false = true → SL g (k * 4) x L W' := fun W' L h h' => by rw [h] at h'; cases h'
          refine wpAnyL_all (rs := [23]) (by kernel_rfl) (by simp) ?_
          intro j hj
          obtain rfl := List.mem_singleton.1 hj
          refine wpOp_step rfl (fun K' hK' => ?_)
          go_simp
          refine hK' _ _ ⟨hS1 _ _ (by kernel_rfl), ?_⟩
          clear hK' K'
          refine wpAnyL_take (i := 24) (v := ?hv24) rfl (by kernel_rfl) (by kernel_rfl) (by kernel_rfl) (by kernel_rfl) (fun _ _ _ h => h) (SL_un (by decide)) (Or.inl ⟨by rfl, ?hy24⟩) (hS1 _ _ (by kernel_rfl)) (hS1 _ _ (by kernel_rfl)) ?rest24
          case hy24 => (intro w' hU; go_simp; with_reducible rfl)
          refine wpAnyL_take (i := 25) (v := ?hv25) rfl (by kernel_rfl) (by kernel_rfl) (by kernel_rfl) (by kernel_rfl) (fun _ _ _ h => h) (SL_un (by decide)) (Or.inl ⟨by rfl, ?hy25⟩) (hS1 _ _ (by kernel_rfl)) (hS1 _ _ (by kernel_rfl)) ?rest25
          case hy25 => (intro w' hU; go_simp; with_reducible rfl)
          refine wpAnyL_all (rs := [26]) (by kernel_rfl) (by simp) ?_
          intro j hj
          obtain rfl := List.mem_singleton.1 hj
          refine wpOp_step rfl (fun K' hK' => ?_)
          go_simp
          refine hK' _ _ ⟨hS1 _ _ (by kernel_rfl), ?_⟩
          clear hK' K'
          refine wpAnyL_take (i := 27) (v := ?hv27) rfl (by kernel_rfl) (by kernel_rfl) (by kernel_rfl) (by kernel_rfl) (fun _ _ _ h => h) (SL_un (by decide)) (Or.inl ⟨by rfl, ?hy27⟩) (hS1 _ _ (by kernel_rfl)) (hS1 _ _ (by kernel_rfl)) ?rest27
          case hy27 => (intro w' hU; go_simp; with_reducible rfl)
          refine wpAnyL_take (i := 28) (v := ?hv28) rfl (by kernel_rfl) (by kernel_rfl) (by kernel_rfl) (by kernel_rfl) (fun _ _ _ h => h) (SL_un (by decide)) (Or.inl ⟨by rfl, ?hy28⟩) (hS1 _ _ (by kernel_rfl)) (hS1 _ _ (by kernel_rfl)) ?rest28
          case hy28 => (intro w' hU; go_simp; with_reducible rfl)
          refine wpAnyL_all (rs := [29]) (by kernel_rfl) (by simp) ?_
          intro j hj
          obtain rfl := List.mem_singleton.1 hj
          refine wpOp_step rfl (fun K' hK' => ?_)
          go_simp
          refine hK' _ _ ⟨hS1 _ _ (by kernel_rfl), ?_⟩
          clear hK' K'
          refine wpAnyL_done (by kernel_rfl) ?_ _
          simp only [onlyK, Exit.then]
          refine hKK _ _ ?_
          go_wp2
          obtain ⟨hRF, hSF⟩ := row_put3 hS.out hR.out (k := k) hlt (wrap64 (x.f1 + days)) (wrap64 (x.f2 + days)) (wrap64 (x.f3 + days)) hbg
          refine ⟨⟨k + 1, by omega, by omega, by push_cast; rfl, ⟨hSF.box, hSF.res, hSF.out, hSF.below.drew⟩, ?_⟩, by simp [intOf]; omega⟩
          rw [← late_step (by omega) hlt]
          rw [show (late call.toNat k days l).getD k z32 = x from hx] at hRF ⊢
          exact Kd.R_drew hRF
        · have hke : k = l.length := by omega
          subst hke
          go_wp2
          exact ⟨_, _, _, _, _, _, _, _, _, _, _, _, _, _, _, _, _, _, _, _, _, _, _, _, _, _, _, _, _, _, _, _, _, _, _, _, _, _, _, _, _, rfl, hS.out, hR.out⟩
  case c4 =>
  rintro a' W4 ⟨v8, v9, v38, v39, v40, v41, v42, v43, v44, v45, v46, v47, v48, v49, v50, v51, v52, v53, v54, v55, v56, v57, v58, v59, v60, v61, v62, v63, v64, v65, v66, v67, v68, v69, v70, v71, v72, v73, v74, v75, v76, rfl, hS4, hR4⟩
  clear hS2 hR2 hS3 hR3 hW0 hS1
  have hml := late_len call.toNat l.length days l
  have hdel : delF s l call days = if mayB ⟨s, late call.toNat l.length days l⟩ = true then late call.toNat l.length days l else l := by unfold delF; rw [if_neg (by rw [hbad]; decide)]
  rw [hdel]
  clear hdel hbad
  generalize late call.toNat l.length days l = m at hR4 hml ⊢
  obtain ⟨km2, hkm2⟩ := (may_ev ⟨s, m⟩).rounds
  have hkm2 := Aside0.mk hkm2
  have hml := Aside0.mk hml
  refine wp_cut (fun a' W => ∃ A1 c1 v10 v11 v12 v13 v14 v15 v16 v17 v18 v19 v20 v21 v22 v23 v24 v25 v26 v27 v28 v29 v30 v31 v32 v33 v34 v35 v36 v77 v78 v79 v80 v81 v82 v83, a' = { tmps := #[.agg #[.string s, .slice A l.length c], .int .i64 call, .int .i64 days, .pointer (some ⟨w.heap.size, 0, none⟩), undef, undef, .pointer (some ⟨w.heap.size + 1, 0, none⟩), .pointer (some ⟨w.heap.size + 1 + 1, 0, none⟩), v8, v9, v10, v11, v12, v13, v14, v15, v16, v17, v18, v19, v20, v21, v22, v23, v24, v25, v26, v27, v28, v29, v30, v31, v32, v33, v34, v35, v36, undef, v38, v39, v40, v41, v42, v43, v44, v45, v46, v47, v48, v49, v50, v51, v52, v53, v54, v55, v56, v57, v58, v59, v60, v61, v62, v63, v64, v65, v66, v67, v68, v69, v70, v71, v72, v73, v74, v75, v76, v77, v78, v79, v80, v81, v82, v83, undef], defers := [] } ∧ St w W s A l.length c (.slice A1 l.length c1) ∧ Kd.R k32 32 W w.heap.size (fun _ => True) (.slice A1 l.length c1) (if mayB ⟨s, m⟩ = true then m else l)) ?b5 ?c5
  case b5 =>
    obtain ⟨x0, x1, x2, x3, x4⟩ := hS4.c0
    have hS4 := Aside0.mk hS4
    have hR4 := Aside0.mk hR4
    cases hm2 : mayB ⟨s, m⟩ with
    | true =>
      simp only [if_true]
      go_wp2_with (first
        | (go_at_call 15; refine Calls.mono (show Calls Tryd.prog 15 #[.agg #[.string s, .slice (some ⟨g, 0, none⟩) l.length c1]] _ _ from hml.out ▸ port_May.calls km2 s (some ⟨g, 0, none⟩) c1 m _ _ (Kd.R_reads' (hml.out ▸ hR4.out)).2.2 (Kd.R_reads' (hml.out ▸ hR4.out)).2.1 hkm2.out) ?_; rintro e W3 ⟨rfl, hb⟩; have hS3 := Aside0.mk (hS4.out.step hb); have hR3 := Aside0.mk (Kd.R_below hR4.out hb); obtain ⟨y0, y1, y2, y3, y4⟩ := hS3.out.c0; clear x0 x1 x2 x3 x4 hb))
      exact ⟨_, _, _, _, _, _, _, _, _, _, _, _, _, _, _, _, _, _, _, _, _, _, _, _, _, _, _, _, _, _, _, _, _, _, _, _, rfl, hS3.out, hR3.out⟩
    | false =>
      simp only [Bool.false_eq_true, if_false]
      go_wp2_with (first
        | (go_at_call 15; refine Calls.mono (show Calls Tryd.prog 15 #[.agg #[.string s, .slice (some ⟨g, 0, none⟩) l.length c1]] _ _ from hml.out ▸ port_May.calls km2 s (some ⟨g, 0, none⟩) c1 m _ _ (Kd.R_reads' (hml.out ▸ hR4.out)).2.2 (Kd.R_reads' (hml.out ▸ hR4.out)).2.1 hkm2.out) ?_; rintro e W3 ⟨rfl, hb⟩; have hS3 := Aside0.mk (hS4.out.step hb); obtain ⟨y0, y1, y2, y3, y4⟩ := hS3.out.c0; clear x0 x1 x2 x3 x4 hb)
        | (go_at_call 23; refine (clone_Call.calls A c l l _ (Kd.C_below hr0.out hS3.out.below) hc (if_pos hl)).mono ?_; rintro e W2 ⟨v0, rfl, hR, hb⟩; obtain ⟨A1, c1, rfl, hc1, hC1⟩ := Kd.R_reads hR; have hR := Aside0.mk hR; have hS2 := Aside0.mk (hS3.out.step hb); obtain ⟨y0, y1, y2, y3, y4⟩ := hS2.out.c0; clear hC1 hb))
      exact ⟨_, _, _, _, _, _, _, _, _, _, _, _, _, _, _, _, _, _, _, _, _, _, _, _, _, _, _, _, _, _, _, _, _, _, _, _, rfl, hS2.out.put _, Kd.R_set (Kd.R_lower hR.out hS3.out.below.size) hS2.out.out e35 1 _⟩
  case c5 =>
  rintro a' W5 ⟨A3, c3, v10, v11, v12, v13, v14, v15, v16, v17, v18, v19, v20, v21, v22, v23, v24, v25, v26, v27, v28, v29, v30, v31, v32, v33, v34, v35, v36, v77, v78, v79, v80, v81, v82, v83, rfl, hS5, hR5⟩
  obtain ⟨x0, x1, x2, x3, x4⟩ := hS5.c0
  obtain ⟨y0, y1, y2, y3⟩ := hS5.c1
  have hS5 := Aside0.mk hS5
  have hR5 := Aside0.mk hR5
  generalize (if mayB ⟨s, m⟩ = true then m else l) = q at hR5 ⊢
  go_wp2
  exact del_ret hS5.out hR5.out rfl
end Go.Proofs.YtbojieeildhlcaaDoor.Port
namespace Go.Proofs.YtbojieeildhlcaaDoor.Ext
open Go.RowKit Go.Proofs.YtbojieeildhlcaaDoorW.PrintWords Go.Proofs.YtbojieeildhlcaaDoorW.PrintLast Go.Proofs.YtbojieeildhlcaaDoorW.PrintMore Go.Proofs.YtbojieeildhlcaaDoor.G Go.Proofs.YtbojieeildhlcaaDoor.Port
def port_Delay.f (a0_0 : ByteArray) (l0_1 : List S32) (a1 a2 : Int) : Option (ByteArray × List S32) := if l0_1.length ≤ 1000000 then some (a0_0, delF a0_0 l0_1 a1 a2) else none
theorem port_Delay.calls (a0_0 : ByteArray) (A0_1 : Option Addr) (c0_1 : Nat) (l0_1 : List S32) (a1 a2 : Int) (r1 : ByteArray) (r2 : List S32) (w : World) (hr0_1 : Kd.C k32 w A0_1 l0_1.length l0_1) (hc0_1 : l0_1.length ≤ c0_1) (h : port_Delay.f a0_0 l0_1 a1 a2 = some (r1, r2)) :
    Calls Tryd.prog 12 #[.agg #[.string a0_0, .slice A0_1 l0_1.length c0_1], .int .i64 a1, .int .i64 a2] w fun e w' => ∃ v1_ : Value, e = .returned (.agg #[.string r1, v1_]) ∧ Kd.R k32 32 w' w.heap.size (fun _ => True) v1_ r2 ∧ Below w.heap.size w w' := by
  unfold port_Delay.f at h
  split at h
  · rename_i hl
    injection h with h
    injection h with h1 h2
    subst h1; subst h2
    exact delay_calls a0_0 A0_1 c0_1 l0_1 a1 a2 w hr0_1 hc0_1 hl
  · cases h
end Go.Proofs.YtbojieeildhlcaaDoor.Ext
