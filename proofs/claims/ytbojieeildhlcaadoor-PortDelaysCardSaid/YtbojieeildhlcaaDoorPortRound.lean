/- One round: what is reached by one leg more. -/
import Derived.Test.YtbojieeildhlcaaDoorPortMaps
import Derived.Test.YtbojieeildhlcaaDoorPortReg
namespace Go.Proofs.YtbojieeildhlcaaDoor.Port
open Go.RowKit Go.Shelf Go.Proofs.YtbojieeildhlcaaDoorW.PrintWords Go.Proofs.YtbojieeildhlcaaDoorW.PrintLast Go.Proofs.YtbojieeildhlcaaDoorW.PrintMore Go.Proofs.YtbojieeildhlcaaDoor.G Go.Proofs.YtbojieeildhlcaaDoor.Ext Go.Proofs.YtbojieeildhlcaaDoor.PortMath
set_option linter.unusedVariables false
set_option linter.unusedSimpArgs false

attribute [local go_sem] Oper.semAt_some
/-- legs: the voyages are boxed; the function value captures the box. -/
theorem legs_in (n : Nat) (A : Option Addr) (m c : Nat) (w : World) :
    CallsIn Fence.wide n Tryd.prog 27 #[.slice A m c] w fun e w' => e = .returned (.func (.func 35) #[] #[.pointer (some ⟨w.heap.size, 0, none⟩)]) ∧ w' = w.alloc (.cells #[.slice A m c] 22) := by
  refine callsIn_of_wp Tryd.func27 rfl trivial ?_ rfl
  simp only [Tryd.ntmps27, List.size_toArray, List.length_cons, List.length_nil, Nat.reduceAdd, Nat.reduceSub, Array.replicate_succ, Array.replicate_zero, List.push_toArray, List.append_toArray, List.nil_append, List.cons_append]
  gi_wp2
  go_ret
  exact ⟨rfl, rfl⟩

/-- A call of a voyage. -/
def cl (l : List S35) (i j : Nat) : S32 := rd_T32 (vy l i).f1 (j : Nat)
def lk (l : List S35) (p : Nat × Nat × Nat) : Lk Nm S30 := { id := ⟨(p.1 : Nat), (p.2.1 : Nat), (p.2.2 : Nat)⟩, a := (cl l p.1 p.2.1).f0.data.toList, cut := (cl l p.1 p.2.1).f1, b := (cl l p.1 p.2.2).f0.data.toList, arr := (cl l p.1 p.2.2).f2 }
def links (l : List S35) : List (Lk Nm S30) := (va l l.length).map (lk l)
def fold (l : List S35) (R : Rg) (first : Nm) (ch : Int) (pre : List (V l)) : Rg := (pre.map (fun x => lk l x.1)).foldl (better R first ch) (fun _ => none)
theorem fold_snoc (l : List S35) (R : Rg) (first : Nm) (ch : Int) (pre : List (V l)) (x : V l) : fold l R first ch (pre ++ [x]) = better R first ch (fold l R first ch pre) (lk l x.1) := by simp [fold]
theorem fold_all (l : List S35) (R : Rg) (first : Nm) (ch : Int) (xs : List (V l)) (h : xs.map (·.1) = va l l.length) : fold l R first ch xs = roundR R first ch (links l) := by
  unfold fold roundR links
  rw [← h, List.map_map]; rfl
theorem xs_len (l : List S35) (xs : List (V l)) (hl : l.length ≤ 1000) (h : xs.map (·.1) = va l l.length) : xs.length ≤ 4096000 := by
  have h1 := congrArg List.length h
  have h2 := va_len l l.length
  rw [List.length_map] at h1
  omega
/-- Where one is in the loop. -/
def Inv (l : List S35) (R : Rg) (first : ByteArray) (ch : Int) (mr mn : Nat) (w W0 : World) (pre : List (V l)) (W : World) : Prop :=
  CK W0 W ∧ W.heap[mr]? = W0.heap[mr]? ∧ MapW W mn pre.length (fold l R first.data.toList ch pre) ∧ Below w.heap.size w W
theorem Inv.own {l : List S35} {R : Rg} {first : ByteArray} {ch : Int} {mr mn : Nat} {w W0 : World} (hmr : mr < W0.heap.size) (hmn : mn < W0.heap.size) (hs : w.heap.size ≤ W0.heap.size) : OwnFrom W0.heap.size (Inv l R first ch mr mn w W0) := by
  rintro pre X Y row ⟨h1, h2, h3, h4⟩ hg hr
  have hk : CK X Y := CK.grown hg (fun r e => (hr r e).2)
  have hb : ∀ b, b < W0.heap.size → Y.heap[b]? = X.heap[b]? := fun b hb => hg.block b (Nat.lt_of_lt_of_le hb h1.1) (fun e => by have := (hr b e.symm).1; omega)
  exact ⟨h1.trans hk, (hb mr hmr).trans h2, h3.same (hb mn hmn) hk, h4.grown hg (Nat.le_trans hs h1.1) (fun k e => by have := (hr k e).1; omega)⟩
/-- One step of the loop that turns no block but the map's. -/
theorem Inv.step {l : List S35} {R : Rg} {first : ByteArray} {ch : Int} {mr mn : Nat} {w W0 W W' : World} {pre : List (V l)} {x : V l} (h : Inv l R first ch mr mn w W0 pre W) (hmr : mr < W0.heap.size) (hne : mr ≠ mn) (hmn : mn < W0.heap.size) (hwn : w.heap.size ≤ mn) (hs : w.heap.size ≤ W0.heap.size) (hg : W.grownBy W' (some mn)) (hck : CK W W')
    (hm : MapW W' mn (pre.length + 1) (better R first.data.toList ch (fold l R first.data.toList ch pre) (lk l x.1))) : KeepsFrom W0.heap.size W W' ∧ CK W W' ∧ Inv l R first ch mr mn w W0 (pre ++ [x]) W' := by
  obtain ⟨h1, h2, h3, h4⟩ := h
  exact ⟨KeepsFrom.of_grownBy hg (fun j e => by cases e; exact hmn), hck, h1.trans hck, (hg.block mr (Nat.lt_of_lt_of_le hmr h1.1) (fun e => hne (by cases e; rfl))).trans h2, by rw [fold_snoc, List.length_append]; exact hm, h4.grown hg (Nat.le_trans hs h1.1) (fun k e => by cases e; exact hwn)⟩
/-- A call that lies in memory. -/
def CallAt (W : World) (b : Nat) (x : S32) : Prop := W.cell? ⟨b, 0, none⟩ = some (.string x.f0) ∧ W.cell? ⟨b, 1, none⟩ = some (.int .i64 x.f1) ∧ W.cell? ⟨b, 2, none⟩ = some (.int .i64 x.f2) ∧ W.cell? ⟨b, 3, none⟩ = some (.int .i64 x.f3)

theorem ck_drew (W : World) : CK W W.drew := ⟨Nat.le_refl _, fun _ _ h => h⟩
theorem grown_drew (W : World) : W.grownBy W.drew none := ⟨rfl, rfl, rfl, Nat.le_refl _, fun _ _ _ => rfl⟩
theorem grown_t {a w w' : World} {row : Option Nat} (h : a.grownBy w row) (k : w.grownBy w' row) : a.grownBy w' row :=
  ⟨k.os.trans h.os, k.tape.trans h.tape, k.output.trans h.output, Nat.le_trans h.size k.size, fun i hi hr => (k.block i (Nat.lt_of_lt_of_le hi h.size) hr).trans (h.block i hi hr)⟩
theorem nodefer_of {ops : Array Oper} (h : (ops.all fun o => match o.op with | .defer _ => false | _ => true) = true) (i : Nat) (o : Oper) (c : Call) (ho : ops[i]? = some o) : o.op ≠ .defer c := by
  obtain ⟨hi, rfl⟩ := Array.getElem?_eq_some_iff.1 ho
  have := Array.all_eq_true.1 h i hi
  intro e
  rw [e] at this
  cases this
theorem callsOk_all {l : List S32} : ∀ (d i j : Nat), callsOk l i d = true → i ≤ j → j < i + d → callOk l j = true
  | 0, i, j, _, h1, h2 => absurd h2 (by omega)
  | d + 1, i, j, h, h1, h2 => by
    by_cases hc : callOk l i = true
    · rw [callsOk_yes hc] at h
      by_cases e : i = j
      · subst e; exact hc
      · exact callsOk_all d (i + 1) j h (by omega) (by omega)
    · rw [callsOk_no (Bool.eq_false_iff.2 hc)] at h; cases h
theorem may_call {v : S35} (h : mayB v = true) {j : Nat} (hj : j < v.f1.length) : nameB (rd_T32 v.f1 (j : Nat)).f0 = true ∧ 0 ≤ (rd_T32 v.f1 (j : Nat)).f2 ∧ (rd_T32 v.f1 (j : Nat)).f2 ≤ 1048576 := by
  unfold mayB at h
  simp only [Bool.and_eq_true, decide_eq_true_eq] at h
  have h1 := callsOk_all v.f1.length 0 j h.2.2.2 (Nat.zero_le _) (by omega)
  unfold callOk at h1
  simp only [Bool.and_eq_true, inD] at h1
  obtain ⟨a, b, c, _⟩ := h1
  refine ⟨a, ?_⟩
  split at c
  · exact ⟨by assumption, by simpa using c⟩
  · cases c
theorem name_len {s : ByteArray} (h : nameB s = true) : s.size ≤ maxLen := by
  unfold nameB at h
  split at h
  · split at h
    · unfold maxLen; omega
    · cases h
  · cases h
def rdyV (R : Rg) (first : Nm) (ch : Int) (q : Nm) : Int := rdy first ch q (atW R q).1
/-- Where the walk is cut. -/
theorem seq_cut {F : Fence} {n : Nat} {P : Program} {x y : Code} {Q : Exit → Act → World → Prop} {a : Act} {w : World} (M : Act → World → Prop) (h1 : x.wpIn F n P (Exit.then M Q) a w) (h2 : ∀ a w, M a w → y.wpIn F n P Q a w) : (Code.seq x y).wpIn F n P Q a w :=
  wpIn_seq (Code.wpIn_mono (fun e a w h => by cases e <;> first | exact h2 _ _ h | exact h) h1)
theorem ba_ext {a b : ByteArray} (h : a.data.toList = b.data.toList) : a = b := by
  cases a; cases b
  simp only at h
  rw [Array.toList_inj.1 h]
section
variable {R : Rg} {F : Nm} {g : Int} {x : Lk Nm S30} {y o : Int × List S30}
theorem cand_no (h : R x.a = none) : cand R F g x = none := by unfold cand; rw [h]
theorem cand_cut (h : R x.a = some y) (hc : x.cut < rdy F g x.a y.1) : cand R F g x = none := by unfold cand; rw [h]; exact if_pos hc
theorem cand_b (hb : x.b = F) : cand R F g x = none := by
  unfold cand
  split
  · rfl
  · split
    · rfl
    · rfl
theorem cand_le (ho : R x.b = some o) (hl : o.1 ≤ x.arr) : cand R F g x = none := by
  unfold cand
  split
  · rfl
  · split
    · rfl
    · split
      · rfl
      · rw [ho]; exact if_pos hl
theorem cand_yes (h : R x.a = some y) (hc : rdy F g x.a y.1 ≤ x.cut) (hb : x.b ≠ F) (ho : ∀ o, R x.b = some o → x.arr < o.1) : cand R F g x = some (x.arr, y.2 ++ [x.id]) := by
  unfold cand
  rw [h]
  simp only
  rw [if_neg (by omega), if_neg hb]
  cases h2 : R x.b with
  | none => rfl
  | some o => have := ho o h2; simp only; rw [if_neg (by omega)]
end
def C9 (l : List S35) (R : Rg) (F : Nm) (ch : Int) (i f t : Nat) (y : Int × List S30) (W W' : World) : Prop := W' = W ∧ R (cl l i f).f0.data.toList = some y ∧ rdy F ch (cl l i f).f0.data.toList y.1 ≤ (cl l i f).f1 ∧ (cl l i t).f0.data.toList ≠ F
def C10 (l : List S35) (R : Rg) (i t : Nat) : Prop := ∀ o, R (cl l i t).f0.data.toList = some o → (cl l i t).f2 < o.1
def C13 (l : List S35) (N : Rg) (i t : Nat) (bb : Bool) : Prop := (bb = true → ∀ o, N (cl l i t).f0.data.toList = some o → (cl l i t).f2 < o.1) ∧ (bb = false → ∃ o, N (cl l i t).f0.data.toList = some o ∧ ¬ (cl l i t).f2 < o.1)
theorem C13.of {l : List S35} {N : Rg} {i t : Nat} {wn : Bool} (hw : wn = (N (cl l i t).f0.data.toList).isSome) : C13 l N i t (!wn || decide ((cl l i t).f2 < (atW N (cl l i t).f0.data.toList).1)) := by
  subst hw
  unfold C13 atW
  cases h : N (cl l i t).f0.data.toList with
  | none => exact ⟨fun _ o ho => (by cases ho), fun hb => (by simp at hb)⟩
  | some o => exact ⟨fun hb o' ho => (by cases ho; simpa using hb), fun hb => ⟨o, rfl, (by simpa using hb)⟩⟩
/-- A copy of legs, of its own. -/
theorem clone_own (A : Option Addr) (c : Nat) (xs : List S30) (w : World) (hC : Kd.C k30 w A xs.length xs) (hl : xs.length ≤ 100) :
    Calls Tryd.prog 20 #[.slice A xs.length c] w fun e w' => ∃ v' news, e = .returned v' ∧ w'.ownsRow w.heap.size 30 3 v' xs.length news ∧ Reps (k30.K w') 3 xs news ∧ Below w.heap.size w w' := by
  cases A with
  | none =>
    refine (clone_legs_nil _ _ w).mono ?_
    rintro e w' ⟨rfl, rfl⟩
    have hz : xs = [] := by
      rcases Nat.eq_zero_or_pos xs.length with h | h
      · exact List.length_eq_zero_iff.1 h
      · obtain ⟨ad, e, _⟩ := hC.2.2 h
        cases e
    subst hz
    exact ⟨_, [], rfl, World.ownsRow_nil _ _ _ _, Reps.none _ _, Below.refl _ _⟩
  | some ad =>
    obtain ⟨news, hrep, hln, hc, h1⟩ := cells_C xs.length rfl hC
    have hz : k30.sz = 3 := rfl
    refine (clone_legs_row ad xs.length c news w (by rw [hln, hz]) (by unfold maxLen; omega) (by omega) hc h1).mono ?_
    rintro e w' ⟨v, rfl, hown, _, hb⟩
    exact ⟨v, news, rfl, hown, hrep.imp_ (fun x cs hk => k30.K_below hb hk), hb⟩
/-- What was reached lies in memory. -/
def WayAt (W : World) (b : Nat) (A : Option Addr) (c : Nat) (y : Int × List S30) : Prop := W.cell? ⟨b, 0, none⟩ = some (.int .i64 y.1) ∧ W.cell? ⟨b, 1, none⟩ = some (.slice A y.2.length c) ∧ Kd.C k30 W A y.2.length y.2 ∧ y.2.length ≤ c
theorem CallAt.ck {W W' : World} {b : Nat} {x : S32} (h : CallAt W b x) (k : CK W W') : CallAt W' b x := ⟨k.2 _ _ h.1, k.2 _ _ h.2.1, k.2 _ _ h.2.2.1, k.2 _ _ h.2.2.2⟩
theorem WayAt.ck {W W' : World} {b : Nat} {A : Option Addr} {c : Nat} {y : Int × List S30} (h : WayAt W b A c y) (k : CK W W') : WayAt W' b A c y := ⟨k.2 _ _ h.1, k.2 _ _ h.2.1, C30_ck h.2.2.1 k, h.2.2.2⟩
def GC (W W' : World) : Prop := W.grownBy W' none ∧ CK W W'
theorem GC.t {A B C : World} (h : GC A B) (k : GC B C) : GC A C := ⟨grown_t h.1 k.1, h.2.trans k.2⟩
theorem GC.alloc (W : World) (o : Obj) : GC W (W.alloc o) := ⟨World.grownBy_alloc W o none, ck_alloc W o⟩
theorem GC.refl (W : World) : GC W W := ⟨World.grownBy.refl W none, CK.refl W⟩
theorem GC.drew (W : World) : GC W W.drew := ⟨grown_drew W, ck_drew W⟩
theorem gc_of {W W' : World} (h : W.grownBy W' none) : GC W W' := ⟨h, CK.grown h (fun r e => by cases e)⟩
theorem gc_own {W A B : World} {row : Option Nat} (h : GC W A) (hg : A.grownBy B row) (hr : ∀ k, row = some k → W.heap.size ≤ k) : GC W B :=
  gc_of ⟨hg.os.trans h.1.os, hg.tape.trans h.1.tape, hg.output.trans h.1.output, Nat.le_trans h.1.size hg.size, fun k hk hn => (hg.block k (Nat.lt_of_lt_of_le hk h.1.size) (fun e => by have := hr k e.symm; omega)).trans (h.1.block k hk hn)⟩
theorem own_mono {W : World} {base base' n : Nat} {v : Value} {xs : List Value} (h : W.ownsRow base 30 3 v n xs) (hb : base' ≤ base) : W.ownsRow base' 30 3 v n xs := by
  refine ⟨h.1, ?_⟩
  rcases h.2 with h | ⟨g, cap, cur, h1, h2, h3⟩
  · exact .inl h
  · exact .inr ⟨g, cap, cur, h1, Nat.le_trans hb h2, h3⟩
theorem cells3_new (W : World) (a b c : Value) (j : Nat) (u : Value) (h : [a, b, c][j]? = some u) : (W.alloc (Obj.cells #[a, b, c] 30)).cell? ((⟨W.heap.size, 0, none⟩ : Addr).add j) = some u := by
  rcases j with _ | _ | _ | j
  · simp at h; subst h; simp [go_sem, Addr.add]
  · simp at h; subst h; simp [go_sem, Addr.add]
  · simp at h; subst h; simp [go_sem, Addr.add]
  · simp at h
theorem ownBlock_le {W : World} {base n : Nat} {v : Value} {xs : List Value} (h : W.ownsRow base 30 3 v n xs) {k : Nat} (hk : v.ownBlock = some k) : base ≤ k := by
  rcases h.2 with ⟨rfl, _⟩ | ⟨g, cap, cur, rfl, hb, _⟩
  · cases hk
  · cases hk; exact hb
theorem but_t {A B C : World} {row : Option Nat} (h : A.grownBy B none) (k : B.grownBy C row) : A.grownBy C row :=
  ⟨k.os.trans h.os, k.tape.trans h.tape, k.output.trans h.output, Nat.le_trans h.size k.size, fun i hi hn => (k.block i (Nat.lt_of_lt_of_le hi h.size) hn).trans (h.block i hi (by simp))⟩
set_option maxRecDepth 100000 in
set_option maxHeartbeats 8000000 in
theorem round_in (n : Nat) (hn : 3 ≤ n) (l : List S35) (A : Option Addr) (c mr nr : Nat) (R : Rg) (first : ByteArray) (ch : Int) (w : World) (hl : l.length ≤ 1000) (hC : Kd.C k35 w A l.length l) (hR : MapW w mr nr R) (hfs : first.size ≤ maxLen)
    (hch : 0 ≤ ch ∧ ch ≤ 1048576) (hRd : ∀ q y, R q = some y → q ≠ first.data.toList → 0 ≤ y.1 ∧ y.1 ≤ 1048576) (hRl : ∀ q y, R q = some y → y.2.length ≤ 100) :
    CallsIn Fence.wide n Tryd.prog 17 #[.slice A l.length c, .map (some mr), .string first, .int .i64 ch] w fun e W' =>
      ∃ mn, e = .returned (.map (some mn)) ∧ w.heap.size ≤ mn ∧ MapW W' mn 4096000 (roundR R first.data.toList ch (links l)) ∧ Below w.heap.size w W' := by
  have h1 : 1 ≤ n := by omega
  have hmm := @run_makeMap Tryd.prog
  refine callsIn_of_wp_marks Tryd.func17 rfl trivial ?_ rfl
  simp only [Tryd.ntmps17, List.size_toArray, List.length_cons, List.length_nil, Nat.reduceAdd, Nat.reduceSub, Array.replicate_succ, Array.replicate_zero, List.push_toArray, List.append_toArray, List.nil_append, List.cons_append]
  gi_wp2_with (refine ⟨trivial, (legs_in (n - 1) _ _ _ _).mono ?_⟩; rintro e w' ⟨rfl, rfl⟩)
  obtain ⟨W0, hW0⟩ : ∃ W0, ((((((w.alloc (Obj.cells #[Value.slice A l.length c] 22)).alloc (Obj.cells #[Value.map (some mr)] 46)).alloc (Obj.cells #[Value.string first] 9)).alloc (Obj.cells #[Value.int IntKind.i64 ch] 3)).alloc (Obj.map #[] 0)).alloc (Obj.cells #[Value.map (some (w.heap.size + 1 + 1 + 1 + 1))] 46)).alloc (Obj.cells #[Value.slice A l.length c] 22) = W0 := ⟨_, rfl⟩
  have hsz : W0.heap.size = w.heap.size + 7 := by rw [← hW0]; simp
  have hbL : W0.cell? ⟨w.heap.size, 0, none⟩ = some (.slice A l.length c) := by rw [← hW0]; simp [go_sem]
  have hbR : W0.cell? ⟨w.heap.size + 1, 0, none⟩ = some (.map (some mr)) := by rw [← hW0]; simp [go_sem]
  have hbF : W0.cell? ⟨w.heap.size + 1 + 1, 0, none⟩ = some (.string first) := by rw [← hW0]; simp [go_sem]
  have hbC : W0.cell? ⟨w.heap.size + 1 + 1 + 1, 0, none⟩ = some (.int .i64 ch) := by rw [← hW0]; simp [go_sem]
  have hbN : W0.cell? ⟨w.heap.size + 1 + 1 + 1 + 1 + 1, 0, none⟩ = some (.map (some (w.heap.size + 1 + 1 + 1 + 1))) := by rw [← hW0]; simp [go_sem]
  have hbG : W0.cell? ⟨w.heap.size + 1 + 1 + 1 + 1 + 1 + 1, 0, none⟩ = some (.slice A l.length c) := by rw [← hW0]; simp [go_sem]
  have hck0 : CK w W0 := by rw [← hW0]; exact (((((((CK.refl w).trans (ck_alloc _ _)).trans (ck_alloc _ _)).trans (ck_alloc _ _)).trans (ck_alloc _ _)).trans (ck_alloc _ _)).trans (ck_alloc _ _)).trans (ck_alloc _ _)
  have hB0 : Below w.heap.size w W0 := by
    rw [← hW0]
    refine Below.alloc (Below.alloc (Below.alloc (Below.alloc (Below.alloc (Below.alloc ((Below.refl _ w).alloc (Nat.le_refl _) _) ?_ _) ?_ _) ?_ _) ?_ _) ?_ _) ?_ _ <;> simp <;> omega
  have hm0 : MapW W0 (w.heap.size + 1 + 1 + 1 + 1) 0 (fun _ => none) := by
    have h := mapW_made ((((w.alloc (Obj.cells #[Value.slice A l.length c] 22)).alloc (Obj.cells #[Value.map (some mr)] 46)).alloc (Obj.cells #[Value.string first] 9)).alloc (Obj.cells #[Value.int IntKind.i64 ch] 3))
    simp only [World.size_alloc] at h
    rw [← hW0]
    exact (h.same (by rw [Below.heap_alloc _ _ _ (by simp)]) (ck_alloc _ _)).same (by rw [Below.heap_alloc _ _ _ (by simp)]) (ck_alloc _ _)
  have hmrw := hR.lt
  have hR0 : MapW W0 mr nr R := hR.same (hB0.block mr hmrw) hck0
  rw [hW0]
  clear hW0
  have hC0 := Aside0.mk (C35_ck hC hck0)
  refine wpIn_rangeFunc_ownH rfl h1 (gf := 35) (lb := #[.pointer (some ⟨w.heap.size + 1 + 1 + 1 + 1 + 1 + 1, 0, none⟩)]) rfl trivial (enters_of Tryd.func35 (by kernel_rfl) rfl)
    (legs_stops (n - 1) (by omega) l (w.heap.size + 1 + 1 + 1 + 1 + 1 + 1) c A hl W0 hbG hC0.out) CK.trans ck_b (Below.refl _ _) (fun _ => rfl)
    (Inv l R first ch mr (w.heap.size + 1 + 1 + 1 + 1) w W0) (fun _ _ _ => False) (Inv.own (by omega) (by omega) (by omega)) (fun _ _ _ _ _ hs _ _ => hs) ⟨CK.refl _, rfl, hm0, hB0⟩
    (fun x a' W => ∃ Bx, W.cell? ⟨Bx, 0, none⟩ = some (.int .i64 (x.1.1 : Nat)) ∧ W.cell? ⟨Bx, 1, none⟩ = some (.int .i64 (x.1.2.1 : Nat)) ∧ W.cell? ⟨Bx, 2, none⟩ = some (.int .i64 (x.1.2.2 : Nat)) ∧ a' = { tmps := #[.slice A l.length c, .map (some mr), .string first, .int .i64 ch, .pointer (some ⟨w.heap.size, 0, none⟩), .pointer (some ⟨w.heap.size + 1, 0, none⟩), .pointer (some ⟨w.heap.size + 1 + 1, 0, none⟩), .pointer (some ⟨w.heap.size + 1 + 1 + 1, 0, none⟩), .map none, .pointer (some ⟨w.heap.size + 1 + 1 + 1 + 1 + 1, 0, none⟩), .pointer (some ⟨Bx, 0, none⟩), undef, undef, undef, undef, undef, undef, undef, undef, undef, .map (some (w.heap.size + 1 + 1 + 1 + 1)), .slice A l.length c, .func (.func 35) #[] #[.pointer (some ⟨w.heap.size + 1 + 1 + 1 + 1 + 1 + 1, 0, none⟩)], (.agg #[.int .i64 (x.1.1 : Nat), .int .i64 (x.1.2.1 : Nat), .int .i64 (x.1.2.2 : Nat)]), undef, undef, undef, undef, undef, undef, undef, undef, undef, undef, undef, undef, undef, undef, undef, undef, undef, undef, undef, undef, undef, undef, undef, undef, undef, undef, undef, undef, undef, undef, undef, undef, undef, undef, undef, undef, undef, undef, undef, undef, undef, undef, undef, undef, undef, undef, undef, undef, undef, undef, undef, undef, undef, undef, undef, undef, undef, undef, undef, undef, undef, undef, undef, undef, undef, undef, undef, undef, undef, undef, undef, undef, undef, undef, undef, undef, undef, undef, undef, undef, undef, undef, undef, undef, undef, undef, undef, undef, undef, undef, undef, undef, undef, undef], defers := [] })
    (fun x a' _ X Y row hs hg hr => by
      obtain ⟨Bx, h1, h2, h3, h4⟩ := hs
      have hk : CK X Y := CK.grown hg (fun r e => (hr r e).2)
      exact ⟨Bx, hk.2 _ _ h1, hk.2 _ _ h2, hk.2 _ _ h3, h4⟩)
    ?assign ?body ?done ?stop
  case assign =>
    rintro lp pre x W K hI hK
    simp only [ids]
    gi_wp2
    refine hK _ _ ((KeepsOthers.alloc _ _).from _) (ck_alloc _ _) ((Inv.own (l := l) (by omega) (by omega) (by omega)).alloc _ hI) ⟨W.heap.size, ?_, ?_, ?_, rfl⟩ <;> simp [go_sem]
  case body =>
    rintro lp pre x a' W hlp hrec hI ⟨Bx, hx0, hx1, hx2, rfl⟩ hlt
    obtain ⟨⟨i, f, t⟩, hp1, hp2, hp3, hp4⟩ := x
    simp only at hp1 hp2 hp3 hp4 hx0 hx1 hx2
    obtain ⟨hkW, hmW, hnW, hBW⟩ := id hI
    have hcL := hkW.2 _ _ hbL
    have hC1 := C35_ck hC0.out hkW
    have hna := may_call hp4 (j := f) (by omega)
    have hnb := may_call hp4 (j := t) (by omega)
    have hka : keyOf Tryd.prog 9 (.string (cl l i f).f0) = some (.string (cl l i f).f0.data.toList) := key9 (name_len hna.1)
    have hkb : keyOf Tryd.prog 9 (.string (cl l i t).f0) = some (.string (cl l i t).f0.data.toList) := key9 (name_len hnb.1)
    have hmr0 : mr < W0.heap.size := by omega
    have hmn0 : w.heap.size + 1 + 1 + 1 + 1 < W0.heap.size := by omega
    have hws0 : w.heap.size ≤ W0.heap.size := by omega
    clear hsz
    have skip : ∀ (W' : World) (a' : Act), GC W W' → cand R first.data.toList ch (lk l (i, f, t)) = none → ownPostG W0.heap.size CK (Inv l R first ch mr (w.heap.size + 1 + 1 + 1 + 1) w W0) (fun _ _ _ => False) (pre ++ [⟨(i, f, t), hp1, hp2, hp3, hp4⟩]) W .normal a' W' := by
      rintro W' a' ⟨g1, g2⟩ hcn
      exact hI.step (by omega) (by omega) (by omega) (by omega) (by omega) (g1.but _) g2 (by rw [better_none hcn]; exact (hnW.same (g1.block _ hnW.lt (by simp)) g2).mono (Nat.le_succ _))
    refine wpIn_block ?_
    refine seq_cut (fun a2 W2 => ∃ Ba Bb v24 v25 v26 v27 v28 v29 v30 v31 v32 v33 v34 v35 v36 v37 v38 v39 v40 v41 v42 v43, CallAt W2 Ba (cl l i f) ∧ CallAt W2 Bb (cl l i t) ∧ GC W W2 ∧ a2 = { tmps := #[.slice A l.length c, .map (some mr), .string first, .int .i64 ch, .pointer (some ⟨w.heap.size, 0, none⟩), .pointer (some ⟨w.heap.size + 1, 0, none⟩), .pointer (some ⟨w.heap.size + 1 + 1, 0, none⟩), .pointer (some ⟨w.heap.size + 1 + 1 + 1, 0, none⟩), .map none, .pointer (some ⟨w.heap.size + 1 + 1 + 1 + 1 + 1, 0, none⟩), .pointer (some ⟨Bx, 0, none⟩), .pointer (some ⟨Ba, 0, none⟩), .pointer (some ⟨Bb, 0, none⟩), undef, undef, undef, undef, undef, undef, undef, .map (some (w.heap.size + 1 + 1 + 1 + 1)), .slice A l.length c, .func (.func 35) #[] #[.pointer (some ⟨w.heap.size + 1 + 1 + 1 + 1 + 1 + 1, 0, none⟩)], (.agg #[.int .i64 (i : Nat), .int .i64 (f : Nat), .int .i64 (t : Nat)]), v24, v25, v26, v27, v28, v29, v30, v31, v32, v33, v34, v35, v36, v37, v38, v39, v40, v41, v42, v43, undef, undef, undef, undef, undef, undef, undef, undef, undef, undef, undef, undef, undef, undef, undef, undef, undef, undef, undef, undef, undef, undef, undef, undef, undef, undef, undef, undef, undef, undef, undef, undef, undef, undef, undef, undef, undef, undef, undef, undef, undef, undef, undef, undef, undef, undef, undef, undef, undef, undef, undef, undef, undef, undef, undef, undef, undef, undef, undef, undef, undef, undef, undef, undef, undef, undef, undef, undef, undef, undef, undef, undef, undef, undef], defers := [] }) ?r4 ?c4
    case r4 =>
      obtain ⟨ad, A1, c1, e, hv0, hv1, hl1, hi1⟩ := at_T35 hC1 (i : Int) (by omega) (by omega)
      rw [e] at hcL
      clear e
      simp only [Int.toNat_natCast] at hv0 hv1
      obtain ⟨ae, e, ha0, ha1, ha2, ha3⟩ := at_T32 hi1 (f : Int) (by omega) (by unfold vy at hp3; omega)
      subst e
      obtain ⟨ae', e, hb0, hb1, hb2, hb3⟩ := at_T32 hi1 (t : Int) (by omega) (by unfold vy at hp3; omega)
      cases e
      simp only [Int.toNat_natCast] at ha0 ha1 ha2 ha3 hb0 hb1 hb2 hb3
      have hca : rd_T32 (rd_T35 l (i : Nat)).f1 (f : Nat) = cl l i f := rfl
      have hcb : rd_T32 (rd_T35 l (i : Nat)).f1 (t : Nat) = cl l i t := rfl
      rw [hca] at ha0 ha1 ha2 ha3
      rw [hcb] at hb0 hb1 hb2 hb3
      have hft : (f : Int) < (rd_T35 l (i : Nat)).f1.length := by unfold vy at hp3; omega
      have htt : (t : Int) < (rd_T35 l (i : Nat)).f1.length := by unfold vy at hp3; omega
      have hil : (i : Int) < l.length := by omega
      refine region_round (S := CK W) (K := fun a2 W2 => ∃ Ba Bb v24 v25 v26 v27 v28 v29 v30 v31 v32 v33 v34 v35 v36 v37 v38 v39 v40 v41 v42 v43, CallAt W2 Ba (cl l i f) ∧ CallAt W2 Bb (cl l i t) ∧ GC W W2 ∧ a2 = { tmps := (#[.slice A l.length c, .map (some mr), .string first, .int .i64 ch, .pointer (some ⟨w.heap.size, 0, none⟩), .pointer (some ⟨w.heap.size + 1, 0, none⟩), .pointer (some ⟨w.heap.size + 1 + 1, 0, none⟩), .pointer (some ⟨w.heap.size + 1 + 1 + 1, 0, none⟩), .map none, .pointer (some ⟨w.heap.size + 1 + 1 + 1 + 1 + 1, 0, none⟩), .pointer (some ⟨Bx, 0, none⟩), .pointer (some ⟨Ba, 0, none⟩), .pointer (some ⟨Bb, 0, none⟩), undef, undef, undef, undef, undef, undef, undef, .map (some (w.heap.size + 1 + 1 + 1 + 1)), .slice A l.length c, .func (.func 35) #[] #[.pointer (some ⟨w.heap.size + 1 + 1 + 1 + 1 + 1 + 1, 0, none⟩)], (.agg #[.int .i64 (i : Nat), .int .i64 (f : Nat), .int .i64 (t : Nat)]), v24, v25, v26, v27, v28, v29, v30, v31, v32, v33, v34, v35, v36, v37, v38, v39, v40, v41, v42, v43, undef, undef, undef, undef, undef, undef, undef, undef, undef, undef, undef, undef, undef, undef, undef, undef, undef, undef, undef, undef, undef, undef, undef, undef, undef, undef, undef, undef, undef, undef, undef, undef, undef, undef, undef, undef, undef, undef, undef, undef, undef, undef, undef, undef, undef, undef, undef, undef, undef, undef, undef, undef, undef, undef, undef, undef, undef, undef, undef, undef, undef, undef, undef, undef, undef, undef, undef, undef, undef, undef, undef, undef, undef, undef] : Array Value), defers := [] }) (by kernel_rfl) (nodefer_of (by kernel_rfl)) (fun _ _ h => h) ?_
      have hS : CK W W.drew := ⟨Nat.le_refl _, fun _ _ h => h⟩
      refine wpAnyH_take (i := 0) (v := ?hv1) rfl (by kernel_rfl) (by kernel_rfl) (by kernel_rfl) (fun _ _ _ h => h) (Or.inl ⟨by rfl, ?hy1⟩) (by assumption) ?rest1
      case hy1 => (intro w' hS'; have e0 := hS'.2 _ _ hcL; go_simp; with_reducible rfl)
      refine wpAnyH_take (i := 1) (v := ?hv2) rfl (by kernel_rfl) (by kernel_rfl) (by kernel_rfl) (fun _ _ _ h => h) (Or.inl ⟨by rfl, ?hy2⟩) (by assumption) ?rest2
      case hy2 => (intro w' hS'; go_simp; with_reducible rfl)
      refine wpAnyH_take (i := 2) (v := ?hv3) rfl (by kernel_rfl) (by kernel_rfl) (by kernel_rfl) (fun _ _ _ h => h) (Or.inl ⟨by rfl, ?hy3⟩) (by assumption) ?rest3
      case hy3 => (intro w' hS'; have e0 := hS'.2 _ _ hx0; go_simp; with_reducible rfl)
      refine wpAnyH_take (i := 3) (v := ?hv4) rfl (by kernel_rfl) (by kernel_rfl) (by kernel_rfl) (fun _ _ _ h => h) (Or.inl ⟨by rfl, ?hy4⟩) (by assumption) ?rest4
      case hy4 => (intro w' hS'; go_simp; with_reducible rfl)
      refine wpAnyH_take (i := 4) (v := ?hv5) rfl (by kernel_rfl) (by kernel_rfl) (by kernel_rfl) (fun _ _ _ h => h) (Or.inl ⟨by rfl, ?hy5⟩) (by assumption) ?rest5
      case hy5 => (intro w' hS'; go_simp; with_reducible rfl)
      refine wpAnyH_take (i := 5) (v := ?hv6) rfl (by kernel_rfl) (by kernel_rfl) (by kernel_rfl) (fun _ _ _ h => h) (Or.inl ⟨by rfl, ?hy6⟩) (by assumption) ?rest6
      case hy6 => (intro w' hS'; have e0 := hS'.2 _ _ hv1; go_simp; with_reducible rfl)
      refine wpAnyH_take (i := 6) (v := ?hv7) rfl (by kernel_rfl) (by kernel_rfl) (by kernel_rfl) (fun _ _ _ h => h) (Or.inl ⟨by rfl, ?hy7⟩) (by assumption) ?rest7
      case hy7 => (intro w' hS'; go_simp; with_reducible rfl)
      refine wpAnyH_take (i := 7) (v := ?hv8) rfl (by kernel_rfl) (by kernel_rfl) (by kernel_rfl) (fun _ _ _ h => h) (Or.inl ⟨by rfl, ?hy8⟩) (by assumption) ?rest8
      case hy8 => (intro w' hS'; have e0 := hS'.2 _ _ hx1; go_simp; with_reducible rfl)
      refine wpAnyH_take (i := 8) (v := ?hv9) rfl (by kernel_rfl) (by kernel_rfl) (by kernel_rfl) (fun _ _ _ h => h) (Or.inl ⟨by rfl, ?hy9⟩) (by assumption) ?rest9
      case hy9 => (intro w' hS'; go_simp; with_reducible rfl)
      refine wpAnyH_take (i := 9) (v := ?hv10) rfl (by kernel_rfl) (by kernel_rfl) (by kernel_rfl) (fun _ _ _ h => h) (Or.inl ⟨by rfl, ?hy10⟩) (by assumption) ?rest10
      case hy10 => (intro w' hS'; have e0 := hS'.2 _ _ ha0; have e1 := hS'.2 _ _ ha1; have e2 := hS'.2 _ _ ha2; have e3 := hS'.2 _ _ ha3; go_simp; with_reducible rfl)
      refine wpAnyH_take (i := 10) (v := ?hv11) rfl (by kernel_rfl) (by kernel_rfl) (by kernel_rfl) (fun _ _ _ h => h) (Or.inl ⟨by rfl, ?hy11⟩) (by assumption) ?rest11
      case hy11 => (intro w' hS'; have e0 := hS'.2 _ _ hcL; go_simp; with_reducible rfl)
      refine wpAnyH_take (i := 11) (v := ?hv12) rfl (by kernel_rfl) (by kernel_rfl) (by kernel_rfl) (fun _ _ _ h => h) (Or.inl ⟨by rfl, ?hy12⟩) (by assumption) ?rest12
      case hy12 => (intro w' hS'; go_simp; with_reducible rfl)
      refine wpAnyH_take (i := 12) (v := ?hv13) rfl (by kernel_rfl) (by kernel_rfl) (by kernel_rfl) (fun _ _ _ h => h) (Or.inl ⟨by rfl, ?hy13⟩) (by assumption) ?rest13
      case hy13 => (intro w' hS'; have e0 := hS'.2 _ _ hx0; go_simp; with_reducible rfl)
      refine wpAnyH_take (i := 13) (v := ?hv14) rfl (by kernel_rfl) (by kernel_rfl) (by kernel_rfl) (fun _ _ _ h => h) (Or.inl ⟨by rfl, ?hy14⟩) (by assumption) ?rest14
      case hy14 => (intro w' hS'; go_simp; with_reducible rfl)
      refine wpAnyH_take (i := 14) (v := ?hv15) rfl (by kernel_rfl) (by kernel_rfl) (by kernel_rfl) (fun _ _ _ h => h) (Or.inl ⟨by rfl, ?hy15⟩) (by assumption) ?rest15
      case hy15 => (intro w' hS'; go_simp; with_reducible rfl)
      refine wpAnyH_take (i := 15) (v := ?hv16) rfl (by kernel_rfl) (by kernel_rfl) (by kernel_rfl) (fun _ _ _ h => h) (Or.inl ⟨by rfl, ?hy16⟩) (by assumption) ?rest16
      case hy16 => (intro w' hS'; have e0 := hS'.2 _ _ hv1; go_simp; with_reducible rfl)
      refine wpAnyH_take (i := 16) (v := ?hv17) rfl (by kernel_rfl) (by kernel_rfl) (by kernel_rfl) (fun _ _ _ h => h) (Or.inl ⟨by rfl, ?hy17⟩) (by assumption) ?rest17
      case hy17 => (intro w' hS'; go_simp; with_reducible rfl)
      refine wpAnyH_take (i := 17) (v := ?hv18) rfl (by kernel_rfl) (by kernel_rfl) (by kernel_rfl) (fun _ _ _ h => h) (Or.inl ⟨by rfl, ?hy18⟩) (by assumption) ?rest18
      case hy18 => (intro w' hS'; have e0 := hS'.2 _ _ hx2; go_simp; with_reducible rfl)
      refine wpAnyH_take (i := 18) (v := ?hv19) rfl (by kernel_rfl) (by kernel_rfl) (by kernel_rfl) (fun _ _ _ h => h) (Or.inl ⟨by rfl, ?hy19⟩) (by assumption) ?rest19
      case hy19 => (intro w' hS'; go_simp; with_reducible rfl)
      refine wpAnyH_take (i := 19) (v := ?hv20) rfl (by kernel_rfl) (by kernel_rfl) (by kernel_rfl) (fun _ _ _ h => h) (Or.inl ⟨by rfl, ?hy20⟩) (by assumption) ?rest20
      case hy20 => (intro w' hS'; have e0 := hS'.2 _ _ hb0; have e1 := hS'.2 _ _ hb1; have e2 := hS'.2 _ _ hb2; have e3 := hS'.2 _ _ hb3; go_simp; with_reducible rfl)
      refine wpAnyH_all (rs := [20, 21]) (by kernel_rfl) (by simp) ?_
      intro j hj
      simp only [List.mem_cons, List.not_mem_nil, or_false] at hj
      rcases hj with rfl | rfl
      · refine wpOp_step rfl (fun K' hK' => ?_)
        go_simp
        refine hK' _ _ ⟨hS.trans (ck_alloc _ _), ?_⟩
        clear hK' K'
        refine wpAnyH_all (rs := [21]) (by kernel_rfl) (by simp) ?_
        intro j hj
        obtain rfl := List.mem_singleton.1 hj
        refine wpOp_step rfl (fun K' hK' => ?_)
        go_simp
        refine hK' _ _ ⟨(hS.trans (ck_alloc _ _)).trans (ck_alloc _ _), ?_⟩
        clear hK' K'
        refine wpAnyH_all (rs := [22]) (by kernel_rfl) (by simp) ?_
        intro j hj
        obtain rfl := List.mem_singleton.1 hj
        refine wpOp_step rfl (fun K' hK' => ?_)
        go_simp
        refine hK' _ _ ⟨?_, ?_⟩
        · exact ((ck_alloc _ _).trans (ck_alloc _ _)).trans (ck_drew _)
        clear hK' K'
        refine wpAnyH_all (rs := [23]) (by kernel_rfl) (by simp) ?_
        intro j hj
        obtain rfl := List.mem_singleton.1 hj
        refine wpOp_step rfl (fun K' hK' => ?_)
        go_simp
        refine hK' _ _ ⟨?_, ?_⟩
        · exact ((ck_alloc _ _).trans (ck_alloc _ _)).trans (ck_drew _)
        clear hK' K'
        refine wpAnyH_done (by kernel_rfl) ?_ _
        refine ⟨W.heap.size, W.heap.size + 1, _, _, _, _, _, _, _, _, _, _, _, _, _, _, _, _, _, _, _, _, ?_, ?_, ?_, rfl⟩
        · refine ⟨?_, ?_, ?_, ?_⟩ <;> simp [go_sem]
        · refine ⟨?_, ?_, ?_, ?_⟩ <;> simp [go_sem]
        · exact ((GC.alloc _ _).t (GC.alloc _ _)).t (GC.drew _)
      · refine wpOp_step rfl (fun K' hK' => ?_)
        go_simp
        refine hK' _ _ ⟨hS.trans (ck_alloc _ _), ?_⟩
        clear hK' K'
        refine wpAnyH_all (rs := [20]) (by kernel_rfl) (by simp) ?_
        intro j hj
        obtain rfl := List.mem_singleton.1 hj
        refine wpOp_step rfl (fun K' hK' => ?_)
        go_simp
        refine hK' _ _ ⟨(hS.trans (ck_alloc _ _)).trans (ck_alloc _ _), ?_⟩
        clear hK' K'
        refine wpAnyH_all (rs := [22]) (by kernel_rfl) (by simp) ?_
        intro j hj
        obtain rfl := List.mem_singleton.1 hj
        refine wpOp_step rfl (fun K' hK' => ?_)
        go_simp
        refine hK' _ _ ⟨?_, ?_⟩
        · exact ((ck_alloc _ _).trans (ck_alloc _ _)).trans (ck_drew _)
        clear hK' K'
        refine wpAnyH_all (rs := [23]) (by kernel_rfl) (by simp) ?_
        intro j hj
        obtain rfl := List.mem_singleton.1 hj
        refine wpOp_step rfl (fun K' hK' => ?_)
        go_simp
        refine hK' _ _ ⟨?_, ?_⟩
        · exact ((ck_alloc _ _).trans (ck_alloc _ _)).trans (ck_drew _)
        clear hK' K'
        refine wpAnyH_done (by kernel_rfl) ?_ _
        refine ⟨W.heap.size + 1, W.heap.size, _, _, _, _, _, _, _, _, _, _, _, _, _, _, _, _, _, _, _, _, ?_, ?_, ?_, rfl⟩
        · refine ⟨?_, ?_, ?_, ?_⟩ <;> simp [go_sem]
        · refine ⟨?_, ?_, ?_, ?_⟩ <;> simp [go_sem]
        · exact ((GC.alloc _ _).t (GC.alloc _ _)).t (GC.drew _)
    -- end r4
    case c4 =>
      rintro a2 W2 ⟨Ba, Bb, v24, v25, v26, v27, v28, v29, v30, v31, v32, v33, v34, v35, v36, v37, v38, v39, v40, v41, v42, v43, hBa, hBb, hG, rfl⟩
      have hkR := (hkW.trans hG.2).2 _ _ hbR
      have hBa0 := hBa.1
      obtain ⟨DR, hDR, hER⟩ : MapW W2 mr nr R := hR0.same ((hG.1.block _ (by have := hkW.1; omega) (by simp)).trans hmW) (hkW.trans hG.2)
      have hEa := Aside0.mk (hER (cl l i f).f0.data.toList)
      refine seq_cut (fun a3 W3 => ∃ Bw Aw cw ok v24 v25 v26 v27 v28 v29 v30 v31 v32 v33 v34 v35 v36 v37 v38 v39 v40 v41 v42 v43 v44 v45 v46 v47 v48 v49 v50, WayAt W3 Bw Aw cw (atW R (cl l i f).f0.data.toList) ∧ ok = (R (cl l i f).f0.data.toList).isSome ∧ GC W2 W3 ∧ a3 = { tmps := #[.slice A l.length c, .map (some mr), .string first, .int .i64 ch, .pointer (some ⟨w.heap.size, 0, none⟩), .pointer (some ⟨w.heap.size + 1, 0, none⟩), .pointer (some ⟨w.heap.size + 1 + 1, 0, none⟩), .pointer (some ⟨w.heap.size + 1 + 1 + 1, 0, none⟩), .map none, .pointer (some ⟨w.heap.size + 1 + 1 + 1 + 1 + 1, 0, none⟩), .pointer (some ⟨Bx, 0, none⟩), .pointer (some ⟨Ba, 0, none⟩), .pointer (some ⟨Bb, 0, none⟩), .pointer (some ⟨Bw, 0, none⟩), .bool ok, undef, undef, undef, undef, undef, .map (some (w.heap.size + 1 + 1 + 1 + 1)), .slice A l.length c, .func (.func 35) #[] #[.pointer (some ⟨w.heap.size + 1 + 1 + 1 + 1 + 1 + 1, 0, none⟩)], (.agg #[.int .i64 (i : Nat), .int .i64 (f : Nat), .int .i64 (t : Nat)]), v24, v25, v26, v27, v28, v29, v30, v31, v32, v33, v34, v35, v36, v37, v38, v39, v40, v41, v42, v43, v44, v45, v46, v47, v48, v49, v50, undef, undef, undef, undef, undef, undef, undef, undef, undef, undef, undef, undef, undef, undef, undef, undef, undef, undef, undef, undef, undef, undef, undef, undef, undef, undef, undef, undef, undef, undef, undef, undef, undef, undef, undef, undef, undef, undef, undef, undef, undef, undef, undef, undef, undef, undef, undef, undef, undef, undef, undef, undef, undef, undef, undef, undef, undef, undef, undef, undef, undef, undef, undef, undef, undef, undef, undef], defers := [] }) ?r5 ?c5
      case r5 =>
        gi_wp2_with (gi_at_lookup; refine wpListIn_lookup_own_ok _ rfl _ _ 46 rfl 9 45 K9 Tryd.underlying46 Rw (Tryd.zeroValue45 _) (.held (wv 0 none 0 0)) [] rfl mr nr DR rfl hDR _ _ rfl hka ?_; intro v ps hv; obtain ⟨hhas, Aw, cw, rfl, hCw, hcw⟩ := look_any hEa.out hv; rw [hhas]; unfold wv; have hCw' := Aside0.mk hCw; clear hCw hv hhas)
        exact ⟨W2.heap.size, Aw, cw, _, _, _, _, _, _, _, _, _, _, _, _, _, _, _, _, _, _, _, _, _, _, _, _, _, _, _, _, ⟨by simp [go_sem], by simp [go_sem], C30_ck hCw'.out (ck_alloc _ _), hcw⟩, rfl, GC.alloc _ _, rfl⟩
      -- end r5
      case c5 =>
        rintro a3 W3 ⟨Bw, Aw, cw, ok, v24, v25, v26, v27, v28, v29, v30, v31, v32, v33, v34, v35, v36, v37, v38, v39, v40, v41, v42, v43, v44, v45, v46, v47, v48, v49, v50, hBw, hok0, hG3, rfl⟩
        have hok := Aside0.mk hok0
        clear hok0
        replace hBa := hBa.ck hG3.2
        replace hBb := hBb.ck hG3.2
        replace hG := hG.t hG3
        clear hG3 hDR hER hEa DR hkR hBa0
        obtain ⟨y, hy⟩ : ∃ y, atW R (cl l i f).f0.data.toList = y := ⟨_, rfl⟩
        rw [hy] at hBw
        have hBw0 := hBw.1
        refine seq_cut (fun a4 W4 => Aside0 (W4 = W3) ∧ ∃ v51 v52, a4 = { tmps := #[.slice A l.length c, .map (some mr), .string first, .int .i64 ch, .pointer (some ⟨w.heap.size, 0, none⟩), .pointer (some ⟨w.heap.size + 1, 0, none⟩), .pointer (some ⟨w.heap.size + 1 + 1, 0, none⟩), .pointer (some ⟨w.heap.size + 1 + 1 + 1, 0, none⟩), .map none, .pointer (some ⟨w.heap.size + 1 + 1 + 1 + 1 + 1, 0, none⟩), .pointer (some ⟨Bx, 0, none⟩), .pointer (some ⟨Ba, 0, none⟩), .pointer (some ⟨Bb, 0, none⟩), .pointer (some ⟨Bw, 0, none⟩), .bool ok, .int .i64 y.1, undef, undef, undef, undef, .map (some (w.heap.size + 1 + 1 + 1 + 1)), .slice A l.length c, .func (.func 35) #[] #[.pointer (some ⟨w.heap.size + 1 + 1 + 1 + 1 + 1 + 1, 0, none⟩)], (.agg #[.int .i64 (i : Nat), .int .i64 (f : Nat), .int .i64 (t : Nat)]), v24, v25, v26, v27, v28, v29, v30, v31, v32, v33, v34, v35, v36, v37, v38, v39, v40, v41, v42, v43, v44, v45, v46, v47, v48, v49, v50, v51, v52, undef, undef, undef, undef, undef, undef, undef, undef, undef, undef, undef, undef, undef, undef, undef, undef, undef, undef, undef, undef, undef, undef, undef, undef, undef, undef, undef, undef, undef, undef, undef, undef, undef, undef, undef, undef, undef, undef, undef, undef, undef, undef, undef, undef, undef, undef, undef, undef, undef, undef, undef, undef, undef, undef, undef, undef, undef, undef, undef, undef, undef, undef, undef, undef, undef], defers := [] }) ?r6 ?c6
        case r6 =>
          gi_wp2
          exact ⟨⟨trivial⟩, _, _, rfl⟩
        case c6 =>
        rintro a4 W4 ⟨⟨rfl⟩, v51, v52, rfl⟩
        have hBa0 := hBa.1
        have hkF := (hkW.trans hG.2).2 _ _ hbF
        have hkC := (hkW.trans hG.2).2 _ _ hbC
        refine seq_cut (fun a5 W5 => Aside0 (W5 = W4) ∧ ∃ v53 v54 v55 v56 v57 v58 v59, a5 = { tmps := #[.slice A l.length c, .map (some mr), .string first, .int .i64 ch, .pointer (some ⟨w.heap.size, 0, none⟩), .pointer (some ⟨w.heap.size + 1, 0, none⟩), .pointer (some ⟨w.heap.size + 1 + 1, 0, none⟩), .pointer (some ⟨w.heap.size + 1 + 1 + 1, 0, none⟩), .map none, .pointer (some ⟨w.heap.size + 1 + 1 + 1 + 1 + 1, 0, none⟩), .pointer (some ⟨Bx, 0, none⟩), .pointer (some ⟨Ba, 0, none⟩), .pointer (some ⟨Bb, 0, none⟩), .pointer (some ⟨Bw, 0, none⟩), .bool ok, .int .i64 (rdy first.data.toList ch (cl l i f).f0.data.toList y.1), undef, undef, undef, undef, .map (some (w.heap.size + 1 + 1 + 1 + 1)), .slice A l.length c, .func (.func 35) #[] #[.pointer (some ⟨w.heap.size + 1 + 1 + 1 + 1 + 1 + 1, 0, none⟩)], (.agg #[.int .i64 (i : Nat), .int .i64 (f : Nat), .int .i64 (t : Nat)]), v24, v25, v26, v27, v28, v29, v30, v31, v32, v33, v34, v35, v36, v37, v38, v39, v40, v41, v42, v43, v44, v45, v46, v47, v48, v49, v50, v51, v52, v53, v54, v55, v56, v57, v58, v59, undef, undef, undef, undef, undef, undef, undef, undef, undef, undef, undef, undef, undef, undef, undef, undef, undef, undef, undef, undef, undef, undef, undef, undef, undef, undef, undef, undef, undef, undef, undef, undef, undef, undef, undef, undef, undef, undef, undef, undef, undef, undef, undef, undef, undef, undef, undef, undef, undef, undef, undef, undef, undef, undef, undef, undef, undef, undef], defers := [] }) ?r7 ?c7
        case r7 =>
          by_cases hpf : (cl l i f).f0 = first
          · have e : rdy first.data.toList ch (cl l i f).f0.data.toList y.1 = y.1 := if_pos (by rw [hpf])
            rw [e]
            gi_wp2
            exact ⟨⟨trivial⟩, _, _, _, _, _, _, _, rfl⟩
          · have hpq : (cl l i f).f0.data.toList ≠ first.data.toList := fun e => hpf (ba_ext e)
            have e : rdy first.data.toList ch (cl l i f).f0.data.toList y.1 = wrap64 (y.1 + ch) := by
              have hd : 0 ≤ y.1 ∧ y.1 ≤ 1048576 := by
                rw [← hy]
                unfold atW
                cases hR1 : R (cl l i f).f0.data.toList with
                | none => simp
                | some z => exact hRd _ _ hR1 hpq
              rw [show wrap64 (y.1 + ch) = y.1 + ch by unfold wrap64; omega]
              exact if_neg hpq
            rw [e]
            have hne : ((cl l i f).f0.toList == first.toList) = false := by
              rw [beq_eq_false_iff_ne, ByteArray.toList_eq, ByteArray.toList_eq]; exact hpq
            gi_wp2
            all_goals first
              | exact ⟨⟨trivial⟩, _, _, _, _, _, _, _, rfl⟩
              | (rename_i h; rw [hne] at h; cases h)
        case c7 =>
        rintro a5 W5 ⟨⟨rfl⟩, v53, v54, v55, v56, v57, v58, v59, rfl⟩
        refine seq_cut (fun a6 W6 => C9 l R first.data.toList ch i f t y W5 W6 ∧ ∃ v60 v61 v62 v63 v64 v65 v66 v67 v68 v69 v70 v71 v72 v73, a6 = { tmps := #[.slice A l.length c, .map (some mr), .string first, .int .i64 ch, .pointer (some ⟨w.heap.size, 0, none⟩), .pointer (some ⟨w.heap.size + 1, 0, none⟩), .pointer (some ⟨w.heap.size + 1 + 1, 0, none⟩), .pointer (some ⟨w.heap.size + 1 + 1 + 1, 0, none⟩), .map none, .pointer (some ⟨w.heap.size + 1 + 1 + 1 + 1 + 1, 0, none⟩), .pointer (some ⟨Bx, 0, none⟩), .pointer (some ⟨Ba, 0, none⟩), .pointer (some ⟨Bb, 0, none⟩), .pointer (some ⟨Bw, 0, none⟩), .bool ok, .int .i64 (rdy first.data.toList ch (cl l i f).f0.data.toList y.1), undef, undef, undef, undef, .map (some (w.heap.size + 1 + 1 + 1 + 1)), .slice A l.length c, .func (.func 35) #[] #[.pointer (some ⟨w.heap.size + 1 + 1 + 1 + 1 + 1 + 1, 0, none⟩)], (.agg #[.int .i64 (i : Nat), .int .i64 (f : Nat), .int .i64 (t : Nat)]), v24, v25, v26, v27, v28, v29, v30, v31, v32, v33, v34, v35, v36, v37, v38, v39, v40, v41, v42, v43, v44, v45, v46, v47, v48, v49, v50, v51, v52, v53, v54, v55, v56, v57, v58, v59, v60, v61, v62, v63, v64, v65, v66, v67, v68, v69, v70, v71, v72, v73, undef, undef, undef, undef, undef, undef, undef, undef, undef, undef, undef, undef, undef, undef, undef, undef, undef, undef, undef, undef, undef, undef, undef, undef, undef, undef, undef, undef, undef, undef, undef, undef, undef, undef, undef, undef, undef, undef, undef, undef, undef, undef, undef, undef], defers := [] }) ?r9 ?c9
        case r9 =>
          have hBa1 := hBa.2.1
          have hBb0 := hBb.1
          have hsk := skip W5
          obtain ⟨rd, hrd⟩ : ∃ rd, rdy first.data.toList ch (cl l i f).f0.data.toList y.1 = rd := ⟨_, rfl⟩
          rw [hrd]
          cases ok with
          | false =>
            have hRn : R (cl l i f).f0.data.toList = none := by
              have := hok.out
              cases hh : R (cl l i f).f0.data.toList with
              | none => rfl
              | some z => rw [hh] at this; cases this
            gi_wp2
            exact hsk _ hG (cand_no hRn)
          | true =>
            have hRs : R (cl l i f).f0.data.toList = some y := by
              have := hok.out
              rw [← hy]
              unfold atW
              cases hh : R (cl l i f).f0.data.toList with
              | none => rw [hh] at this; cases this
              | some z => rfl
            by_cases hcut : (cl l i f).f1 < rd
            · gi_wp2
              exact hsk _ hG (cand_cut hRs (hrd ▸ hcut))
            · by_cases hbf : (cl l i t).f0 = first
              · have hkF := (hkW.trans hG.2).2 _ _ hbF
                gi_wp2
                exact hsk _ hG (cand_b (by show (cl l i t).f0.data.toList = _; rw [hbf]))
              · have hkF := (hkW.trans hG.2).2 _ _ hbF
                have hbq : (cl l i t).f0.data.toList ≠ first.data.toList := fun e => hbf (ba_ext e)
                have hne : ((cl l i t).f0.toList == first.toList) = false := by
                  rw [beq_eq_false_iff_ne, ByteArray.toList_eq, ByteArray.toList_eq]; exact hbq
                have hcons : C9 l R first.data.toList ch i f t y W5 W5 := ⟨rfl, hRs, by rw [hrd]; omega, hbq⟩
                clear hRs hbq
                gi_wp2
                all_goals first
                  | exact ⟨hcons, _, _, _, _, _, _, _, _, _, _, _, _, _, _, rfl⟩
                  | (rename_i h; rw [hne] at h; cases h)
        case c9 =>
        rintro a6 W6 ⟨⟨rfl, hRa, hcut, hbq⟩, v60, v61, v62, v63, v64, v65, v66, v67, v68, v69, v70, v71, v72, v73, rfl⟩
        refine seq_cut (fun a7 W7 => C10 l R i t ∧ GC W6 W7 ∧ ∃ v16 v17 v74 v75 v76 v77 v78 v79 v80 v81 v82 v83 v84 v85 v86 v87 v88, a7 = { tmps := #[.slice A l.length c, .map (some mr), .string first, .int .i64 ch, .pointer (some ⟨w.heap.size, 0, none⟩), .pointer (some ⟨w.heap.size + 1, 0, none⟩), .pointer (some ⟨w.heap.size + 1 + 1, 0, none⟩), .pointer (some ⟨w.heap.size + 1 + 1 + 1, 0, none⟩), .map none, .pointer (some ⟨w.heap.size + 1 + 1 + 1 + 1 + 1, 0, none⟩), .pointer (some ⟨Bx, 0, none⟩), .pointer (some ⟨Ba, 0, none⟩), .pointer (some ⟨Bb, 0, none⟩), .pointer (some ⟨Bw, 0, none⟩), .bool ok, .int .i64 (rdy first.data.toList ch (cl l i f).f0.data.toList y.1), v16, v17, undef, undef, .map (some (w.heap.size + 1 + 1 + 1 + 1)), .slice A l.length c, .func (.func 35) #[] #[.pointer (some ⟨w.heap.size + 1 + 1 + 1 + 1 + 1 + 1, 0, none⟩)], (.agg #[.int .i64 (i : Nat), .int .i64 (f : Nat), .int .i64 (t : Nat)]), v24, v25, v26, v27, v28, v29, v30, v31, v32, v33, v34, v35, v36, v37, v38, v39, v40, v41, v42, v43, v44, v45, v46, v47, v48, v49, v50, v51, v52, v53, v54, v55, v56, v57, v58, v59, v60, v61, v62, v63, v64, v65, v66, v67, v68, v69, v70, v71, v72, v73, v74, v75, v76, v77, v78, v79, v80, v81, v82, v83, v84, v85, v86, v87, v88, undef, undef, undef, undef, undef, undef, undef, undef, undef, undef, undef, undef, undef, undef, undef, undef, undef, undef, undef, undef, undef, undef, undef, undef, undef, undef, undef, undef, undef], defers := [] }) ?r10 ?c10
        case r10 =>
          have hkR := (hkW.trans hG.2).2 _ _ hbR
          have hBb0 := hBb.1
          have hBb2 := hBb.2.2.1
          have hsk := skip
          obtain ⟨DR, hDR, hER⟩ : MapW W6 mr nr R := hR0.same ((hG.1.block _ (by have := hkW.1; omega) (by simp)).trans hmW) (hkW.trans hG.2)
          have hE1 := hER (cl l i t).f0.data.toList
          clear hER
          obtain ⟨rd, hrd⟩ : ∃ rd, rdy first.data.toList ch (cl l i f).f0.data.toList y.1 = rd := ⟨_, rfl⟩
          rw [hrd]
          cases hRb : R (cl l i t).f0.data.toList with
          | none =>
            rw [hRb] at hE1
            have hEb := Aside0.mk hE1
            have hc10 : C10 l R i t := fun o ho => by rw [hRb] at ho; cases ho
            clear hE1 hRa hRb hcut hbq
            have hq1 := (ck_alloc W6 (Obj.cells #[.int .i64 0, .slice none 0 0] 45)).2 _ _ hBb2
            gi_wp2_with (gi_at_lookup; refine wpListIn_lookup_own_ok _ rfl _ _ 46 rfl 9 45 K9 Tryd.underlying46 Rw (Tryd.zeroValue45 _) (.held (wv 0 none 0 0)) [] rfl mr nr DR rfl hDR _ _ rfl hkb ?_; intro v ps hv; obtain ⟨rfl, hhas⟩ := look_none hEb.out hv; rw [hhas]; unfold wv; clear hhas hv)
            first | exact ⟨hc10, GC.alloc _ _, _, _, _, _, _, _, _, _, _, _, _, _, _, _, _, _, _, rfl⟩ | exact GC.alloc _ _ | exact ⟨GC.alloc _ _, _, _, _, _, _, _, _, _, _, _, _, _, _, _, _, _, _, rfl⟩
          | some o =>
            rw [hRb] at hE1
            have hEb := Aside0.mk hE1
            have hRb' := Aside0.mk hRb
            clear hE1 hRa hcut hbq
            by_cases hle : o.1 ≤ (cl l i t).f2
            · clear hRb
              gi_wp2_with (gi_at_lookup; refine wpListIn_lookup_own_ok _ rfl _ _ 46 rfl 9 45 K9 Tryd.underlying46 Rw (Tryd.zeroValue45 _) (.held (wv 0 none 0 0)) [] rfl mr nr DR rfl hDR _ _ rfl hkb ?_; intro v ps hv; obtain ⟨hhas, Ao, co, rfl, hCo, hco⟩ := look_some hEb.out hv; rw [hhas]; unfold wv; have hq1 := (ck_alloc W6 (Obj.cells #[.int .i64 o.1, .slice Ao o.2.length co] 45)).2 _ _ hBb2; clear hhas hv hCo)
              exact hsk _ _ (hG.t (GC.alloc _ _)) (cand_le hRb'.out hle)
            · have hc10 : C10 l R i t := fun o' ho => by rw [hRb'.out] at ho; cases ho; omega
              clear hRb
              gi_wp2_with (gi_at_lookup; refine wpListIn_lookup_own_ok _ rfl _ _ 46 rfl 9 45 K9 Tryd.underlying46 Rw (Tryd.zeroValue45 _) (.held (wv 0 none 0 0)) [] rfl mr nr DR rfl hDR _ _ rfl hkb ?_; intro v ps hv; obtain ⟨hhas, Ao, co, rfl, hCo, hco⟩ := look_some hEb.out hv; rw [hhas]; unfold wv; have hq1 := (ck_alloc W6 (Obj.cells #[.int .i64 o.1, .slice Ao o.2.length co] 45)).2 _ _ hBb2; clear hhas hv hCo)
              first | exact ⟨hc10, GC.alloc _ _, _, _, _, _, _, _, _, _, _, _, _, _, _, _, _, _, _, rfl⟩ | exact GC.alloc _ _ | exact ⟨GC.alloc _ _, _, _, _, _, _, _, _, _, _, _, _, _, _, _, _, _, _, rfl⟩
        -- end r10
        case c10 =>
        rintro a7 W7 ⟨hc10, hG7, v16, v17, v74, v75, v76, v77, v78, v79, v80, v81, v82, v83, v84, v85, v86, v87, v88, rfl⟩
        have hyes := cand_yes (R := R) (F := first.data.toList) (g := ch) (x := lk l (i, f, t)) hRa hcut hbq hc10
        have hyl := hRl _ _ hRa
        clear hRa hcut hbq hc10
        replace hBb := hBb.ck hG7.2
        replace hBw := hBw.ck hG7.2
        replace hG := hG.t hG7
        clear hG7 hBa
        generalize rdy first.data.toList ch (cl l i f).f0.data.toList y.1 = rd
        obtain ⟨N, hN⟩ : ∃ N, fold l R first.data.toList ch pre = N := ⟨_, rfl⟩
        have hnW7 : MapW W7 (w.heap.size + 1 + 1 + 1 + 1) pre.length N := by rw [← hN]; exact hnW.same (hG.1.block _ hnW.lt (by simp)) hG.2
        refine seq_cut (fun a8 W8 => ∃ Bn An cn wn v89 v90 v91 v92 v93 v94 v95, WayAt W8 Bn An cn (atW N (cl l i t).f0.data.toList) ∧ Aside0 (wn = (N (cl l i t).f0.data.toList).isSome) ∧ GC W7 W8 ∧ a8 = { tmps := #[.slice A l.length c, .map (some mr), .string first, .int .i64 ch, .pointer (some ⟨w.heap.size, 0, none⟩), .pointer (some ⟨w.heap.size + 1, 0, none⟩), .pointer (some ⟨w.heap.size + 1 + 1, 0, none⟩), .pointer (some ⟨w.heap.size + 1 + 1 + 1, 0, none⟩), .map none, .pointer (some ⟨w.heap.size + 1 + 1 + 1 + 1 + 1, 0, none⟩), .pointer (some ⟨Bx, 0, none⟩), .pointer (some ⟨Ba, 0, none⟩), .pointer (some ⟨Bb, 0, none⟩), .pointer (some ⟨Bw, 0, none⟩), .bool ok, .int .i64 rd, v16, v17, .pointer (some ⟨Bn, 0, none⟩), .bool wn, .map (some (w.heap.size + 1 + 1 + 1 + 1)), .slice A l.length c, .func (.func 35) #[] #[.pointer (some ⟨w.heap.size + 1 + 1 + 1 + 1 + 1 + 1, 0, none⟩)], (.agg #[.int .i64 (i : Nat), .int .i64 (f : Nat), .int .i64 (t : Nat)]), v24, v25, v26, v27, v28, v29, v30, v31, v32, v33, v34, v35, v36, v37, v38, v39, v40, v41, v42, v43, v44, v45, v46, v47, v48, v49, v50, v51, v52, v53, v54, v55, v56, v57, v58, v59, v60, v61, v62, v63, v64, v65, v66, v67, v68, v69, v70, v71, v72, v73, v74, v75, v76, v77, v78, v79, v80, v81, v82, v83, v84, v85, v86, v87, v88, v89, v90, v91, v92, v93, v94, v95, undef, undef, undef, undef, undef, undef, undef, undef, undef, undef, undef, undef, undef, undef, undef, undef, undef, undef, undef, undef, undef, undef], defers := [] }) ?r12 ?c12
        case r12 =>
          have hkN := (hkW.trans hG.2).2 _ _ hbN
          have hBb0 := hBb.1
          obtain ⟨DN, hDN, hEN⟩ := hnW7
          have hE1 := hEN (cl l i t).f0.data.toList
          clear hEN
          have hEb := Aside0.mk hE1
          clear hE1 hyes
          gi_wp2_with (gi_at_lookup; refine wpListIn_lookup_own_ok _ rfl _ _ 46 rfl 9 45 K9 Tryd.underlying46 Rw (Tryd.zeroValue45 _) (.held (wv 0 none 0 0)) [] rfl (w.heap.size + 1 + 1 + 1 + 1) pre.length DN rfl hDN _ _ rfl hkb ?_; intro v ps hv; obtain ⟨hhas, An, cn, rfl, hCn, hcn⟩ := look_any hEb.out hv; rw [hhas]; unfold wv; have hCn' := Aside0.mk hCn; clear hCn hv hhas)
          exact ⟨W7.heap.size, An, cn, _, _, _, _, _, _, _, _, ⟨by simp [go_sem], by simp [go_sem], C30_ck hCn'.out (ck_alloc _ _), hcn⟩, ⟨rfl⟩, GC.alloc _ _, rfl⟩
        -- end r12
        case c12 =>
        rintro a8 W8 ⟨Bn, An, cn, wn, v89, v90, v91, v92, v93, v94, v95, hBn, hwn, hG8, rfl⟩
        replace hBb := hBb.ck hG8.2
        replace hBw := hBw.ck hG8.2
        replace hG := hG.t hG8
        replace hnW7 := hnW7.same (hG8.1.block _ hnW7.lt (by simp)) hG8.2
        clear hG8
        have h13 := C13.of hwn.out
        obtain ⟨z, hz⟩ : ∃ z, atW N (cl l i t).f0.data.toList = z := ⟨_, rfl⟩
        rw [hz] at hBn h13
        refine seq_cut (fun a9 W9 => ∃ bb, Aside0 (bb = (!wn || decide ((cl l i t).f2 < z.1)) ∧ W9 = W8) ∧ ∃ v96 v97 v98 v99 v100 v101 v102 v103, a9 = { tmps := #[.slice A l.length c, .map (some mr), .string first, .int .i64 ch, .pointer (some ⟨w.heap.size, 0, none⟩), .pointer (some ⟨w.heap.size + 1, 0, none⟩), .pointer (some ⟨w.heap.size + 1 + 1, 0, none⟩), .pointer (some ⟨w.heap.size + 1 + 1 + 1, 0, none⟩), .map none, .pointer (some ⟨w.heap.size + 1 + 1 + 1 + 1 + 1, 0, none⟩), .pointer (some ⟨Bx, 0, none⟩), .pointer (some ⟨Ba, 0, none⟩), .pointer (some ⟨Bb, 0, none⟩), .pointer (some ⟨Bw, 0, none⟩), .bool ok, .int .i64 rd, v16, v17, .pointer (some ⟨Bn, 0, none⟩), .bool wn, .map (some (w.heap.size + 1 + 1 + 1 + 1)), .slice A l.length c, .func (.func 35) #[] #[.pointer (some ⟨w.heap.size + 1 + 1 + 1 + 1 + 1 + 1, 0, none⟩)], (.agg #[.int .i64 (i : Nat), .int .i64 (f : Nat), .int .i64 (t : Nat)]), v24, v25, v26, v27, v28, v29, v30, v31, v32, v33, v34, v35, v36, v37, v38, v39, v40, v41, v42, v43, v44, v45, v46, v47, v48, v49, v50, v51, v52, v53, v54, v55, v56, v57, v58, v59, v60, v61, v62, v63, v64, v65, v66, v67, v68, v69, v70, v71, v72, v73, v74, v75, v76, v77, v78, v79, v80, v81, v82, v83, v84, v85, v86, v87, v88, v89, v90, v91, v92, v93, v94, v95, v96, v97, v98, v99, v100, v101, v102, v103, .bool bb, undef, undef, undef, undef, undef, undef, undef, undef, undef, undef, undef, undef, undef], defers := [] }) ?r13 ?c13
        case r13 =>
          have hBb2 := hBb.2.2.1
          have hBn0 := hBn.1
          clear h13 hyes
          cases wn with
          | true =>
            gi_wp2
            exact ⟨_, ⟨by simp, trivial⟩, _, _, _, _, _, _, _, _, rfl⟩
          | false =>
            gi_wp2
            exact ⟨_, ⟨by simp, trivial⟩, _, _, _, _, _, _, _, _, rfl⟩
        case c13 =>
        rintro a9 W9 ⟨bb, ⟨hbb, rfl⟩, v96, v97, v98, v99, v100, v101, v102, v103, rfl⟩
        rw [← hbb] at h13
        clear hbb hwn
        refine wpIn_cond (t := bb) rfl ?_
        cases bb with
        | false =>
          refine wpIn_skip ?_
          obtain ⟨o, ho, hlt2⟩ := h13.2 rfl
          refine hI.step hmr0 (by omega) hmn0 (by omega) hws0 (hG.1.but _) hG.2 ?_
          rw [hN, better_ge hyes ho hlt2]
          exact hnW7.mono (Nat.le_succ _)
        | true =>
          have htk := h13.1 rfl
          clear h13
          simp only [if_true]
          have hkN := (hkW.trans hG.2).2 _ _ hbN
          have hBb0 := hBb.1
          have hBb2 := hBb.2.2.1
          have hBw1 := hBw.2.1
          have hx0' := hG.2.2 _ _ hx0
          have hx1' := hG.2.2 _ _ hx1
          have hx2' := hG.2.2 _ _ hx2
          obtain ⟨DN, hDN, hEN⟩ := hnW7
          have hput : better R first.data.toList ch N (lk l (i, f, t)) = PortMath.put N (cl l i t).f0.data.toList ((cl l i t).f2, y.2 ++ [⟨(i : Nat), (f : Nat), (t : Nat)⟩]) := by
            cases hN2 : N (cl l i t).f0.data.toList with
            | none => exact better_new hyes hN2
            | some o => exact better_lt hyes hN2 (htk o hN2)
          clear hyes htk hz
          obtain ⟨i0, hi, hz0, hz1, hz2⟩ := info_parts infoC30
          refine region_round (S := CK W9) (K := _) (by kernel_rfl) (nodefer_of (by kernel_rfl)) (fun _ _ h => h) ?_
          have hS : CK W9 W9.drew := ck_drew W9
          refine wpAnyH_take (i := 0) (v := ?hv21) rfl (by kernel_rfl) (by kernel_rfl) (by kernel_rfl) (fun _ _ _ h => h) (Or.inl ⟨by rfl, ?hy21⟩) (by assumption) ?rest21
          case hy21 => (intro w' hS'; have e0 := hS'.2 _ _ hkN; go_simp; with_reducible rfl)
          refine wpAnyH_take (i := 1) (v := ?hv22) rfl (by kernel_rfl) (by kernel_rfl) (by kernel_rfl) (fun _ _ _ h => h) (Or.inl ⟨by rfl, ?hy22⟩) (by assumption) ?rest22
          case hy22 => (intro w' hS'; go_simp; with_reducible rfl)
          refine wpAnyH_take (i := 2) (v := ?hv23) rfl (by kernel_rfl) (by kernel_rfl) (by kernel_rfl) (fun _ _ _ h => h) (Or.inl ⟨by rfl, ?hy23⟩) (by assumption) ?rest23
          case hy23 => (intro w' hS'; have e0 := hS'.2 _ _ hBb0; go_simp; with_reducible rfl)
          refine wpAnyH_take (i := 3) (v := ?hv24) rfl (by kernel_rfl) (by kernel_rfl) (by kernel_rfl) (fun _ _ _ h => h) (Or.inl ⟨by rfl, ?hy24⟩) (by assumption) ?rest24
          case hy24 => (intro w' hS'; go_simp; with_reducible rfl)
          refine wpAnyH_take (i := 4) (v := ?hv25) rfl (by kernel_rfl) (by kernel_rfl) (by kernel_rfl) (fun _ _ _ h => h) (Or.inl ⟨by rfl, ?hy25⟩) (by assumption) ?rest25
          case hy25 => (intro w' hS'; have e0 := hS'.2 _ _ hBb2; go_simp; with_reducible rfl)
          refine wpAnyH_take (i := 5) (v := ?hv26) rfl (by kernel_rfl) (by kernel_rfl) (by kernel_rfl) (fun _ _ _ h => h) (Or.inl ⟨by rfl, ?hy26⟩) (by assumption) ?rest26
          case hy26 => (intro w' hS'; go_simp; with_reducible rfl)
          refine wpAnyH_take (i := 6) (v := ?hv27) rfl (by kernel_rfl) (by kernel_rfl) (by kernel_rfl) (fun _ _ _ h => h) (Or.inl ⟨by rfl, ?hy27⟩) (by assumption) ?rest27
          case hy27 => (intro w' hS'; have e0 := hS'.2 _ _ hBw1; go_simp; with_reducible rfl)
          refine wpAnyH_take (i := 8) (v := ?hv28) rfl (by kernel_rfl) (by kernel_rfl) (by kernel_rfl) (fun _ _ _ h => h) (Or.inl ⟨by rfl, ?hy28⟩) (by assumption) ?rest28
          case hy28 => (intro w' hS'; have e0 := hS'.2 _ _ hx0'; have e1 := hS'.2 _ _ hx1'; have e2 := hS'.2 _ _ hx2'; go_simp; with_reducible rfl)
          refine wpAnyH_all (rs := [7, 9]) (by kernel_rfl) (by simp) ?_
          intro j hj
          simp only [List.mem_cons, List.not_mem_nil, or_false] at hj
          rcases hj with rfl | rfl
          · refine wpOp_step rfl (fun K' hK' => ?_)
            go_simp
            refine (clone_own Aw cw y.2 _ (C30_ck hBw.2.2.1 (ck_drew _)) hyl).mono ?_
            rintro e w1 ⟨v', news, rfl, hown, hreps, hb1⟩
            have hG1 : GC W9 w1 := (GC.drew W9).t (gc_of (below_grown hb1))
            simp only []
            refine hK' _ _ ⟨hG1.2, ?_⟩
            clear hK' K'
            refine wpAnyH_all (rs := [9]) (by kernel_rfl) (by simp) ?_
            intro j hj
            obtain rfl := List.mem_singleton.1 hj
            refine wpOp_step rfl (fun K' hK' => ?_)
            go_simp
            refine hK' _ _ ⟨hG1.2.trans (ck_alloc _ _), ?_⟩
            clear hK' K'
            have hGF := hG1.t (GC.alloc w1 (Obj.cells #[.int .i64 (i : Nat), .int .i64 (f : Nat), .int .i64 (t : Nat)] 30))
            have hcF : ∀ (j : Nat) (u : Value), [Value.int .i64 (i : Nat), .int .i64 (f : Nat), .int .i64 (t : Nat)][j]? = some u → (w1.alloc (Obj.cells #[.int .i64 (i : Nat), .int .i64 (f : Nat), .int .i64 (t : Nat)] 30)).cell? ((⟨w1.heap.size, 0, none⟩ : Addr).add j) = some u := cells3_new _ _ _ _
            have hownF := hown.alloc (Obj.cells #[.int .i64 (i : Nat), .int .i64 (f : Nat), .int .i64 (t : Nat)] 30)
            refine wpAnyH_all (rs := [10]) (by kernel_rfl) (by simp) ?_
            intro j hj
            obtain rfl := List.mem_singleton.1 hj
            refine wpOp_list (ops' := #[]) rfl (by rfl) (by rfl) ?_
            refine wpList_append_own _ rfl _ _ 23 rfl W9.heap.size 30 i0 _ 3 24 Tryd.underlying23 hi hz0 hz1 hz2 rfl (by decide) v' _ news rfl hownF ⟨w1.heap.size, 0, none⟩ 1 1 [.int .i64 (i : Nat), .int .i64 (f : Nat), .int .i64 (t : Nat)] rfl rfl hcF (by simp [Value.oneCell']) (by unfold maxLen; omega) (by omega) hGF.1.size ?_
            intro v2 w3 hown3 hg3 _
            have hG3 : GC W9 w3 := gc_own hGF hg3 (fun k hk => ownBlock_le hownF hk)
            have hreps3 : Reps (k30.K w3) 3 (y.2 ++ [⟨(i : Nat), (f : Nat), (t : Nat)⟩]) (news ++ [.int .i64 (i : Nat), .int .i64 (f : Nat), .int .i64 (t : Nat)]) := (hreps.imp_ (fun x cs hk => by rw [k30_open hk]; exact k30_mk w3 x)).snoc (k30_mk w3 ⟨(i : Nat), (f : Nat), (t : Nat)⟩) rfl
            have hown3' : w3.ownsRow W9.heap.size 30 3 v2 (y.2 ++ [(⟨(i : Nat), (f : Nat), (t : Nat)⟩ : S30)]).length (news ++ [.int .i64 (i : Nat), .int .i64 (f : Nat), .int .i64 (t : Nat)]) := by
              rw [List.length_append]; exact hown3
            obtain ⟨A2, c2, rfl, hc2, hC2⟩ := OwnRow.reads (R := k30.K w3) ⟨_, hown3', hreps3⟩
            have hC3 : Kd.C k30 w3 A2 (y.2 ++ [(⟨(i : Nat), (f : Nat), (t : Nat)⟩ : S30)]).length (y.2 ++ [(⟨(i : Nat), (f : Nat), (t : Nat)⟩ : S30)]) := hC2
            refine ⟨hG3.2, ?_⟩
            refine wpAnyH_all (rs := [11]) (by kernel_rfl) (by simp) ?_
            intro j hj
            obtain rfl := List.mem_singleton.1 hj
            refine wpOp_step rfl (fun K' hK' => ?_)
            go_simp
            refine hK' _ _ ⟨hG3.2, ?_⟩
            clear hK' K'
            refine wpAnyH_all (rs := [12]) (by kernel_rfl) (by simp) ?_
            intro j hj
            obtain rfl := List.mem_singleton.1 hj
            refine wpOp_list (ops' := #[]) rfl (by rfl) (by rfl) ?_
            have hDN3 := owns_same hDN (hG3.1.block _ hDN.lt (by simp))
            refine wpList_mapUpdate_own _ rfl _ _ _ 46 rfl 9 45 K9 Tryd.underlying46 Rw (w.heap.size + 1 + 1 + 1 + 1) pre.length DN rfl hDN3 (by unfold maxLen; omega) _ _ _ rfl rfl hkb (.held (wv (cl l i t).f2 A2 (y.2.length + 1) c2)) [] rfl ?_
            intro w4 hown4 hg4
            have hL : y.2.length + 1 = (y.2 ++ [(⟨(i : Nat), (f : Nat), (t : Nat)⟩ : S30)]).length := by simp
            rw [hL] at hown4
            have hk4 : CK w3 w4 := CK.grown hg4 (fun r e => by cases e; exact (MapW.row ⟨DN, hDN3, fun q => (hEN q).ck hG3.2⟩))
            refine ⟨hG3.2.trans hk4, ?_⟩
            refine wpAnyH_done (by kernel_rfl) ?_ _
            refine hI.step hmr0 (by omega) hmn0 (by omega) hws0 (but_t (hG.t hG3).1 hg4) ((hG.2.trans hG3.2).trans hk4) ?_
            rw [hN, hput]
            exact mapW_put (s := (cl l i t).f0) (y := ((cl l i t).f2, y.2 ++ [⟨(i : Nat), (f : Nat), (t : Nat)⟩])) (name_len hnb.1) hDN.isMap (fun q => ((hEN q).ck hG3.2).ck hk4) hown4 (CK.refl _) (C30_ck hC3 hk4) hc2
          · refine wpOp_step rfl (fun K' hK' => ?_)
            go_simp
            refine hK' _ _ ⟨hS.trans (ck_alloc _ _), ?_⟩
            clear hK' K'
            refine wpAnyH_all (rs := [7]) (by kernel_rfl) (by simp) ?_
            intro j hj
            obtain rfl := List.mem_singleton.1 hj
            refine wpOp_step rfl (fun K' hK' => ?_)
            go_simp
            refine (clone_own Aw cw y.2 _ (C30_ck hBw.2.2.1 ((ck_alloc W9 (Obj.cells #[.int .i64 (i : Nat), .int .i64 (f : Nat), .int .i64 (t : Nat)] 30)).trans (ck_drew _))) hyl).mono ?_
            rintro e w1 ⟨v', news, rfl, hown, hreps, hb1⟩
            have hG1 : GC W9 w1 := ((GC.alloc W9 (Obj.cells #[.int .i64 (i : Nat), .int .i64 (f : Nat), .int .i64 (t : Nat)] 30)).t (GC.drew _)).t (gc_of (below_grown hb1))
            simp only []
            refine hK' _ _ ⟨hG1.2, ?_⟩
            clear hK' K'
            have hGF := hG1
            have hcF : ∀ (j : Nat) (u : Value), [Value.int .i64 (i : Nat), .int .i64 (f : Nat), .int .i64 (t : Nat)][j]? = some u → w1.cell? ((⟨W9.heap.size, 0, none⟩ : Addr).add j) = some u := fun j u hu => (CK.below hb1).2 _ _ (cells3_new W9 _ _ _ j u hu)
            have hownF : w1.ownsRow W9.heap.size 30 3 v' y.2.length news := own_mono hown (by simp)
            refine wpAnyH_all (rs := [10]) (by kernel_rfl) (by simp) ?_
            intro j hj
            obtain rfl := List.mem_singleton.1 hj
            refine wpOp_list (ops' := #[]) rfl (by rfl) (by rfl) ?_
            refine wpList_append_own _ rfl _ _ 23 rfl W9.heap.size 30 i0 _ 3 24 Tryd.underlying23 hi hz0 hz1 hz2 rfl (by decide) v' _ news rfl hownF ⟨W9.heap.size, 0, none⟩ 1 1 [.int .i64 (i : Nat), .int .i64 (f : Nat), .int .i64 (t : Nat)] rfl rfl hcF (by simp [Value.oneCell']) (by unfold maxLen; omega) (by omega) hGF.1.size ?_
            intro v2 w3 hown3 hg3 _
            have hG3 : GC W9 w3 := gc_own hGF hg3 (fun k hk => ownBlock_le hownF hk)
            have hreps3 : Reps (k30.K w3) 3 (y.2 ++ [⟨(i : Nat), (f : Nat), (t : Nat)⟩]) (news ++ [.int .i64 (i : Nat), .int .i64 (f : Nat), .int .i64 (t : Nat)]) := (hreps.imp_ (fun x cs hk => by rw [k30_open hk]; exact k30_mk w3 x)).snoc (k30_mk w3 ⟨(i : Nat), (f : Nat), (t : Nat)⟩) rfl
            have hown3' : w3.ownsRow W9.heap.size 30 3 v2 (y.2 ++ [(⟨(i : Nat), (f : Nat), (t : Nat)⟩ : S30)]).length (news ++ [.int .i64 (i : Nat), .int .i64 (f : Nat), .int .i64 (t : Nat)]) := by
              rw [List.length_append]; exact hown3
            obtain ⟨A2, c2, rfl, hc2, hC2⟩ := OwnRow.reads (R := k30.K w3) ⟨_, hown3', hreps3⟩
            have hC3 : Kd.C k30 w3 A2 (y.2 ++ [(⟨(i : Nat), (f : Nat), (t : Nat)⟩ : S30)]).length (y.2 ++ [(⟨(i : Nat), (f : Nat), (t : Nat)⟩ : S30)]) := hC2
            refine ⟨hG3.2, ?_⟩
            refine wpAnyH_all (rs := [11]) (by kernel_rfl) (by simp) ?_
            intro j hj
            obtain rfl := List.mem_singleton.1 hj
            refine wpOp_step rfl (fun K' hK' => ?_)
            go_simp
            refine hK' _ _ ⟨hG3.2, ?_⟩
            clear hK' K'
            refine wpAnyH_all (rs := [12]) (by kernel_rfl) (by simp) ?_
            intro j hj
            obtain rfl := List.mem_singleton.1 hj
            refine wpOp_list (ops' := #[]) rfl (by rfl) (by rfl) ?_
            have hDN3 := owns_same hDN (hG3.1.block _ hDN.lt (by simp))
            refine wpList_mapUpdate_own _ rfl _ _ _ 46 rfl 9 45 K9 Tryd.underlying46 Rw (w.heap.size + 1 + 1 + 1 + 1) pre.length DN rfl hDN3 (by unfold maxLen; omega) _ _ _ rfl rfl hkb (.held (wv (cl l i t).f2 A2 (y.2.length + 1) c2)) [] rfl ?_
            intro w4 hown4 hg4
            have hL : y.2.length + 1 = (y.2 ++ [(⟨(i : Nat), (f : Nat), (t : Nat)⟩ : S30)]).length := by simp
            rw [hL] at hown4
            have hk4 : CK w3 w4 := CK.grown hg4 (fun r e => by cases e; exact (MapW.row ⟨DN, hDN3, fun q => (hEN q).ck hG3.2⟩))
            refine ⟨hG3.2.trans hk4, ?_⟩
            refine wpAnyH_done (by kernel_rfl) ?_ _
            refine hI.step hmr0 (by omega) hmn0 (by omega) hws0 (but_t (hG.t hG3).1 hg4) ((hG.2.trans hG3.2).trans hk4) ?_
            rw [hN, hput]
            exact mapW_put (s := (cl l i t).f0) (y := ((cl l i t).f2, y.2 ++ [⟨(i : Nat), (f : Nat), (t : Nat)⟩])) (name_len hnb.1) hDN.isMap (fun q => ((hEN q).ck hG3.2).ck hk4) hown4 (CK.refl _) (C30_ck hC3 hk4) hc2
  case done =>
    rintro D ys W hD hys ⟨h1, h2, h3, h4⟩ hK
    have cS := h1.2 _ _ hbN
    gi_wp2
    refine ⟨by simp, .inl ⟨_, _, rfl, run_takeDeferred hK, ?_⟩⟩
    refine ⟨_, results_tmp rfl _ _ _, _, rfl, by omega, ?_, ?_⟩
    · have h5 := h3.same (W' := W.putObj D (.deferred none)) ((grownBy_putObj' W D _).block _ h3.lt (fun e => by cases e; omega)) (CK.grown (grownBy_putObj' W D _) (fun r e => by cases e; exact ⟨_, hK, rfl⟩))
      rw [fold_all l R first.data.toList ch ys hys] at h5
      exact h5.mono (xs_len l ys hl hys)
    · exact h4.grown (grownBy_putObj' W D _) (by have := h1.1; omega) (fun k e => by cases e; omega)
  case stop =>
    rintro D c pre W _ _ h _
    exact h.elim
end Go.Proofs.YtbojieeildhlcaaDoor.Port
