/- The earliest way over legs, plain: what the rounds reach is just what ways reach. -/
namespace Go.Proofs.YtbojieeildhlcaaDoor.PortMath
set_option linter.unusedSectionVars false
variable {K ι : Type} [DecidableEq K]

/-- A leg: its name, where it begins, until when one may come, where it ends, and when. -/
structure Lk (K ι : Type) where
  id : ι
  a : K
  cut : Int
  b : K
  arr : Int
/-- What was reached: when, and by which legs. -/
abbrev Rc (K ι : Type) := K → Option (Int × List ι)
/-- When one is ready at a port. -/
def rdy (first : K) (ch : Int) (p : K) (d : Int) : Int := if p = first then d else d + ch
/-- What a leg offers. -/
def cand (R : Rc K ι) (first : K) (ch : Int) (x : Lk K ι) : Option (Int × List ι) :=
  match R x.a with
  | none => none
  | some w =>
    if x.cut < rdy first ch x.a w.1 then none
    else if x.b = first then none
    else match R x.b with
      | none => some (x.arr, w.2 ++ [x.id])
      | some o => if o.1 ≤ x.arr then none else some (x.arr, w.2 ++ [x.id])
def put (N : Rc K ι) (k : K) (y : Int × List ι) : Rc K ι := fun q => if q = k then some y else N q
def better (R : Rc K ι) (first : K) (ch : Int) (N : Rc K ι) (x : Lk K ι) : Rc K ι :=
  match cand R first ch x with
  | none => N
  | some y => match N x.b with
    | none => put N x.b y
    | some o => if y.1 < o.1 then put N x.b y else N
def roundR (R : Rc K ι) (first : K) (ch : Int) (L : List (Lk K ι)) : Rc K ι := L.foldl (better R first ch) (fun _ => none)
def merge (R N : Rc K ι) : Rc K ι := fun q => match N q with | some y => some y | none => R q
def iter (R : Rc K ι) (first : K) (ch : Int) (L : List (Lk K ι)) : Nat → Rc K ι
  | 0 => R
  | k + 1 => merge (iter R first ch L k) (roundR (iter R first ch L k) first ch L)
def start (first : K) (ready : Int) : Rc K ι := fun q => if q = first then some (ready, []) else none

theorem put_same (N : Rc K ι) (k : K) (y : Int × List ι) : put N k y k = some y := if_pos rfl
theorem put_other (N : Rc K ι) {k q : K} (y : Int × List ι) (h : q ≠ k) : put N k y q = N q := if_neg h
theorem cand_end {R : Rc K ι} {first : K} {ch : Int} {x : Lk K ι} {y : Int × List ι} (h : cand R first ch x = some y) :
    x.b ≠ first ∧ y.1 = x.arr ∧ ∃ w, R x.a = some w ∧ rdy first ch x.a w.1 ≤ x.cut ∧ y.2 = w.2 ++ [x.id] ∧ ∀ o, R x.b = some o → x.arr < o.1 := by
  unfold cand at h
  split at h
  · cases h
  · rename_i w hw
    split at h
    · cases h
    · rename_i hc
      split at h
      · cases h
      · rename_i hb
        split at h
        · rename_i hn
          cases h
          exact ⟨hb, rfl, w, hw, by omega, rfl, fun o ho => by rw [hn] at ho; cases ho⟩
        · rename_i o ho
          split at h
          · cases h
          · rename_i hl
            cases h
            exact ⟨hb, rfl, w, hw, by omega, rfl, fun o' ho' => by rw [ho] at ho'; cases ho'; omega⟩
/-- What a leg offers, or why not. -/
theorem cand_or {R : Rc K ι} {first : K} {ch : Int} {x : Lk K ι} {w : Int × List ι} (hw : R x.a = some w) (hc : rdy first ch x.a w.1 ≤ x.cut) (hb : x.b ≠ first) :
    (∃ y, cand R first ch x = some y ∧ y.1 = x.arr) ∨ ∃ o, R x.b = some o ∧ o.1 ≤ x.arr := by
  unfold cand
  rw [hw]
  simp only [if_neg (show ¬ x.cut < rdy first ch x.a w.1 by omega), if_neg hb]
  cases ho : R x.b with
  | none => exact .inl ⟨_, rfl, rfl⟩
  | some o =>
    by_cases h : o.1 ≤ x.arr
    · exact .inr ⟨o, rfl, h⟩
    · exact .inl ⟨(x.arr, w.2 ++ [x.id]), by simp only [if_neg h], rfl⟩
theorem better_none {R : Rc K ι} {first : K} {ch : Int} {N : Rc K ι} {x : Lk K ι} (h : cand R first ch x = none) : better R first ch N x = N := by
  unfold better; rw [h]
theorem better_new {R : Rc K ι} {first : K} {ch : Int} {N : Rc K ι} {x : Lk K ι} {y : Int × List ι} (h : cand R first ch x = some y) (hn : N x.b = none) : better R first ch N x = put N x.b y := by
  unfold better; rw [h]; simp only; rw [hn]
theorem better_lt {R : Rc K ι} {first : K} {ch : Int} {N : Rc K ι} {x : Lk K ι} {y o : Int × List ι} (h : cand R first ch x = some y) (hn : N x.b = some o) (hl : y.1 < o.1) : better R first ch N x = put N x.b y := by
  unfold better; rw [h]; simp only; rw [hn]; exact if_pos hl
theorem better_ge {R : Rc K ι} {first : K} {ch : Int} {N : Rc K ι} {x : Lk K ι} {y o : Int × List ι} (h : cand R first ch x = some y) (hn : N x.b = some o) (hl : ¬ y.1 < o.1) : better R first ch N x = N := by
  unfold better; rw [h]; simp only; rw [hn]; exact if_neg hl
/-- What one leg leaves of what was reached in a round. -/
theorem better_ways (R : Rc K ι) (first : K) (ch : Int) (N : Rc K ι) (x : Lk K ι) : better R first ch N x = N ∨ ∃ y, cand R first ch x = some y ∧ better R first ch N x = put N x.b y ∧ ∀ o, N x.b = some o → y.1 < o.1 := by
  cases hc : cand R first ch x with
  | none => exact .inl (better_none hc)
  | some y =>
    obtain ⟨q, hn⟩ : ∃ q, N x.b = q := ⟨_, rfl⟩
    cases q with
    | none => exact .inr ⟨y, rfl, better_new hc hn, fun o ho => by rw [hn] at ho; cases ho⟩
    | some o =>
      by_cases hl : y.1 < o.1
      · exact .inr ⟨y, rfl, better_lt hc hn hl, fun o' ho => by rw [hn] at ho; cases ho; exact hl⟩
      · exact .inl (better_ge hc hn hl)
theorem better_sound {R : Rc K ι} {first : K} {ch : Int} {N : Rc K ι} {x : Lk K ι} {q : K} {y : Int × List ι} (h : better R first ch N x q = some y) : N q = some y ∨ (x.b = q ∧ cand R first ch x = some y) := by
  rcases better_ways R first ch N x with e | ⟨z, hz, e, _⟩
  · rw [e] at h; exact .inl h
  · rw [e] at h
    by_cases c : q = x.b
    · subst c
      rw [put_same] at h
      cases h
      exact .inr ⟨rfl, hz⟩
    · rw [put_other _ _ c] at h
      exact .inl h
theorem better_keeps {R : Rc K ι} {first : K} {ch : Int} {N : Rc K ι} (x : Lk K ι) {q : K} {o : Int × List ι} (h : N q = some o) : ∃ o', better R first ch N x q = some o' ∧ o'.1 ≤ o.1 := by
  rcases better_ways R first ch N x with e | ⟨z, hz, e, hl⟩
  · rw [e]; exact ⟨o, h, Int.le_refl _⟩
  · rw [e]
    by_cases c : q = x.b
    · subst c
      have := hl o h
      exact ⟨z, put_same .., by omega⟩
    · exact ⟨o, by rw [put_other _ _ c]; exact h, Int.le_refl _⟩
theorem better_has {R : Rc K ι} {first : K} {ch : Int} {N : Rc K ι} {x : Lk K ι} {y : Int × List ι} (h : cand R first ch x = some y) : ∃ o, better R first ch N x x.b = some o ∧ o.1 ≤ y.1 := by
  obtain ⟨q, hn⟩ : ∃ q, N x.b = q := ⟨_, rfl⟩
  cases q with
  | none => exact ⟨y, by rw [better_new h hn, put_same], Int.le_refl _⟩
  | some o =>
    by_cases hl : y.1 < o.1
    · exact ⟨y, by rw [better_lt h hn hl, put_same], Int.le_refl _⟩
    · exact ⟨o, by rw [better_ge h hn hl, hn], by omega⟩
theorem fold_sound {R : Rc K ι} {first : K} {ch : Int} : ∀ (L : List (Lk K ι)) (N : Rc K ι) {q : K} {y : Int × List ι}, L.foldl (better R first ch) N q = some y → N q = some y ∨ ∃ x, x ∈ L ∧ x.b = q ∧ cand R first ch x = some y
  | [], N, q, y, h => .inl h
  | x :: L, N, q, y, h => by
    rcases fold_sound L _ h with h | ⟨z, hz, h1⟩
    · rcases better_sound h with h | h
      · exact .inl h
      · exact .inr ⟨x, List.mem_cons_self .., h⟩
    · exact .inr ⟨z, List.mem_cons_of_mem _ hz, h1⟩
theorem fold_keeps {R : Rc K ι} {first : K} {ch : Int} : ∀ (L : List (Lk K ι)) (N : Rc K ι) {q : K} {o : Int × List ι}, N q = some o → ∃ o', L.foldl (better R first ch) N q = some o' ∧ o'.1 ≤ o.1
  | [], N, q, o, h => ⟨o, h, Int.le_refl _⟩
  | x :: L, N, q, o, h => by
    obtain ⟨o1, h1, hl1⟩ := better_keeps x h
    obtain ⟨o2, h2, hl2⟩ := fold_keeps L _ h1
    exact ⟨o2, h2, by omega⟩
theorem fold_has {R : Rc K ι} {first : K} {ch : Int} : ∀ (L : List (Lk K ι)) (N : Rc K ι) {x : Lk K ι} {y : Int × List ι}, x ∈ L → cand R first ch x = some y → ∃ o, L.foldl (better R first ch) N x.b = some o ∧ o.1 ≤ y.1
  | z :: L, N, x, y, hx, h => by
    rcases List.mem_cons.1 hx with e | hx
    · subst e
      obtain ⟨o1, h1, hl1⟩ := better_has (N := N) h
      obtain ⟨o2, h2, hl2⟩ := fold_keeps L _ h1
      exact ⟨o2, h2, by omega⟩
    · exact fold_has L _ hx h

/-- What ways there are: of so many legs, to a port, at a day; none but the first port's begin comes back to it. -/
inductive Way (L : List (Lk K ι)) (first : K) (ready ch : Int) : Nat → K → Int → Prop
  | one {x : Lk K ι} : x ∈ L → x.a = first → ready ≤ x.cut → x.b ≠ first → Way L first ready ch 1 x.b x.arr
  | more {x : Lk K ι} {j : Nat} {d : Int} : Way L first ready ch j x.a d → x ∈ L → d + ch ≤ x.cut → x.b ≠ first → Way L first ready ch (j + 1) x.b x.arr
theorem Way.ne {L : List (Lk K ι)} {first : K} {ready ch : Int} {j : Nat} {q : K} {d : Int} (h : Way L first ready ch j q d) : q ≠ first := by cases h <;> assumption
theorem Way.pos {L : List (Lk K ι)} {first : K} {ready ch : Int} {j : Nat} {q : K} {d : Int} (h : Way L first ready ch j q d) : 1 ≤ j := by cases h <;> omega
theorem Way.mono {L L' : List (Lk K ι)} {first : K} {ready ch ready' ch' : Int} (hL : ∀ x, x ∈ L → x ∈ L') (hr : ready' ≤ ready) (hc : ch' ≤ ch) {j : Nat} {q : K} {d : Int} (h : Way L first ready ch j q d) : Way L' first ready' ch' j q d := by
  induction h with
  | one h1 h2 h3 h4 => exact .one (hL _ h1) h2 (by omega) h4
  | more _ h1 h2 h3 ih => exact .more ih (hL _ h1) (by omega) h3

section
variable {L : List (Lk K ι)} {first : K} {ready ch : Int}
theorem iter_first (k : Nat) : iter (start first ready) first ch L k first = some (ready, []) := by
  induction k with
  | zero => exact if_pos rfl
  | succ k ih =>
    unfold iter merge
    cases h : roundR (iter (start first ready) first ch L k) first ch L first with
    | none => exact ih
    | some y =>
      rcases fold_sound L _ h with h | ⟨x, _, hb, hc⟩
      · cases h
      · exact absurd hb (cand_end hc).1
/-- Whatever was reached, a way reaches. -/
theorem iter_sound (k : Nat) : ∀ (q : K) (y : Int × List ι), iter (start first ready) first ch L k q = some y → y.2.length ≤ k ∧ (q = first ∨ ∃ j, j ≤ k ∧ Way L first ready ch j q y.1) := by
  induction k with
  | zero =>
    intro q y h
    unfold iter start at h
    split at h
    · cases h; exact ⟨Nat.zero_le _, .inl (by assumption)⟩
    · cases h
  | succ k ih =>
    intro q y h
    have he : iter (start first ready) first ch L (k + 1) q = merge (iter (start first ready) first ch L k) (roundR (iter (start first ready) first ch L k) first ch L) q := rfl
    rw [he] at h
    unfold merge at h
    cases hn : roundR (iter (start first ready) first ch L k) first ch L q with
    | none =>
      rw [hn] at h
      obtain ⟨h1, h2⟩ := ih q y h
      exact ⟨by omega, h2.imp id (fun ⟨j, a, b⟩ => ⟨j, by omega, b⟩)⟩
    | some z =>
      rw [hn] at h
      cases h
      rcases fold_sound L _ hn with h | ⟨x, hx, hb, hc⟩
      · cases h
      · obtain ⟨hbf, ha, w, hw, hcut, hl, _⟩ := cand_end hc
        obtain ⟨h1, h2⟩ := ih x.a w hw
        subst hb
        refine ⟨by rw [hl, List.length_append]; simpa using h1, .inr ?_⟩
        rw [ha]
        by_cases hf : x.a = first
        · rw [hf, iter_first] at hw
          cases hw
          unfold rdy at hcut
          rw [if_pos hf] at hcut
          exact ⟨1, by omega, .one hx hf hcut hbf⟩
        · rcases h2 with h2 | ⟨j, hj, hway⟩
          · exact absurd h2 hf
          · unfold rdy at hcut
            rw [if_neg hf] at hcut
            exact ⟨j + 1, by omega, .more hway hx hcut hbf⟩
theorem iter_step {R : Rc K ι} {k : Nat} {q : K} {o : Int × List ι} (h : iter R first ch L k q = some o) : ∃ o', iter R first ch L (k + 1) q = some o' ∧ (o' = o ∨ o'.1 < o.1) := by
  have he : iter R first ch L (k + 1) q = merge (iter R first ch L k) (roundR (iter R first ch L k) first ch L) q := rfl
  rw [he]
  unfold merge
  cases hn : roundR (iter R first ch L k) first ch L q with
  | none => exact ⟨o, h, .inl rfl⟩
  | some z =>
    refine ⟨z, rfl, .inr ?_⟩
    rcases fold_sound L _ hn with h1 | ⟨x, hx, hb, hc⟩
    · cases h1
    · obtain ⟨_, ha, w, hw, _, _, hlt⟩ := cand_end hc
      rw [hb] at hlt
      rw [ha]
      exact hlt o h
theorem iter_later {R : Rc K ι} {k : Nat} {q : K} {o : Int × List ι} (h : iter R first ch L k q = some o) (m : Nat) : ∃ o', iter R first ch L (k + m) q = some o' ∧ (o' = o ∨ o'.1 < o.1) := by
  induction m with
  | zero => exact ⟨o, h, .inl rfl⟩
  | succ m ih =>
    obtain ⟨o1, h1, hl1⟩ := ih
    obtain ⟨o2, h2, hl2⟩ := iter_step h1
    refine ⟨o2, h2, ?_⟩
    rcases hl1 with rfl | hl1
    · exact hl2
    · rcases hl2 with rfl | hl2
      · exact .inr hl1
      · exact .inr (by omega)
/-- Whatever a way reaches, was reached, no later. -/
theorem iter_complete {j : Nat} {q : K} {d : Int} (h : Way L first ready ch j q d) : ∃ o, iter (start first ready) first ch L j q = some o ∧ o.1 ≤ d := by
  have last : ∀ (k : Nat) (x : Lk K ι) (w : Int × List ι), x ∈ L → iter (start first ready) first ch L k x.a = some w → rdy first ch x.a w.1 ≤ x.cut → x.b ≠ first → ∃ o, iter (start first ready) first ch L (k + 1) x.b = some o ∧ o.1 ≤ x.arr := by
    intro k x w hx hw hc hb
    rcases cand_or hw hc hb with ⟨y, hy, ha⟩ | ⟨o, ho, hl⟩
    · obtain ⟨o, ho, hl⟩ := fold_has (R := iter (start first ready) first ch L k) (first := first) (ch := ch) L (fun _ => none) hx hy
      refine ⟨o, ?_, by omega⟩
      show merge _ _ x.b = some o
      unfold merge roundR
      rw [ho]
    · obtain ⟨o', h', hl'⟩ := iter_step ho
      refine ⟨o', h', ?_⟩
      rcases hl' with rfl | hl'
      · exact hl
      · omega
  induction h with
  | @one x h1 h2 h3 h4 =>
    refine last 0 x (ready, []) h1 (if_pos h2) ?_ h4
    unfold rdy
    rw [if_pos h2]
    exact h3
  | @more x j d hw h1 h2 h3 ih =>
    obtain ⟨o, ho, hl⟩ := ih
    refine last j x o h1 ho ?_ h3
    unfold rdy
    rw [if_neg hw.ne]
    omega
/-- Of any way of so many legs none is earlier, nor, with it, of fewer legs. -/
theorem iter_best {j k : Nat} {q : K} {d : Int} (h : Way L first ready ch j q d) (hj : j ≤ k) : ∃ o, iter (start first ready) first ch L k q = some o ∧ (o.1 < d ∨ (o.1 = d ∧ o.2.length ≤ j)) := by
  obtain ⟨o, ho, hl⟩ := iter_complete h
  obtain ⟨hlen, _⟩ := iter_sound j q o ho
  obtain ⟨m, rfl⟩ : ∃ m, k = j + m := ⟨k - j, by omega⟩
  obtain ⟨o', h', hl'⟩ := iter_later ho m
  refine ⟨o', h', ?_⟩
  rcases hl' with rfl | hl'
  · rcases Int.lt_or_eq_of_le hl with h | h
    · exact .inl h
    · exact .inr ⟨h, hlen⟩
  · exact .inl (by omega)
/-- A round that reaches nothing: all rounds behind it reach nothing more. -/
theorem iter_stops {R : Rc K ι} {k : Nat} (h : roundR (iter R first ch L k) first ch L = fun _ => none) (m : Nat) : iter R first ch L (k + m) = iter R first ch L k := by
  induction m with
  | zero => rfl
  | succ m ih =>
    show merge (iter R first ch L (k + m)) (roundR (iter R first ch L (k + m)) first ch L) = _
    rw [ih, h]
    rfl
end
end Go.Proofs.YtbojieeildhlcaaDoor.PortMath
