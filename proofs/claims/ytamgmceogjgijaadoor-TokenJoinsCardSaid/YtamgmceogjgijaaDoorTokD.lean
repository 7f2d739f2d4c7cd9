/- Where a token stands does not matter; texts set one behind the other; a token alone. -/
import Derived.Test.YtamgmceogjgijaaDoorTokC
namespace Go.Proofs.YtamgmceogjgijaaDoor.Tok
open Go.RowKit Go.Proofs.YtamgmceogjgijaaDoorW.PrintWords Go.Proofs.YtamgmceogjgijaaDoorW.PrintLast Go.Proofs.YtamgmceogjgijaaDoorW.PrintMore Go.Proofs.YtamgmceogjgijaaDoor.G Go.Proofs.YtamgmceogjgijaaDoor.Ext
set_option linter.unusedVariables false
set_option linter.unusedSimpArgs false

theorem tok_run {s : ByteArray} {j e : Nat} (hr : runI (bt s j) = true) (he : spanN runI s j (s.size - j) = e) : tokAt s j = ⟨(runS (s.extract j e)).1, s.extract j e, e, (runS (s.extract j e)).2⟩ := by unfold tokAt; rw [if_pos hr, he]
theorem tok_cap {s : ByteArray} {j e : Nat} (hr : runI (bt s j) = false) (hc : capI (bt s j) = true) (he : spanN capI s j (s.size - j) = e) : tokAt s j = if e = j + 3 then ⟨4, s.extract j (j + 3), j + 3, 0⟩ else bad 2 := by unfold tokAt; rw [if_neg (by rw [hr]; simp), if_pos hc, he]
theorem tok_text {s : ByteArray} {j e : Nat} (hr : runI (bt s j) = false) (hc : capI (bt s j) = false) (hq : bt s j = 34) (he : spanN plainI s (j + 1) (s.size - (j + 1)) = e) : tokAt s j = if e < s.size ∧ bt s e = 34 then ⟨3, s.extract (j + 1) e, e + 1, 0⟩ else bad 2 := by unfold tokAt; rw [if_neg (by rw [hr]; simp), if_neg (by rw [hc]; simp), if_pos hq, he]
theorem tok_sign {s : ByteArray} {j : Nat} (hr : runI (bt s j) = false) (hc : capI (bt s j) = false) (hq : bt s j ≠ 34) : tokAt s j = if singleB (bt s j) = true then ⟨5, s.extract j (j + 1), j + 1, 0⟩ else if doubleB (bt s j) = true ∧ j + 1 < s.size ∧ bt s ((j + 1 : Nat) : Int) = 61 then ⟨5, s.extract j (j + 2), j + 2, 0⟩ else bad 2 := by unfold tokAt; rw [if_neg (by rw [hr]; simp), if_neg (by rw [hc]; simp), if_neg hq]

theorem span_move (q : Int → Bool) {u s : ByteArray} {p i : Nat} (hA : p + s.size ≤ u.size) (hB : ∀ k : Nat, k < s.size → bt u ((p + k : Nat) : Int) = bt s (k : Nat)) (hi : i ≤ s.size)
    (hE : spanN q s i (s.size - i) < s.size ∨ u.size = p + s.size ∨ q (bt u ((p + s.size : Nat) : Int)) = false) :
    spanN q u (p + i) (u.size - (p + i)) = p + spanN q s i (s.size - i) := by
  have hr := span_range q s (s.size - i) i
  refine span_eq q u _ (p + i) _ (by omega) (by omega) (fun k h1 h2 => ?_) (fun h => ?_)
  · obtain ⟨m, rfl⟩ : ∃ m, k = p + m := ⟨k - p, by omega⟩
    rw [hB m (by omega)]
    exact span_in q s (s.size - i) i m (by omega) (by omega)
  · rcases Nat.lt_or_ge (spanN q s i (s.size - i)) s.size with h1 | h1
    · rw [hB _ h1]
      exact span_stop q s _ i (by omega)
    · have h2 : spanN q s i (s.size - i) = s.size := by omega
      rw [h2] at h hE ⊢
      rcases hE with h3 | h3 | h3
      · omega
      · omega
      · exact h3
/-- The same token, p places further on. -/
def Mv (p : Nat) (a b : Tk) : Prop := b.kind = a.kind ∧ b.text = a.text ∧ b.err = a.err ∧ (a.err = 0 → b.fin = p + a.fin)
theorem mv_bad (p : Nat) : Mv p (bad 2) (bad 2) := ⟨rfl, rfl, rfl, fun h => by simp [bad] at h⟩
theorem blank_no {c : Int} (h : blankI c = true) : runI c = false ∧ capI c = false := by
  unfold blankI at h
  simp only [Bool.or_eq_true, beq_iff_eq] at h
  rcases h with h | h <;> (subst h; decide)
theorem ext_bt {u s : ByteArray} {p : Nat} (hA : p + s.size ≤ u.size) (hX : u.extract p (p + s.size) = s) (k : Nat) (hk : k < s.size) : bt u ((p + k : Nat) : Int) = bt s (k : Nat) := by
  have := bt_extract u p (p + s.size) k (by omega) hA
  rw [hX] at this
  exact this.symm
theorem ext_ex {u s : ByteArray} {p : Nat} (hA : p + s.size ≤ u.size) (hX : u.extract p (p + s.size) = s) (a b : Nat) (hb : b ≤ s.size) : u.extract (p + a) (p + b) = s.extract a b := by
  have := ex_ex u p (p + s.size) b (by omega) hA a
  rw [hX] at this
  exact this.symm
theorem tok_move {u s : ByteArray} {p j : Nat} (hA : p + s.size ≤ u.size) (hX : u.extract p (p + s.size) = s) (hj : j < s.size)
    (hE : u.size = p + s.size ∨ ((tokAt s j).err = 0 ∧ blankI (bt u ((p + s.size : Nat) : Int)) = true)) : Mv p (tokAt s j) (tokAt u (p + j)) := by
  have hB := ext_bt hA hX
  have hT := ext_ex hA hX
  have h0 := hB j hj
  cases hr : runI (bt s j) with
  | true =>
    obtain ⟨e, he⟩ : ∃ e, spanN runI s j (s.size - j) = e := ⟨_, rfl⟩
    have hrg := span_range runI s (s.size - j) j
    have hm := span_move runI hA hB (i := j) (by omega) (by
      rcases hE with h | h
      · exact .inr (.inl h)
      · exact .inr (.inr (blank_no h.2).1))
    rw [he] at hm hrg
    rw [tok_run hr he, tok_run (by rw [h0]; exact hr) hm, hT j e (by omega)]
    exact ⟨rfl, rfl, rfl, fun _ => rfl⟩
  | false =>
    cases hc : capI (bt s j) with
    | true =>
      obtain ⟨e, he⟩ : ∃ e, spanN capI s j (s.size - j) = e := ⟨_, rfl⟩
      have hrg := span_range capI s (s.size - j) j
      have hm := span_move capI hA hB (i := j) (by omega) (by
        rcases hE with h | h
        · exact .inr (.inl h)
        · exact .inr (.inr (blank_no h.2).2))
      rw [he] at hm hrg
      rw [tok_cap hr hc he, tok_cap (by rw [h0]; exact hr) (by rw [h0]; exact hc) hm]
      by_cases h3 : e = j + 3
      · rw [if_pos h3, if_pos (by omega), show p + j + 3 = p + (j + 3) by omega, hT j (j + 3) (by omega)]
        exact ⟨rfl, rfl, rfl, fun _ => rfl⟩
      · rw [if_neg h3, if_neg (by omega)]
        exact mv_bad p
    | false =>
      by_cases hq : bt s j = 34
      · obtain ⟨e, he⟩ : ∃ e, spanN plainI s (j + 1) (s.size - (j + 1)) = e := ⟨_, rfl⟩
        have hrg := span_range plainI s (s.size - (j + 1)) (j + 1)
        have hs := tok_text hr hc hq he
        have hm := span_move plainI hA hB (i := j + 1) (by omega) (by
          rcases hE with h | h
          · exact .inr (.inl h)
          · rw [hs] at h
            by_cases h3 : e < s.size ∧ bt s e = 34
            · exact .inl (by omega)
            · rw [if_neg h3] at h; exact absurd h.1 (by simp [bad]))
        rw [he] at hm hrg
        rw [show p + (j + 1) = p + j + 1 by omega] at hm
        rw [hs, tok_text (by rw [h0]; exact hr) (by rw [h0]; exact hc) (by rw [h0]; exact hq) hm]
        by_cases h3 : e < s.size ∧ bt s e = 34
        · rw [if_pos h3, if_pos ⟨by omega, by rw [hB e h3.1]; exact h3.2⟩, show p + j + 1 = p + (j + 1) by omega, hT (j + 1) e (by omega)]
          exact ⟨rfl, rfl, rfl, fun _ => rfl⟩
        · rw [if_neg h3]
          rcases hE with h | h
          · rw [if_neg (fun h4 => h3 ⟨by omega, by rw [← hB e (by omega)]; exact h4.2⟩)]
            exact mv_bad p
          · rw [hs, if_neg h3] at h
            exact absurd h.1 (by simp [bad])
      · rw [tok_sign hr hc hq, tok_sign (by rw [h0]; exact hr) (by rw [h0]; exact hc) (by rw [h0]; exact hq), h0]
        by_cases h1 : singleB (bt s j) = true
        · rw [if_pos h1, if_pos h1, show p + j + 1 = p + (j + 1) by omega, hT j (j + 1) (by omega)]
          exact ⟨rfl, rfl, rfl, fun _ => rfl⟩
        · rw [if_neg h1, if_neg h1]
          by_cases h2 : doubleB (bt s j) = true ∧ j + 1 < s.size ∧ bt s ((j + 1 : Nat) : Int) = 61
          · rw [if_pos h2, if_pos ⟨h2.1, by omega, by rw [show p + j + 1 = p + (j + 1) by omega, hB (j + 1) h2.2.1]; exact h2.2.2⟩, show p + j + 2 = p + (j + 2) by omega, hT j (j + 2) (by omega)]
            exact ⟨rfl, rfl, rfl, fun _ => rfl⟩
          · rw [if_neg h2]
            rcases hE with h | h
            · rw [if_neg (fun h4 => h2 ⟨h4.1, by omega, by rw [← hB (j + 1) (by omega), show p + (j + 1) = p + j + 1 by omega]; exact h4.2.2⟩)]
              exact mv_bad p
            · rw [tok_sign hr hc hq, if_neg h1, if_neg h2] at h
              exact absurd h.1 (by simp [bad])
end Go.Proofs.YtamgmceogjgijaaDoor.Tok
