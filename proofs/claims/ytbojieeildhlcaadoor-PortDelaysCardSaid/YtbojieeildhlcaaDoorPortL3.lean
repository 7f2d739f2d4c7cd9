/- PortAdds: the plain law. -/
import Derived.Test.YtbojieeildhlcaaDoorH6
namespace Go.Proofs.YtbojieeildhlcaaDoor.Port
open Go.RowKit Go.Proofs.YtbojieeildhlcaaDoorW.PrintWords Go.Proofs.YtbojieeildhlcaaDoorW.PrintLast Go.Proofs.YtbojieeildhlcaaDoorW.PrintMore Go.Proofs.YtbojieeildhlcaaDoor.G Go.Proofs.YtbojieeildhlcaaDoor.Ext
set_option linter.unusedVariables false
set_option linter.unusedSimpArgs false

theorem inD_iff {n : Int} : inD n = true ↔ 0 ≤ n ∧ n ≤ 1048576 := by
  unfold inD
  by_cases h : n ≥ 0
  · rw [if_pos h, decide_eq_true_iff]; omega
  · rw [if_neg h]; constructor
    · intro h; cases h
    · intro h2; omega
theorem rd_prev {l : List S32} {i : Nat} (h : 0 < i) : rd_T32 l ((i : Int) - 1) = rd_T32 l ((i - 1 : Nat) : Int) := by
  unfold rd_T32
  congr 1
  omega
theorem prevOk_iff {l : List S32} {i : Nat} : prevOk l i = true ↔ (0 < i → (rd_T32 l (i : Nat)).f0.toList ≠ (rd_T32 l ((i - 1 : Nat) : Int)).f0.toList ∧ (rd_T32 l ((i - 1 : Nat) : Int)).f3 ≤ (rd_T32 l (i : Nat)).f2) := by
  unfold prevOk
  by_cases h : 0 < i
  · rw [if_pos h, rd_prev h]
    by_cases h2 : (rd_T32 l (i : Nat)).f0.toList = (rd_T32 l ((i - 1 : Nat) : Int)).f0.toList
    · rw [if_pos h2]; constructor
      · intro h; cases h
      · intro h3; exact absurd h2 (h3 h).1
    · rw [if_neg h2]
      simp only [Bool.not_eq_true', decide_eq_false_iff_not]
      constructor
      · intro h3 _; exact ⟨h2, by omega⟩
      · intro h3; have := (h3 h).2; omega
  · rw [if_neg h]; constructor
    · intro _ h2; exact absurd h2 h
    · intro _; rfl
theorem callOk_iff {l : List S32} {i : Nat} : callOk l i = true ↔ nameB (rd_T32 l (i : Nat)).f0 = true ∧ (0 ≤ (rd_T32 l (i : Nat)).f1 ∧ (rd_T32 l (i : Nat)).f1 ≤ 1048576) ∧ (0 ≤ (rd_T32 l (i : Nat)).f2 ∧ (rd_T32 l (i : Nat)).f2 ≤ 1048576) ∧ (0 ≤ (rd_T32 l (i : Nat)).f3 ∧ (rd_T32 l (i : Nat)).f3 ≤ 1048576) ∧ (rd_T32 l (i : Nat)).f2 ≤ (rd_T32 l (i : Nat)).f3 ∧ (rd_T32 l (i : Nat)).f1 ≤ (rd_T32 l (i : Nat)).f3 ∧
    (0 < i → (rd_T32 l (i : Nat)).f0.toList ≠ (rd_T32 l ((i - 1 : Nat) : Int)).f0.toList ∧ (rd_T32 l ((i - 1 : Nat) : Int)).f3 ≤ (rd_T32 l (i : Nat)).f2) := by
  unfold callOk
  simp only [Bool.and_eq_true, inD_iff, prevOk_iff, Bool.not_eq_true', decide_eq_false_iff_not, gt_iff_lt, Int.not_lt]
theorem callsOk_iff {l : List S32} : ∀ (d i : Nat), callsOk l i d = true ↔ ∀ j, i ≤ j → j < i + d → callOk l j = true := by
  intro d
  induction d with
  | zero => intro i; constructor
            · intro _ j h1 h2; omega
            · intro _; rfl
  | succ d ih =>
    intro i
    unfold callsOk
    by_cases h : callOk l i = true
    · rw [if_pos h, ih]
      constructor
      · intro h2 j h3 h4
        rcases Nat.eq_or_lt_of_le h3 with rfl | h5
        · exact h
        · exact h2 j (by omega) (by omega)
      · intro h2 j h3 h4; exact h2 j (by omega) (by omega)
    · rw [if_neg h]
      constructor
      · intro h; cases h
      · intro h2; exact absurd (h2 i (Nat.le_refl _) (by omega)) h
theorem mayB_iff {s : ByteArray} {l : List S32} : mayB ⟨s, l⟩ = true ↔ nameB s = true ∧ 1 ≤ l.length ∧ l.length ≤ 64 ∧ ∀ j, j < l.length → callOk l j = true := by
  unfold mayB
  simp only [Bool.and_eq_true, decide_eq_true_iff, callsOk_iff, Nat.zero_add, Nat.zero_le, true_implies]
theorem late_rd (c n : Nat) (d : Int) (l : List S32) {j : Nat} (hj : j < l.length) : rd_T32 (late c n d l) (j : Nat) = if c ≤ j ∧ j < n then plus d (rd_T32 l (j : Nat)) else rd_T32 l (j : Nat) := by
  unfold rd_T32
  rw [Int.toNat_natCast, List.getD_eq_getElem?_getD, List.getD_eq_getElem?_getD, List.getElem?_eq_getElem (by rw [late_len]; exact hj), List.getElem?_eq_getElem hj]
  simp only [late, List.getElem_mapIdx, Option.getD_some]
theorem plus_plus (a b : Int) (x : S32) : plus b (plus a x) = plus (a + b) x := by
  unfold plus
  have h : ∀ y : Int, wrap64 (wrap64 (y + a) + b) = wrap64 (y + (a + b)) := fun y => by unfold wrap64; omega
  simp only [h]
theorem late_late (c n : Nat) (a b : Int) (l : List S32) : late c n b (late c n a l) = late c n (a + b) l := by
  apply List.ext_getElem
  · simp [late]
  · intro i h1 h2
    simp only [late, List.getElem_mapIdx]
    by_cases h : c ≤ i ∧ i < n
    · simp only [if_pos h]; exact plus_plus a b _
    · simp only [if_neg h]
theorem late_may {s : ByteArray} {l : List S32} {c : Nat} {d : Int} (hm : mayB ⟨s, l⟩ = true) (h0 : 0 ≤ d) (h1 : d ≤ 510) (hb : ∀ j : Nat, j < l.length → (rd_T32 l (j : Nat)).f3 ≤ 1047976) : mayB ⟨s, late c l.length d l⟩ = true := by
  rw [mayB_iff] at hm ⊢
  obtain ⟨m1, m2, m3, m4⟩ := hm
  refine ⟨m1, by rw [late_len]; exact m2, by rw [late_len]; exact m3, fun j hj => ?_⟩
  rw [late_len] at hj
  have k := callOk_iff.1 (m4 j hj)
  have kb := hb j hj
  obtain ⟨k1, k2, k3, k4, k5, k6, k7⟩ := k
  rw [callOk_iff, late_rd _ _ _ _ hj]
  have hp : 0 < j → rd_T32 (late c l.length d l) ((j - 1 : Nat) : Int) = if c ≤ j - 1 ∧ j - 1 < l.length then plus d (rd_T32 l ((j - 1 : Nat) : Int)) else rd_T32 l ((j - 1 : Nat) : Int) := fun _ => late_rd _ _ _ _ (by omega)
  have hq : 0 < j → callOk l (j - 1) = true := fun _ => m4 _ (by omega)
  have hqb : 0 < j → (rd_T32 l ((j - 1 : Nat) : Int)).f3 ≤ 1047976 := fun _ => hb _ (by omega)
  have w : ∀ x : Int, 0 ≤ x → x ≤ 1048576 → wrap64 (x + d) = x + d := fun x _ _ => wrap_in (by omega) (by omega)
  by_cases hc : c ≤ j
  · rw [if_pos ⟨hc, hj⟩]
    unfold plus
    simp only
    rw [w _ k2.1 k2.2, w _ k3.1 k3.2, w _ k4.1 k4.2]
    refine ⟨k1, by omega, by omega, by omega, by omega, by omega, fun h => ?_⟩
    have e := hp h
    have q := (callOk_iff.1 (hq h)).2.2.2.1
    have k8 := k7 h
    rw [e]
    by_cases hc2 : c ≤ j - 1
    · rw [if_pos ⟨hc2, by omega⟩]
      unfold plus
      simp only
      rw [w _ q.1 q.2]
      exact ⟨k8.1, by omega⟩
    · rw [if_neg (by omega)]
      exact ⟨k8.1, by omega⟩
  · rw [if_neg (by omega)]
    refine ⟨k1, k2, k3, k4, k5, k6, fun h => ?_⟩
    rw [hp h, if_neg (by omega)]
    exact k7 h
theorem delF_len (s : ByteArray) (l : List S32) (call d : Int) : (delF s l call d).length = l.length := by
  unfold delF
  split
  · rfl
  · split
    · exact late_len _ _ _ _
    · rfl
theorem delF_may (s : ByteArray) (l : List S32) (call d : Int) : mayB ⟨s, delF s l call d⟩ = mayB ⟨s, l⟩ := by
  unfold delF
  split
  · rfl
  · rename_i hb
    split
    · rename_i hm
      rw [hm]
      unfold badB at hb
      simp only [Bool.or_eq_true, not_or, Bool.not_eq_true, Bool.not_eq_false'] at hb
      exact hb.1.symm
    · rfl
theorem badB_of {s : ByteArray} {l : List S32} {call d : Int} (h : mayB ⟨s, l⟩ = true ∧ 0 ≤ call ∧ call < (l.length : Int) ∧ 0 ≤ d ∧ d ≤ 1048576) : badB s l call d = false := by
  unfold badB
  rw [h.1, decide_eq_false (by omega), decide_eq_false (by omega), decide_eq_false (by omega), decide_eq_false (by omega)]
  rfl
theorem badB_no {s : ByteArray} {l : List S32} {call d : Int} (h : ¬ (mayB ⟨s, l⟩ = true ∧ 0 ≤ call ∧ call < (l.length : Int))) : badB s l call d = true := by
  unfold badB
  cases hm : mayB ⟨s, l⟩ with
  | false => rfl
  | true =>
    simp only [Bool.not_true, Bool.false_or]
    by_cases h1 : call < 0
    · rw [decide_eq_true h1]; rfl
    · rw [decide_eq_true (show call ≥ (l.length : Int) from by
        by_cases h2 : call ≥ (l.length : Int)
        · exact h2
        · exact absurd ⟨hm, by omega, by omega⟩ h)]
      simp
theorem adds {s : ByteArray} {l : List S32} {call a b : Int} (ha : 0 ≤ a ∧ a ≤ 255) (hb : 0 ≤ b ∧ b ≤ 255) (h : ∀ j : Nat, j < l.length → (rd_T32 l (j : Nat)).f3 ≤ 1047976) : delF s (delF s l call a) call b = delF s l call (a + b) := by
  by_cases g : mayB ⟨s, l⟩ = true ∧ 0 ≤ call ∧ call < (l.length : Int)
  · have e : ∀ d : Int, 0 ≤ d → d ≤ 510 → delF s l call d = late call.toNat l.length d l := fun d h0 h1 => by
      unfold delF
      rw [if_neg (by rw [badB_of ⟨g.1, g.2.1, g.2.2, h0, by omega⟩]; decide), if_pos (late_may g.1 h0 h1 h)]
    have m := late_may (c := call.toNat) g.1 ha.1 (by omega) h
    have m2 := late_may (c := call.toNat) g.1 (d := a + b) (by omega) (by omega) h
    rw [e a ha.1 (by omega), e (a + b) (by omega) (by omega)]
    unfold delF
    rw [late_len]
    rw [if_neg (by rw [badB_of ⟨m, g.2.1, by rw [late_len]; exact g.2.2, hb.1, by omega⟩]; decide), late_late, if_pos m2]
  · have e : ∀ d : Int, delF s l call d = l := fun d => by
      unfold delF
      rw [if_pos (badB_no g)]
    rw [e a, e b, e (a + b)]
theorem same_l0 (s t : ByteArray) (l : List S32) (hl : l.length ≤ 1000000) (d : Nat) : ∀ i : Nat, i + d = l.length → Ev (fun k => supercargoref16_Same.l0 k (i : Nat) s l t l) true := by
  induction d with
  | zero =>
    intro i hi
    refine succ ?_
    simp only [supercargoref16_Same.l0]
    exact ev_neg (by omega) (now rfl)
  | succ d ih =>
    intro i hi
    refine succ ?_
    simp only [supercargoref16_Same.l0]
    refine ev_pos (by omega) (ev_pos (by omega) (ev_pos (by omega) (ev_neg (by simp) ?_)))
    rw [wrap_in (by omega) (by omega)]
    exact ih (i + 1) (by omega)
theorem same_self (s : ByteArray) (l : List S32) (hl : l.length ≤ 1000000) : Ev (fun k => supercargoref16_Same.f k s l s l) true := by
  unfold supercargoref16_Same.f
  refine ev_pos rfl (succ ?_)
  simp only [supercargoref16_Same.j0]
  refine ev_neg (by simp) ?_
  exact same_l0 s s l hl l.length 0 (by omega)
theorem del_some {s : ByteArray} {l : List S32} (hl : l.length ≤ 1000000) (call d : Int) : port_Delay.f s l call d = some (s, delF s l call d) := by
  unfold port_Delay.f
  rw [if_pos hl]
theorem adds_l0 (s : ByteArray) (l W X : List S32) (hl : l.length ≤ 70) (hW : W.length = l.length) (hWX : (∀ j : Nat, j < l.length → (rd_T32 l (j : Nat)).f3 ≤ 1047976) → W = X) (d : Nat) :
    ∀ i : Nat, i + d = l.length → (∀ j : Nat, j < i → (rd_T32 l (j : Nat)).f3 ≤ 1047976) → Ev (fun k => supercargolaw16_PortAdds.l0 k (l.length : Int) (i : Nat) s l s W s X) true := by
  induction d with
  | zero =>
    intro i hi hb
    refine succ ?_
    simp only [supercargolaw16_PortAdds.l0]
    refine ev_neg (by omega) ?_
    obtain rfl := hWX (fun j hj => hb j (by omega))
    exact Ev.bind (same_self s W (by omega)) (now rfl)
  | succ d ih =>
    intro i hi hb
    refine succ ?_
    simp only [supercargolaw16_PortAdds.l0]
    refine ev_pos (by omega) (ev_pos (by omega) (ev_pos (by omega) (ev_ite (fun _ => now rfl) (fun h1 => ev_ite (fun _ => now rfl) (fun h2 => ?_)))))
    rw [wrap_in (by omega) (by omega)]
    refine ih (i + 1) (by omega) (fun j hj => ?_)
    rcases Nat.lt_or_ge j i with h | h
    · exact hb j h
    · obtain rfl : j = i := by omega
      omega
theorem adds_law (s : ByteArray) (l : List S32) (call a b : Int) (ha : 0 ≤ a ∧ a ≤ 255) (hb : 0 ≤ b ∧ b ≤ 255) : Ev (fun k => supercargolaw16_PortAdds.f k s l call a b) true := by
  have out : Ev (fun k => supercargolaw16_PortAdds.j0 k call a b true s l) true := by
    refine succ ?_
    simp only [supercargolaw16_PortAdds.j0]
    exact ev_pos trivial (now rfl)
  unfold supercargolaw16_PortAdds.f
  refine ev_some (show awake.f = some true from rfl) (ev_pos rfl ?_)
  by_cases c : (l.length : Int) > 70
  · rw [decide_eq_true c]; exact out
  · rw [decide_eq_false c]
    have hl : l.length ≤ 70 := by omega
    have hl' : l.length ≤ 1000000 := by omega
    have w1 : wrap64 a = a := wrap_in (by omega) (by omega)
    have w2 : wrap64 b = b := wrap_in (by omega) (by omega)
    have w3 : wrap64 (a + b) = a + b := wrap_in (by omega) (by omega)
    refine succ ?_
    simp only [supercargolaw16_PortAdds.j0, w1, w2, w3]
    refine ev_neg (fun h => by cases h) ?_
    refine ev_some (del_some hl' call a) (ev_some (del_some (by rw [delF_len]; exact hl') call b) (ev_some (del_some hl' call (a + b)) ?_))
    have m1 := may_ev ⟨s, delF s (delF s l call a) call b⟩
    have m2 := may_ev ⟨s, l⟩
    have m3 := may_ev ⟨s, delF s l call (a + b)⟩
    rw [delF_may, delF_may] at m1
    rw [delF_may] at m3
    refine Ev.bind m1 (Ev.bind m2 (ev_neg (by simp) (Ev.bind m3 (Ev.bind m2 ?_))))
    refine succ ?_
    simp only [supercargolaw16_PortAdds.j1]
    refine ev_neg (by simp) ?_
    exact adds_l0 s l _ _ hl (by rw [delF_len, delF_len]) (fun h => adds ha hb h) l.length 0 (by omega) (fun j hj => by omega)
end Go.Proofs.YtbojieeildhlcaaDoor.Port
