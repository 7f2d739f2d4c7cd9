/- TokenJoins, plain. -/
import Derived.Test.YtamgmceogjgijaaDoorTokJ
import Derived.Test.YtamgmceogjgijaaDoorTokS
import Derived.Test.YtamgmceogjgijaaDoorExtJ
import Derived.Test.YtamgmceogjgijaaDoorH19
import Derived.Test.YtamgmceogjgijaaDoorH33
import Derived.Test.YtamgmceogjgijaaDoorH9
namespace Go.Proofs.YtamgmceogjgijaaDoor.Tok
open Go.RowKit Go.Proofs.YtamgmceogjgijaaDoorW.PrintWords Go.Proofs.YtamgmceogjgijaaDoorW.PrintLast Go.Proofs.YtamgmceogjgijaaDoorW.PrintMore Go.Proofs.YtamgmceogjgijaaDoor.G Go.Proofs.YtamgmceogjgijaaDoor.Ext
set_option linter.unusedVariables false
set_option linter.unusedSimpArgs false

theorem J_snoc : ∀ (l : List S31) (x : S31), l ≠ [] → J (l ++ [x]) = (J l ++ sp) ++ showS x
  | [], _, h => absurd rfl h
  | [y], x, _ => by show J [y, x] = _; rw [J_cons, J_one, J_one]
  | y :: z :: r, x, _ => by
    show J (y :: z :: (r ++ [x])) = _
    rw [J_cons, show z :: (r ++ [x]) = (z :: r) ++ [x] from rfl, J_snoc (z :: r) x (by simp), J_cons]
    simp only [ByteArray.append_assoc]
theorem run_pos {s : ByteArray} {i n : Nat} {l : List S31} {e : Int} (h : Run s i l n e) (hl : l ≠ []) : 0 < s.size := by
  cases h with
  | done _ => exact absurd rfl hl
  | stop _ h _ => omega
  | step _ h _ _ => omega
/-- What is scanned of a token's own text: it alone, or the token isn't one. -/
theorem right_or (x : S31) (hx : (showS x).size ≤ 4000) : ∃ l n e, Run (showS x) 0 l n e ∧ l.length < 4096 ∧ ((e = 0 ∧ l = [⟨x.f0, 0, x.f2⟩] ∧ Good x) ∨ (e = 0 ∧ l ≠ [⟨x.f0, 0, x.f2⟩]) ∨ e ≠ 0) := by
  obtain ⟨l, n, e, h, hl, hn⟩ := run_of (showS x) hx
  refine ⟨l, n, e, h, hl, ?_⟩
  by_cases he : e = 0
  · subst he
    by_cases hh : l = [⟨x.f0, 0, x.f2⟩]
    · refine .inl ⟨rfl, hh, ?_⟩
      have hend := run_end h
      subst hend
      subst hh
      exact ⟨h, run_pos h (by simp)⟩
    · exact .inr (.inl ⟨rfl, hh⟩)
  · exact .inr (.inr he)
theorem few_ev (l : List S31) : Ev (fun k => supercargoref27_Few.f k l) true ∧ (l.length ≤ 61 ∧ ∀ x, x ∈ l → x.f2.size ≤ 100) ∨ Ev (fun k => supercargoref27_Few.f k l) false := by
  suffices h : ∀ d i : Nat, i + d = l.length → i ≤ 61 → (∀ x, x ∈ l.take i → x.f2.size ≤ 100) → (Ev (fun k => supercargoref27_Few.l0 k l (i : Nat)) true ∧ (l.length ≤ 61 ∧ ∀ x, x ∈ l → x.f2.size ≤ 100)) ∨ Ev (fun k => supercargoref27_Few.l0 k l (i : Nat)) false from
    h l.length 0 (by omega) (by omega) (fun x hx => by simp at hx)
  intro d
  induction d with
  | zero =>
    intro i hi h61 hx
    rw [List.take_of_length_le (by omega)] at hx
    refine .inl ⟨succ ?_, by omega, hx⟩
    simp only [supercargoref27_Few.l0]
    exact ev_neg (by omega) (Ev.now _)
  | succ d ih =>
    intro i hi h61 hx
    by_cases c : i > 60
    · refine .inr (succ ?_)
      simp only [supercargoref27_Few.l0]
      exact ev_pos (by omega) (ev_pos (by omega) (Ev.now _))
    · by_cases c2 : (l[i]'(by omega)).f2.size > 100
      · refine .inr (succ ?_)
        simp only [supercargoref27_Few.l0]
        refine ev_pos (by omega) (ev_neg (by omega) (ev_pos (by omega) (ev_pos ?_ (Ev.now _))))
        rw [rd_at l i (by omega)]
        omega
      · have next := ih (i + 1) (by omega) (by omega) (fun x hx2 => by
          rw [List.take_succ_eq_append_getElem (by omega)] at hx2
          rcases List.mem_append.1 hx2 with h | h
          · exact hx x h
          · rw [List.mem_singleton.1 h]; omega)
        have step : ∀ b, Ev (fun k => supercargoref27_Few.l0 k l ((i + 1 : Nat) : Int)) b → Ev (fun k => supercargoref27_Few.l0 k l (i : Nat)) b := by
          intro b hb
          refine succ ?_
          simp only [supercargoref27_Few.l0]
          rw [rd_at l i (by omega), wrap_in (x := (i : Int) + 1) (by omega) (by omega)]
          exact ev_pos (by omega) (ev_neg (by omega) (ev_pos (by omega) (ev_neg (by omega) hb)))
        rcases next with ⟨h, h2⟩ | h
        · exact .inl ⟨step _ h, h2⟩
        · exact .inr (step _ h)
theorem show2_ev (x : S31) (h : (showS x).size ≤ 1000000) : supercargoref27_show.f x.f0 x.f1 x.f2 = some (showS x) := by
  unfold supercargoref27_show.f
  unfold showS at h ⊢
  by_cases c : x.f0 = 3
  · rw [if_pos c, quoted_size] at h
    rw [if_pos c, if_pos c, if_pos (by omega), if_pos]
    have e1 : (⟨#[34]⟩ : ByteArray).size = 1 := rfl
    rw [ap_size, e1]
    omega
  · rw [if_neg c, if_neg c]
theorem showS_size (x : S31) : (showS x).size ≤ x.f2.size + 2 := by
  unfold showS
  split
  · rw [quoted_size]; omega
  · omega
/-- The reference tells whether a token is the only one of its text. -/
theorem right_yes (x : S31) (hx : x.f2.size ≤ 100) (hg : Good x) : Ev (fun k => supercargoref27_Right.f k x.f0 x.f1 x.f2) true := by
  have hs := showS_size x
  unfold supercargoref27_Right.f
  refine ev_some (show2_ev x (by omega)) (Ev.bind (ref_scan (by omega) hg.1 (by show 1 < 4096; omega)) ?_)
  simp only [if_true]
  exact ev_pos (by simp) (ev_pos (by simp) (ev_pos (by simp [rd_T31]) (ev_pos (by simp [rd_T31]) (now (by simp [rd_T31])))))
theorem right_no (x : S31) (hx : x.f2.size ≤ 100) {l : List S31} {n : Nat} {e : Int} (h : Run (showS x) 0 l n e) (hl : l.length < 4096) (hn : (e = 0 ∧ l ≠ [⟨x.f0, 0, x.f2⟩]) ∨ e ≠ 0) : Ev (fun k => supercargoref27_Right.f k x.f0 x.f1 x.f2) false := by
  have hs := showS_size x
  unfold supercargoref27_Right.f
  refine ev_some (show2_ev x (by omega)) (Ev.bind (ref_scan (by omega) h hl) ?_)
  rcases hn with ⟨rfl, hn⟩ | he
  · simp only [if_true]
    by_cases h1 : l.length = 1
    · obtain ⟨y, rfl⟩ := List.length_eq_one_iff.1 h1
      refine ev_pos (by simp) (ev_pos (by simp) ?_)
      rw [show rd_T31 [y] 0 = y from rfl]
      refine ev_ite (fun a => ev_ite (fun b => now ?_) (fun _ => Ev.now _)) (fun _ => Ev.now _)
      rw [beq_eq_false_iff_ne]
      intro c
      apply hn
      rw [ByteArray.toList_eq, ByteArray.toList_eq] at b
      have b2 := ba_list b
      obtain ⟨y0, y1, y2⟩ := y
      cases a; cases b2; cases c
      rfl
    · exact ev_neg (by omega) (Ev.now _)
  · exact ev_neg he (Ev.now _)
theorem jn_no (x : S31) (acc : List ByteArray) (l : List S31) (i : Nat) (hi : i < l.length) (hx : l[i] = x) (hs : (showS x).size ≤ 1000000) {m : List S31} {n : Nat} {e : Int} (h : Run (showS x) 0 m n e) (hl : m.length < 4096) (hn : (e = 0 ∧ m ≠ [⟨x.f0, 0, x.f2⟩]) ∨ e ≠ 0) :
    Ev (fun k => token_Join.l0 k acc l (l.length : Int) (i : Nat)) (⟨#[]⟩ : ByteArray) := by
  refine succ ?_
  simp only [token_Join.l0]
  rw [rd_at l i hi, hx]
  refine ev_pos (by omega) (ev_pos (by omega) (ev_pos (by omega) (ev_some (show_ev x hs) (Ev.bind (scan_ev hs h hl) ?_))))
  rcases hn with ⟨rfl, hn⟩ | he
  · simp only [if_true]
    by_cases h1 : m.length = 1
    · obtain ⟨y, rfl⟩ := List.length_eq_one_iff.1 h1
      refine ev_pos (by simp) (ev_pos (by simp) (ev_pos ?_ (Ev.now _)))
      rw [show rd_T31 [y] 0 = y from rfl]
      by_cases a : y.f0 = x.f0
      · by_cases b : y.f2.toList = x.f2.toList
        · have c : y.f1 ≠ 0 := by
            intro c
            apply hn
            rw [ByteArray.toList_eq, ByteArray.toList_eq] at b
            have b2 := ba_list b
            obtain ⟨y0, y1, y2⟩ := y
            cases a; cases b2; cases c
            rfl
          rw [beq_eq_false_iff_ne.2 c]
          simp
        · rw [beq_eq_false_iff_ne.2 b]
          simp
      · rw [beq_eq_false_iff_ne.2 a]
        simp
    · exact ev_neg (by omega) (Ev.now _)
  · exact ev_neg he (Ev.now _)
/-- Both joins tell one text. -/
theorem joins_ev (l : List S31) (hl : l.length ≤ 61) (hx : ∀ x, x ∈ l → x.f2.size ≤ 100) : ∃ r, Ev (fun k => token_Join.f k l) r ∧ Ev (fun k => supercargoref27_Join.f k l) r := by
  have hsum : ∀ m : List S31, (∀ x, x ∈ m → x.f2.size ≤ 100) → (m.map fun x => (showS x).size).sum ≤ 102 * m.length := by
    intro m
    induction m with
    | nil => intro _; simp
    | cons y r ih =>
      intro h
      have h1 := ih (fun x hx => h x (List.mem_cons_of_mem _ hx))
      have h2 := h y (List.mem_cons_self ..)
      have h3 := showS_size y
      simp only [List.map_cons, List.sum_cons, List.length_cons]
      omega
  have htok : token_Join.f = fun k l => token_Join.f k l := rfl
  suffices h : ∀ d i : Nat, i + d = l.length → (∀ x, x ∈ l.take i → Good x) → ∃ r, Ev (fun k => token_Join.l0 k ((l.take i).map showS) l (l.length : Int) (i : Nat)) r ∧ Ev (fun k => supercargoref27_Join.l0 k l (J (l.take i)) (i : Nat)) r by
    obtain ⟨r, h1, h2⟩ := h l.length 0 (by omega) (fun x hx => by simp at hx)
    refine ⟨r, ?_, h2⟩
    unfold token_Join.f
    exact ev_neg (by omega) h1
  intro d
  induction d with
  | zero =>
    intro i hi hg
    have hlsum := hsum l hx
    rw [List.take_of_length_le (by omega)] at hg ⊢
    have hJ := J_size l
    refine ⟨J l, succ ?_, succ ?_⟩
    · simp only [token_Join.l0]
      have e : (J l).size = (joinS (l.map showS) sp).length := by
        show (joinS (l.map showS) sp).toArray.size = _
        exact List.size_toArray ..
      have hv : strings_Join.f (l.map showS) (⟨#[32]⟩ : ByteArray) = some (J l) := by
        unfold strings_Join.f
        rw [if_pos ⟨by rw [List.length_map]; omega, by show (joinS (l.map showS) sp).length ≤ _; omega⟩]
        rfl
      exact ev_neg (by omega) (ev_some hv (Ev.now _))
    · simp only [supercargoref27_Join.l0]
      exact ev_neg (by omega) (Ev.now _)
  | succ d ih =>
    intro i hi hg
    have hm : l[i] ∈ l := List.getElem_mem (by omega)
    obtain ⟨x, hxe⟩ : ∃ x, l[i] = x := ⟨_, rfl⟩
    rw [hxe] at hm
    have hz := hx x hm
    have hs := showS_size x
    obtain ⟨m, n, e, hrun, hml, hor⟩ := right_or x (by omega)
    rcases hor with ⟨rfl, rfl, hgood⟩ | hbad
    · have ht : l.take (i + 1) = l.take i ++ [x] := by rw [List.take_succ_eq_append_getElem (by omega), hxe]
      obtain ⟨r, h1, h2⟩ := ih (i + 1) (by omega) (fun y hy => by
        rw [ht] at hy
        rcases List.mem_append.1 hy with h | h
        · exact hg y h
        · rw [List.mem_singleton.1 h]; exact hgood)
      refine ⟨r, succ ?_, succ ?_⟩
      · simp only [token_Join.l0]
        rw [rd_at l i (by omega), hxe, wrap_in (x := (i : Int) + 1) (by omega) (by omega)]
        refine ev_pos (by omega) (ev_pos (by omega) (ev_pos (by omega) (ev_some (show_ev x (by omega)) (Ev.bind (scan_ev (by omega) hgood.1 (by show 1 < 4096; omega)) ?_))))
        simp only [if_true]
        refine ev_pos (by simp) (ev_pos (by simp) (ev_neg (by simp [rd_T31]) (ev_pos (by rw [List.length_map, List.length_take]; omega) ?_)))
        have e1 : (l.take i).map showS ++ [showS x] = (l.take (i + 1)).map showS := by rw [ht, List.map_append]; rfl
        rw [e1]
        exact h1
      · simp only [supercargoref27_Join.l0]
        rw [rd_at l i (by omega), hxe]
        refine ev_pos (by omega) (ev_pos (by omega) (Ev.bind (right_yes x hz hgood) (ev_pos rfl (succ ?_))))
        simp only [supercargoref27_Join.j1]
        rw [rd_at l i (by omega), hxe, wrap_in (x := (i : Int) + 1) (by omega) (by omega)]
        have hJs := J_size (l.take i)
        have hts := hsum (l.take i) (fun y hy => hx y (List.mem_of_mem_take hy))
        have htl : (l.take i).length ≤ 61 := by rw [List.length_take]; omega
        have e1 : (⟨#[32]⟩ : ByteArray).size = 1 := rfl
        refine ev_neg (by rw [decide_eq_true_eq]; omega) ?_
        rcases Nat.eq_zero_or_pos i with h0 | h0
        · subst h0
          refine ev_neg (by omega) (ev_pos (by omega) (ev_pos (by omega) (ev_some (show2_ev x (by omega)) (ev_pos (by omega) ?_))))
          have e2 : J (l.take 0) ++ showS x = J (l.take (0 + 1)) := by
            rw [ht, List.take_zero]
            show J [] ++ showS x = J [x]
            rw [J_one, J_nil]
            exact ba_list (by rw [ByteArray.data_append]; simp)
          rw [e2]
          exact h2
        · refine ev_pos (by omega) (ev_pos (by omega) (ev_pos (by omega) (ev_pos (by omega) (ev_some (show2_ev x (by omega)) (ev_pos (by rw [ap_size, e1]; omega) ?_)))))
          have e2 : (J (l.take i) ++ (⟨#[32]⟩ : ByteArray)) ++ showS x = J (l.take (i + 1)) := by
            rw [ht, J_snoc _ _ (fun h => by have := congrArg List.length h; rw [List.length_take, List.length_nil] at this; omega)]
            rfl
          rw [e2]
          exact h2
    · refine ⟨⟨#[]⟩, jn_no x _ l i (by omega) hxe (by omega) hrun hml hbad, succ ?_⟩
      simp only [supercargoref27_Join.l0]
      rw [rd_at l i (by omega), hxe]
      refine ev_pos (by omega) (ev_pos (by omega) (Ev.bind (right_no x hz hrun hml hbad) (ev_neg (by decide) (succ ?_))))
      simp only [supercargoref27_Join.j1]
      exact ev_pos trivial (Ev.now _)
theorem nameOf_v (a : Int) : supercargoref27_NameOf.f a = some (nameK a) := by
  unfold supercargoref27_NameOf.f nameK
  simp only [Option.bind_some]
  by_cases h0 : a < 0
  · rw [if_pos h0, if_neg (by omega)]
  · by_cases h6 : a > 5
    · rw [if_neg h0, if_pos h6, if_neg (by omega)]
    · rw [if_neg h0, if_neg h6, if_pos (by omega), if_pos (by show a < ((6 : Nat) : Int); omega), if_pos ⟨by omega, by omega⟩]
      rfl
theorem joins_pure (l : List S31) (a : Int) : Ev (fun k => supercargolaw27_TokenJoins.f k l a) true := by
  unfold supercargolaw27_TokenJoins.f
  refine Ev.bind awake_ev (ev_pos rfl ?_)
  rcases few_ev l with ⟨h, hl, hx⟩ | h
  · obtain ⟨r, h1, h2⟩ := joins_ev l hl hx
    exact Ev.bind h (ev_pos rfl (Ev.bind h1 (Ev.bind h2 (ev_pos rfl (ev_some (show token_Name.f a = some (nameK a) from rfl) (ev_some (nameOf_v a) (now (by simp))))))))
  · exact Ev.bind h (ev_neg (by decide) (Ev.now _))
end Go.Proofs.YtamgmceogjgijaaDoor.Tok
