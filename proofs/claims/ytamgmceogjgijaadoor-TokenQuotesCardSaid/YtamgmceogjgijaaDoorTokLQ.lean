/- TokenQuotes, plain. -/
import Derived.Test.YtamgmceogjgijaaDoorTokJ
import Derived.Test.YtamgmceogjgijaaDoorH8
namespace Go.Proofs.YtamgmceogjgijaaDoor.Tok
open Go.RowKit Go.Proofs.YtamgmceogjgijaaDoorW.PrintWords Go.Proofs.YtamgmceogjgijaaDoorW.PrintLast Go.Proofs.YtamgmceogjgijaaDoorW.PrintMore Go.Proofs.YtamgmceogjgijaaDoor.G Go.Proofs.YtamgmceogjgijaaDoor.Ext
set_option linter.unusedVariables false
set_option linter.unusedSimpArgs false

def qt (s : ByteArray) : ByteArray := ((⟨#[34]⟩ : ByteArray) ++ s) ++ (⟨#[34]⟩ : ByteArray)
theorem qt_cut (s : ByteArray) : (qt s).extract 1 (s.size + 1) = s := by
  have hz := quoted_size s
  have hx := size_ex (qt s) 1 (s.size + 1) (by unfold qt; omega)
  refine ba_ext (by omega) (fun k hk => ?_)
  rw [bt_extract (qt s) 1 (s.size + 1) k (by omega) (by unfold qt; omega), Nat.add_comm]
  exact quoted_mid s k (by omega)
theorem qt_tok (s : ByteArray) {e : Nat} (he : spanN plainI (qt s) (0 + 1) ((qt s).size - (0 + 1)) = e) : tokAt (qt s) 0 = if e < (qt s).size ∧ bt (qt s) e = 34 then ⟨3, (qt s).extract (0 + 1) e, e + 1, 0⟩ else bad 2 := by
  have h0 : bt (qt s) ((0 : Nat) : Int) = 34 := quoted_first s
  exact tok_text (by rw [h0]; decide) (by rw [h0]; decide) h0 he
theorem qt_run (s : ByteArray) (hp : ∀ k : Nat, k < s.size → plainI (bt s (k : Nat)) = true) : Run (qt s) 0 [⟨3, 0, s⟩] (qt s).size 0 := by
  have hz : (qt s).size = s.size + 2 := quoted_size s
  have hl : bt (qt s) ((s.size + 1 : Nat) : Int) = 34 := quoted_last s
  have he : spanN plainI (qt s) (0 + 1) ((qt s).size - (0 + 1)) = s.size + 1 := by
    refine span_eq plainI _ _ (0 + 1) _ (by omega) (by omega) (fun k a b => ?_) (fun h => ?_)
    · obtain ⟨m, rfl⟩ : ∃ m, k = m + 1 := ⟨k - 1, by omega⟩
      have h1 : bt (qt s) ((m + 1 : Nat) : Int) = bt s (m : Nat) := quoted_mid s m (by omega)
      rw [h1]
      exact hp m (by omega)
    · rw [hl]; decide
  refine run_one (by have h0 : bt (qt s) ((0 : Nat) : Int) = 34 := quoted_first s; rw [h0]; decide) (by omega) ?_
  rw [qt_tok s he, if_pos ⟨by omega, hl⟩, hz]
  congr 1
  exact qt_cut s
theorem qt_not (s : ByteArray) (hs : s.size ≤ 1000) (hp : ¬ ∀ k : Nat, k < s.size → plainI (bt s (k : Nat)) = true) {l : List S31} {n : Nat} {e : Int} (h : Run (qt s) 0 l n e) : ∀ (x : S31) (r : List S31), l = x :: r → x.f2 ≠ s := by
  intro x r hl hx
  have hz : (qt s).size = s.size + 2 := quoted_size s
  have h0 : bt (qt s) ((0 : Nat) : Int) = 34 := quoted_first s
  have hb0 : bl (qt s) 0 = 0 := by
    unfold bl
    obtain ⟨d, hd⟩ : ∃ d, (qt s).size - 0 = d + 1 := ⟨(qt s).size - 1, by omega⟩
    rw [hd]
    exact spanN_no (by rw [h0]; decide)
  cases h with
  | done _ => cases hl
  | stop _ _ _ => cases hl
  | @step _ j l' _ _ hb hj he hr =>
    rw [hb0] at hb
    subst hb
    obtain ⟨f, hf⟩ : ∃ f, spanN plainI (qt s) (0 + 1) ((qt s).size - (0 + 1)) = f := ⟨_, rfl⟩
    have ht := qt_tok s hf
    by_cases c : f < (qt s).size ∧ bt (qt s) f = 34
    · rw [if_pos c] at ht
      injection hl with hl1 _
      have h3 : x.f2 = (tokAt (qt s) 0).text := by rw [← hl1]; rfl
      rw [ht] at h3
      have h1 : (qt s).extract (0 + 1) f = s := h3.symm.trans hx
      have hsz := size_ex (qt s) (0 + 1) f (by omega)
      rw [h1] at hsz
      have hrg := span_range plainI (qt s) ((qt s).size - (0 + 1)) (0 + 1)
      rw [hf] at hrg
      refine hp (fun k hk => ?_)
      have h2 : bt (qt s) ((k + 1 : Nat) : Int) = bt s (k : Nat) := quoted_mid s k hk
      rw [← h2]
      exact span_in plainI (qt s) ((qt s).size - (0 + 1)) (0 + 1) (k + 1) (by omega) (by omega)
    · rw [if_neg c] at ht
      rw [ht] at he
      simp [bad] at he
theorem quotes_end (s : ByteArray) (hs : s.size ≤ 1000) (p : Bool) (hp : p = true ↔ ∀ k : Nat, k < s.size → plainI (bt s (k : Nat)) = true) : Ev (fun k => supercargolaw27_TokenQuotes.l0 k s p (s.size : Nat)) true := by
  have hz : (qt s).size = s.size + 2 := quoted_size s
  have e1 : (⟨#[34]⟩ : ByteArray).size = 1 := rfl
  have hap := ap_size (⟨#[34]⟩ : ByteArray) s
  refine succ ?_
  simp only [supercargolaw27_TokenQuotes.l0]
  refine ev_neg (by omega) (ev_pos (by omega) (ev_pos (by omega) ?_))
  cases p with
  | true =>
    have hr := qt_run s (hp.1 rfl)
    refine Ev.bind (scan_ev (s := qt s) (by omega) hr (by show 1 < 4096; omega)) ?_
    simp only [if_true]
    have hgood : Good ⟨3, 0, s⟩ := ⟨hr, by show 0 < (qt s).size; omega⟩
    have hsh : showS ⟨3, 0, s⟩ = qt s := rfl
    have hj := join_ev [⟨3, 0, s⟩] (fun x hx => by rcases List.mem_cons.1 hx with h | h; · rw [h]; exact hgood
                                                   · cases h) (by simp only [List.map_cons, List.map_nil, List.sum_cons, List.sum_nil, List.length_cons, List.length_nil, hsh]; omega) (by simp)
    rw [J_one, hsh] at hj
    rw [wrap_in (by omega) (by omega)]
    refine ev_pos (by simp) (ev_pos (by simp) (ev_pos (by simp [rd_T31]) (ev_pos (by omega) (Ev.bind hj (now ?_)))))
    show ((qt s).toList == (qt s).toList) = true
    simp
  | false =>
    have hnp : ¬ ∀ k : Nat, k < s.size → plainI (bt s (k : Nat)) = true := fun h => absurd (hp.2 h) (by decide)
    obtain ⟨l, n, e, hr, hl, hn⟩ := run_of (qt s) (by omega)
    refine Ev.bind (scan_ev (s := qt s) (by omega) hr hl) ?_
    have other : Ev (fun k => if (false == false) = true then (if false = true then (none : Option Bool) else some true) else some false) true := ev_pos (by decide) (ev_neg (by decide) (Ev.now _))
    by_cases he : e = 0
    · subst he
      simp only [if_true]
      by_cases h1 : l.length = 1
      · obtain ⟨x, rfl⟩ := List.length_eq_one_iff.1 h1
        have hne := qt_not s hs hnp hr x [] rfl
        refine ev_pos (by simp) (ev_pos (by simp) (ev_pos ?_ (ev_neg (by decide) (Ev.now _))))
        have hx2 : (x.f2.toList == s.toList) = false := by
          rw [beq_eq_false_iff_ne, ByteArray.toList_eq, ByteArray.toList_eq]
          exact fun h => hne (ba_list h)
        rw [show rd_T31 [x] 0 = x from rfl, hx2]
        simp
      · exact ev_neg (by omega) (ev_pos (by decide) (ev_neg (by decide) (Ev.now _)))
    · exact ev_neg he (ev_pos (by decide) (ev_neg (by decide) (Ev.now _)))
theorem quotes_l0 (s : ByteArray) (hs : s.size ≤ 1000) (d : Nat) : ∀ (i : Nat) (p : Bool), i + d = s.size → (p = true ↔ ∀ k : Nat, k < i → plainI (bt s (k : Nat)) = true) → Ev (fun k => supercargolaw27_TokenQuotes.l0 k s p (i : Nat)) true := by
  induction d with
  | zero =>
    intro i p hi hp
    obtain rfl : i = s.size := by omega
    exact quotes_end s hs p hp
  | succ d ih =>
    intro i p hi hp
    have next : ∀ q : Bool, (q = true ↔ (p = true ∧ plainI (bt s (i : Nat)) = true)) → Ev (fun k => supercargolaw27_TokenQuotes.l0 k s q ((i + 1 : Nat) : Int)) true := by
      intro q hq
      refine ih (i + 1) q (by omega) ?_
      rw [hq, hp]
      constructor
      · rintro ⟨h1, h2⟩ k hk
        rcases Nat.lt_or_ge k i with c | c
        · exact h1 k c
        · obtain rfl : k = i := by omega
          exact h2
      · intro h
        exact ⟨fun k hk => h k (by omega), h i (by omega)⟩
    refine succ ?_
    simp only [supercargolaw27_TokenQuotes.l0]
    rw [wrap_in (x := (i : Int) + 1) (by omega) (by omega)]
    refine ev_pos (by omega) ?_
    refine ev_ite (fun a => ev_pos (by omega) ?_) (fun a => next false ⟨fun h => absurd h (by decide), fun h => absurd h.1 a⟩)
    by_cases b : bt s (i : Nat) ≥ 32
    · refine ev_pos b ?_
      by_cases c : bt s (i : Nat) ≤ 126
      · refine ev_pos c (next _ ?_)
        unfold plainI
        rw [if_pos (by omega), if_pos c]
        exact ⟨fun h => ⟨a, h⟩, fun h => h.2⟩
      · refine ev_neg c (next false ⟨fun h => absurd h (by decide), fun h => ?_⟩)
        have h2 := h.2
        unfold plainI at h2
        rw [if_pos (by omega), if_neg c] at h2
        cases h2
    · refine ev_neg b (next false ⟨fun h => absurd h (by decide), fun h => ?_⟩)
      have h2 := h.2
      unfold plainI at h2
      rw [if_neg (by omega)] at h2
      cases h2
theorem quotes_pure (a0 : ByteArray) : Ev (fun k => supercargolaw27_TokenQuotes.f k a0) true := by
  unfold supercargolaw27_TokenQuotes.f
  refine Ev.bind awake_ev (ev_pos rfl (ev_ite (fun _ => Ev.now _) (fun a => ?_)))
  exact quotes_l0 a0 (by omega) a0.size 0 true (by omega) ⟨fun _ k hk => absurd hk (by omega), fun _ => rfl⟩
end Go.Proofs.YtamgmceogjgijaaDoor.Tok
