/- The reference's token at a place, and its Scan, are the program's. -/
import Derived.Test.YtamgmceogjgijaaDoorTokR
import Derived.Test.YtamgmceogjgijaaDoorH12
namespace Go.Proofs.YtamgmceogjgijaaDoor.Tok
open Go.RowKit Go.Proofs.YtamgmceogjgijaaDoorW.PrintWords Go.Proofs.YtamgmceogjgijaaDoorW.PrintLast Go.Proofs.YtamgmceogjgijaaDoorW.PrintMore Go.Proofs.YtamgmceogjgijaaDoor.G Go.Proofs.YtamgmceogjgijaaDoor.Ext
set_option linter.unusedVariables false
set_option linter.unusedSimpArgs false

/-- What the reference tells of a token. -/
def refTk (j : Nat) (t : Tk) : Int × Int × ByteArray × Int × Int := if t.err = 0 then (t.kind, (j : Int), t.text, (t.fin : Int), 0) else (0, 0, ⟨#[]⟩, (j : Int), t.err)
theorem ref_bad (j : Nat) : refTk j (bad 2) = (0, 0, ⟨#[]⟩, (j : Int), 2) := by unfold refTk bad; rw [if_neg (by decide)]
theorem ref_ok (j : Nat) (k : Int) (t : ByteArray) (e : Nat) : refTk j ⟨k, t, e, 0⟩ = (k, (j : Int), t, (e : Int), 0) := if_pos rfl
theorem l0_ev {s : ByteArray} {j : Nat} (hs : s.size ≤ 1000000) {r : Int × Int × ByteArray × Int × Int} (d : Nat) : ∀ i, i + d = s.size → Ev (fun k => supercargoref27_one.j1 k s j (spanN runI s i d : Nat)) r → Ev (fun k => supercargoref27_one.l0 k s j (i : Nat)) r := by
  induction d with
  | zero =>
    intro i hi h
    refine succ ?_
    simp only [supercargoref27_one.l0]
    exact ev_neg (by omega) h
  | succ d ih =>
    intro i hi h
    refine succ ?_
    simp only [supercargoref27_one.l0]
    refine ev_pos (by omega) (ev_pos (by omega) (ev_some (ref_run _) ?_))
    refine ev_ite (fun a => ?_) (fun a => ?_)
    · rw [wrap_in (by omega) (by omega)]
      rw [spanN_yes a] at h
      exact ih (i + 1) (by omega) h
    · rw [spanN_no (Bool.eq_false_iff.2 a)] at h
      exact h
theorem all_run (t : ByteArray) (h : ∀ k : Nat, k < t.size → runI (bt t (k : Nat)) = true) : allR t = true := by
  suffices h2 : ∀ d i, i + d = t.size → allFrom t i d = true from h2 t.size 0 (by omega)
  intro d
  induction d with
  | zero => intro i _; rfl
  | succ d ih => intro i hi; rw [allFrom_yes t i d (h i (by omega))]; exact ih (i + 1) (by omega)
theorem j1_ev {s : ByteArray} {j e : Nat} (hs : s.size ≤ 1000000) (h1 : j < e) (h2 : e ≤ s.size) (hr : ∀ k : Nat, j ≤ k → k < e → runI (bt s (k : Nat)) = true) :
    Ev (fun k => supercargoref27_one.j1 k s j (e : Nat)) (refTk j ⟨(runS (s.extract j e)).1, s.extract j e, e, (runS (s.extract j e)).2⟩) := by
  obtain ⟨t, ht⟩ : ∃ t, s.extract j e = t := ⟨_, rfl⟩
  have hz := size_ex s j e h2
  have hall : allR t = true := by
    rw [← ht]
    refine all_run _ (fun k hk => ?_)
    rw [bt_extract s j e k (by omega) h2]
    exact hr _ (by omega) (by omega)
  refine succ ?_
  simp only [supercargoref27_one.j1]
  refine ev_pos (by omega) (ev_pos (by omega) (ev_pos (by omega) ?_))
  rw [Int.toNat_natCast, Int.toNat_natCast, ht]
  rw [ht] at hz
  refine Ev.bind (ref_digits t (by omega)) ?_
  by_cases hd : spanN digI t 0 t.size = t.size
  · have hrs : runS t = (2, amountS t) := by unfold runS; rw [if_pos hd]
    rw [hrs]
    refine ev_pos (decide_eq_true hd) ?_
    have h0 : 0 < t.size := by omega
    have tail : ∀ q : Bool, (q = true ↔ (1 < t.size ∧ bt t 0 = 48)) → Ev (fun k => supercargoref27_one.j2 k j e t q) (refTk j ⟨2, t, e, amountS t⟩) := by
      intro q hq
      refine succ ?_
      simp only [supercargoref27_one.j2]
      refine ev_ite (fun a => ?_) (fun a => ?_)
      · have : amountS t = 2 := by unfold amountS; rw [if_pos (hq.1 a)]
        rw [this]
        exact now (by unfold refTk; rw [if_neg (by simp)])
      · obtain ⟨h3, h4⟩ := above_eq t h0 hd (fun h => a (hq.2 h))
        refine ev_some h3 ?_
        refine ev_ite (fun b => ?_) (fun b => ?_)
        · rw [of_decide_eq_true b]
          exact now (by unfold refTk; rw [if_neg (by simp)])
        · rcases h4 with h4 | h4
          · rw [h4]
            exact now (ref_ok _ _ _ _).symm
          · exact absurd (decide_eq_true h4) b
    refine ev_ite (fun a => ev_pos (by omega) (tail _ ?_)) (fun a => tail _ ?_)
    · rw [beq_iff_eq]
      exact ⟨fun h => ⟨by omega, h⟩, fun h => h.2⟩
    · exact ⟨fun h => absurd h (by decide), fun h => absurd h.1 (by omega)⟩
  · refine ev_neg (fun h => hd (of_decide_eq_true h)) (ev_some (show supercargoref27_Words.f = some wordsL from rfl) (Ev.bind (in_words t) ?_))
    refine ev_ite (fun a => ?_) (fun a => ?_)
    · have hrs : runS t = (0, 0) := by unfold runS; rw [if_neg hd, if_pos a]
      rw [hrs]
      exact now (ref_ok _ _ _ _).symm
    · refine ev_ite (fun b => ?_) (fun b => ?_)
      · have hrs : runS t = (1, 2) := by
          unfold runS
          rw [if_neg hd, if_neg a, if_neg]
          unfold nameB
          rw [if_pos (by omega), if_neg (by omega)]
          decide
        rw [hrs]
        exact now (by unfold refTk; rw [if_neg (by simp)])
      · have hrs : runS t = (1, 0) := by
          unfold runS
          rw [if_neg hd, if_neg a, if_pos]
          unfold nameB
          rw [if_pos (by omega), if_pos (by omega)]
          exact hall
        rw [hrs]
        exact now (ref_ok _ _ _ _).symm
theorem l1_ev {s : ByteArray} {j : Nat} (hs : s.size ≤ 1000000) (d : Nat) : ∀ i, i + d = s.size → j < i → Ev (fun k => supercargoref27_one.l1 k s j (i : Nat)) (if spanN capI s i d = j + 3 then (4, (j : Int), s.extract j (j + 3), ((j + 3 : Nat) : Int), 0) else (0, 0, (⟨#[]⟩ : ByteArray), (j : Int), 2)) := by
  have stop : ∀ i, i ≤ s.size → j < i → Ev (fun _ : Nat => if wrap64 ((i : Int) - j) = 3 then (if 0 ≤ (j : Int) then (if (j : Int) ≤ i then (if (i : Int) ≤ (s.size : Int) then some ((4 : Int), (j : Int), s.extract ((j : Int)).toNat ((i : Int)).toNat, (i : Int), 0) else none) else none) else none) else some (0, 0, (⟨#[]⟩ : ByteArray), (j : Int), 2)) (if i = j + 3 then ((4 : Int), (j : Int), s.extract j (j + 3), ((j + 3 : Nat) : Int), 0) else (0, 0, (⟨#[]⟩ : ByteArray), (j : Int), (2 : Int))) := by
    intro i hi hj
    rw [wrap_in (by omega) (by omega)]
    by_cases h : i = j + 3
    · subst h
      rw [if_pos rfl]
      exact ev_pos (by omega) (ev_pos (by omega) (ev_pos (by omega) (ev_pos (by omega) (now rfl))))
    · rw [if_neg h]
      exact ev_neg (by omega) (Ev.now _)
  induction d with
  | zero =>
    intro i hi hj
    refine succ ?_
    simp only [supercargoref27_one.l1]
    exact ev_neg (by omega) (stop i (by omega) hj)
  | succ d ih =>
    intro i hi hj
    refine succ ?_
    simp only [supercargoref27_one.l1]
    refine ev_pos (by omega) (ev_pos (by omega) ?_)
    by_cases a : bt s (i : Nat) ≥ 65
    · refine ev_pos a ?_
      by_cases b : bt s (i : Nat) ≤ 90
      · refine ev_pos b ?_
        rw [wrap_in (by omega) (by omega), spanN_yes (by unfold capI; rw [if_pos (by omega), decide_eq_true_eq]; omega)]
        exact ih (i + 1) (by omega) (by omega)
      · refine ev_neg b ?_
        rw [spanN_no (by unfold capI; rw [if_pos (by omega), decide_eq_false_iff_not]; omega)]
        exact stop i (by omega) hj
    · refine ev_neg a ?_
      rw [spanN_no (by unfold capI; rw [if_neg (by omega)])]
      exact stop i (by omega) hj
theorem l2_ev {s : ByteArray} {j : Nat} (hs : s.size ≤ 1000000) (d : Nat) : ∀ i, i + d = s.size → j < i → Ev (fun k => supercargoref27_one.l2 k s j (i : Nat)) (if spanN plainI s i d < s.size ∧ bt s (spanN plainI s i d : Nat) = 34 then (3, (j : Int), s.extract (j + 1) (spanN plainI s i d), ((spanN plainI s i d + 1 : Nat) : Int), 0) else (0, 0, (⟨#[]⟩ : ByteArray), (j : Int), 2)) := by
  induction d with
  | zero =>
    intro i hi hj
    refine succ ?_
    simp only [supercargoref27_one.l2]
    refine ev_neg (by omega) (succ ?_)
    simp only [supercargoref27_one.j6]
    refine ev_neg (by decide) (ev_pos (by omega) (now ?_))
    rw [if_neg]
    rintro ⟨h, _⟩
    have : i < s.size := h
    omega
  | succ d ih =>
    intro i hi hj
    refine succ ?_
    simp only [supercargoref27_one.l2]
    refine ev_pos (by omega) (ev_pos (by omega) (succ ?_))
    simp only [supercargoref27_one.j6]
    by_cases hq : bt s (i : Nat) = 34
    · refine ev_neg (by rw [hq]; decide) (ev_neg (by omega) ?_)
      rw [spanN_no (by rw [hq]; decide), if_pos (c := i < s.size ∧ bt s (i : Nat) = 34) ⟨by omega, hq⟩, wrap_in (x := (j : Int) + 1) (by omega) (by omega), wrap_in (x := (i : Int) + 1) (by omega) (by omega)]
      exact ev_pos (by omega) (ev_pos (by omega) (ev_pos (by omega) (now rfl)))
    · refine ev_pos (by rw [bne_iff_ne]; exact hq) (ev_pos (by omega) (ev_pos (by omega) ?_))
      by_cases a : bt s (i : Nat) < 32
      · rw [spanN_no (by unfold plainI; rw [if_neg (by omega)]), if_neg (fun h => hq h.2)]
        exact ev_pos a (Ev.now _)
      · refine ev_neg a ?_
        by_cases b : bt s (i : Nat) > 126
        · rw [spanN_no (by unfold plainI; rw [if_pos (by omega), if_neg (by omega)]), if_neg (fun h => hq h.2)]
          exact ev_pos b (Ev.now _)
        · refine ev_neg b ?_
          rw [spanN_yes (by unfold plainI; rw [if_pos (by omega), if_pos (by omega), bne_iff_ne]; exact hq), wrap_in (by omega) (by omega)]
          exact ih (i + 1) (by omega) (by omega)
def signL : List ByteArray := [⟨#[40]⟩, ⟨#[41]⟩, ⟨#[44]⟩, ⟨#[59]⟩, ⟨#[58]⟩, ⟨#[46]⟩, ⟨#[61]⟩, ⟨#[126]⟩]
theorem sign_all : ∀ c : Fin 256, (signL.any fun w => w.data.toList == (strOfNums [(c.val : Int)]).data.toList) = singleB (c.val : Int) := by decide +kernel
theorem in_sign (s : ByteArray) (i : Int) : Ev (fun k => supercargoref27_in.f k signL (strOfNums [bt s i])) (singleB (bt s i)) := by
  obtain ⟨c, hc⟩ := bt_fin s i
  rw [hc, ← sign_all c]
  exact in_ev signL _ (by decide)
theorem ref_one {s : ByteArray} {j : Nat} (hj : j < s.size) (hs : s.size ≤ 1000000) : Ev (fun k => supercargoref27_one.f k s j) (refTk j (tokAt s j)) := by
  unfold supercargoref27_one.f
  refine ev_pos (by omega) (ev_pos (by omega) (ev_some (ref_run _) ?_))
  rw [wrap_in (x := (j : Int) + 1) (by omega) (by omega)]
  obtain ⟨d, hd⟩ : ∃ d, s.size - j = d + 1 := ⟨s.size - j - 1, by omega⟩
  cases hr : runI (bt s j) with
  | true =>
    refine ev_pos rfl ?_
    obtain ⟨e, he⟩ : ∃ e, spanN runI s j (s.size - j) = e := ⟨_, rfl⟩
    rw [tok_run hr he]
    have he2 := he
    rw [hd, spanN_yes hr] at he2
    have hrg := span_range runI s d (j + 1)
    refine l0_ev hs d (j + 1) (by omega) ?_
    rw [he2] at hrg ⊢
    exact j1_ev hs (by omega) (by omega) (fun k a b => span_in runI s (s.size - j) j k a (by omega))
  | false =>
    refine ev_neg (by decide) ?_
    have tail : ∀ q : Bool, q = capI (bt s j) → Ev (fun k => supercargoref27_one.j3 k s j (bt s j) ((j + 1 : Nat) : Int) q) (refTk j (tokAt s j)) := by
      intro q hq
      refine succ ?_
      simp only [supercargoref27_one.j3]
      cases hc : capI (bt s j) with
      | true =>
        rw [hc] at hq
        refine ev_pos hq ?_
        obtain ⟨e, he⟩ : ∃ e, spanN capI s j (s.size - j) = e := ⟨_, rfl⟩
        rw [tok_cap hr hc he]
        have he2 := he
        rw [hd, spanN_yes hc] at he2
        have h1 := l1_ev hs (j := j) d (j + 1) (by omega) (by omega)
        rw [he2] at h1
        by_cases h3 : e = j + 3
        · rw [if_pos h3] at h1 ⊢; rw [ref_ok]; exact h1
        · rw [if_neg h3] at h1 ⊢; rw [ref_bad]; exact h1
      | false =>
        rw [hc] at hq
        refine ev_neg (by rw [hq]; decide) ?_
        by_cases hqq : bt s j = 34
        · refine ev_pos hqq ?_
          obtain ⟨e, he⟩ : ∃ e, spanN plainI s (j + 1) (s.size - (j + 1)) = e := ⟨_, rfl⟩
          rw [tok_text hr hc hqq he]
          rw [show s.size - (j + 1) = d by omega] at he
          have h1 := l2_ev hs (j := j) d (j + 1) (by omega) (by omega)
          rw [he] at h1
          by_cases h3 : e < s.size ∧ bt s e = 34
          · rw [if_pos h3] at h1 ⊢; rw [ref_ok]; exact h1
          · rw [if_neg h3] at h1 ⊢; rw [ref_bad]; exact h1
        · refine ev_neg hqq ?_
          rw [tok_sign hr hc hqq]
          have j7 : ∀ p : Bool, (p = true ↔ (doubleB (bt s j) = true ∧ j + 1 < s.size ∧ bt s ((j + 1 : Nat) : Int) = 61)) → Ev (fun k => supercargoref27_one.j7 k s j (bt s j) ((j + 1 : Nat) : Int) p) (refTk j (if singleB (bt s j) = true then ⟨5, s.extract j (j + 1), j + 1, 0⟩ else if doubleB (bt s j) = true ∧ j + 1 < s.size ∧ bt s ((j + 1 : Nat) : Int) = 61 then ⟨5, s.extract j (j + 2), j + 2, 0⟩ else bad 2)) := by
            intro p hp
            refine succ ?_
            simp only [supercargoref27_one.j7]
            refine ev_ite (fun a => ?_) (fun a => ?_)
            · have h2 := hp.1 a
              have h3 : ¬ singleB (bt s j) = true := by
                have h4 := h2.1
                unfold doubleB at h4
                simp only [Bool.or_eq_true, beq_iff_eq] at h4
                rcases h4 with h4 | h4 <;> (rw [h4]; decide)
              rw [if_neg h3, if_pos h2, ref_ok, wrap_in (by omega) (by omega)]
              exact ev_pos (by omega) (ev_pos (by omega) (ev_pos (by omega) (now rfl)))
            · refine Ev.bind (in_sign s j) ?_
              refine ev_ite (fun b => ?_) (fun b => ?_)
              · rw [if_pos b, ref_ok]
                exact ev_pos (by omega) (ev_pos (by omega) (ev_pos (by omega) (now rfl)))
              · rw [if_neg b, if_neg (fun h => a (hp.2 h)), ref_bad]
                exact Ev.now _
          have j7' : (bt s j = 60 ∨ bt s j = 62) → Ev (fun k => if ((j + 1 : Nat) : Int) < (s.size : Int) then (if 0 ≤ ((j + 1 : Nat) : Int) then supercargoref27_one.j7 k s j (bt s j) ((j + 1 : Nat) : Int) (bt s ((j + 1 : Nat) : Int) == 61) else none) else supercargoref27_one.j7 k s j (bt s j) ((j + 1 : Nat) : Int) false) (refTk j (if singleB (bt s j) = true then ⟨5, s.extract j (j + 1), j + 1, 0⟩ else if doubleB (bt s j) = true ∧ j + 1 < s.size ∧ bt s ((j + 1 : Nat) : Int) = 61 then ⟨5, s.extract j (j + 2), j + 2, 0⟩ else bad 2)) := by
            intro h
            have hdb : doubleB (bt s j) = true := by unfold doubleB; rcases h with h | h <;> rw [h] <;> decide
            refine ev_ite (fun a => ev_pos (by omega) (j7 _ ?_)) (fun a => j7 _ ?_)
            · rw [beq_iff_eq]
              exact ⟨fun h => ⟨hdb, by omega, h⟩, fun h => h.2.2⟩
            · exact ⟨fun h => absurd h (by decide), fun h => absurd h.2.1 (by omega)⟩
          refine ev_ite (fun a => j7' (.inl a)) (fun a => ev_ite (fun b => j7' (.inr b)) (fun b => j7 _ ⟨fun h => absurd h (by decide), fun h => ?_⟩))
          have h4 := h.1
          unfold doubleB at h4
          simp only [Bool.or_eq_true, beq_iff_eq] at h4
          rcases h4 with h4 | h4
          · exact absurd h4 a
          · exact absurd h4 b
    refine ev_ite (fun a => tail _ ?_) (fun a => tail _ ?_)
    · unfold capI; rw [if_pos (by omega)]
    · unfold capI; rw [if_neg (by omega)]
theorem ref_blank {s : ByteArray} (hs : s.size ≤ 1000000) {acc : List S31} {r : List S31 × Int × Int} (d : Nat) : ∀ i, i + d = s.size → Ev (fun k => supercargoref27_Scan.j2 k s acc (spanN blankI s i d : Nat)) r → Ev (fun k => supercargoref27_Scan.l1 k s acc (i : Nat)) r := by
  induction d with
  | zero =>
    intro i hi h
    refine succ ?_
    simp only [supercargoref27_Scan.l1]
    exact ev_neg (by omega) h
  | succ d ih =>
    intro i hi h
    refine succ ?_
    simp only [supercargoref27_Scan.l1]
    refine ev_pos (by omega) (ev_pos (by omega) ?_)
    have hw : wrap64 ((i : Int) + 1) = ((i + 1 : Nat) : Int) := wrap_in (by omega) (by omega)
    refine ev_ite (fun a => ?_) (fun a => ev_ite (fun b => ?_) (fun b => ?_))
    · rw [hw]
      rw [spanN_yes (by unfold blankI; rw [a]; rfl)] at h
      exact ih (i + 1) (by omega) h
    · rw [hw]
      rw [spanN_yes (by unfold blankI; rw [b]; rfl)] at h
      exact ih (i + 1) (by omega) h
    · rw [spanN_no (by unfold blankI; rw [beq_eq_false_iff_ne.2 a, beq_eq_false_iff_ne.2 b]; rfl)] at h
      exact h
theorem ref_l0 {s : ByteArray} (hs : s.size ≤ 1000000) {i n : Nat} {l : List S31} {e : Int} (h : Run s i l n e) : ∀ acc : List S31, i ≤ s.size → acc.length + l.length < 4096 → Ev (fun k => supercargoref27_Scan.l0 k s acc i) (if e = 0 then acc ++ l else [], (n : Int), e) := by
  have open1 : ∀ (acc : List S31) (i j : Nat) (r : List S31 × Int × Int), i ≤ s.size → bl s i = j → Ev (fun k => supercargoref27_Scan.j2 k s acc (j : Nat)) r → Ev (fun k => supercargoref27_Scan.l0 k s acc i) r := by
    intro acc i j r hi hb h
    refine succ ?_
    simp only [supercargoref27_Scan.l0]
    refine ref_blank hs (s.size - i) i (by omega) ?_
    unfold bl at hb
    rw [hb]
    exact h
  induction h with
  | @done i hb =>
    intro acc hi hl
    refine open1 acc i s.size _ hi hb (succ ?_)
    simp only [supercargoref27_Scan.j2]
    rw [List.append_nil]
    exact ev_pos trivial (now rfl)
  | @stop i j hb hj he =>
    intro acc hi hl
    refine open1 acc i j _ hi hb (succ ?_)
    simp only [supercargoref27_Scan.j2]
    have h1 := ref_one hj hs
    have h2 : refTk j (tokAt s j) = (0, 0, ⟨#[]⟩, (j : Int), (tokAt s j).err) := by unfold refTk; rw [if_neg he]
    rw [h2] at h1
    rw [if_neg he]
    exact ev_neg (by omega) (ev_neg (by simp only [List.length_nil] at hl; omega) (Ev.bind h1 (ev_neg he (Ev.now _))))
  | @step i j l n e hb hj he hr ih =>
    intro acc hi hl
    refine open1 acc i j _ hi hb (succ ?_)
    simp only [supercargoref27_Scan.j2]
    have h1 := ref_one hj hs
    have h2 : refTk j (tokAt s j) = ((tokAt s j).kind, (j : Int), (tokAt s j).text, ((tokAt s j).fin : Int), 0) := by unfold refTk; rw [if_pos he]
    rw [h2] at h1
    simp only [List.length_cons] at hl
    refine ev_neg (by omega) (ev_neg (by omega) (Ev.bind h1 (ev_pos rfl (ev_pos (by omega) ?_))))
    have := ih (acc ++ [tkS s j]) (fin_range s j hj hs he).2 (by simp only [List.length_append, List.length_cons, List.length_nil]; omega)
    rw [List.append_assoc] at this
    exact this
theorem ref_scan {s : ByteArray} (hs : s.size ≤ 1000000) {n : Nat} {l : List S31} {e : Int} (h : Run s 0 l n e) (hl : l.length < 4096) : Ev (fun k => supercargoref27_Scan.f k s) (if e = 0 then l else [], (n : Int), e) := by
  have := ref_l0 hs h [] (Nat.zero_le _) (by simpa using hl)
  simpa [supercargoref27_Scan.f] using this
end Go.Proofs.YtamgmceogjgijaaDoor.Tok
