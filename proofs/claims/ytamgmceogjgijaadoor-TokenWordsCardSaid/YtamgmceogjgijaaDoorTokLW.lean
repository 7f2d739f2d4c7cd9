/- TokenWords, plain. -/
import Derived.Test.YtamgmceogjgijaaDoorTokK0
import Derived.Test.YtamgmceogjgijaaDoorH16
import Derived.Test.YtamgmceogjgijaaDoorH28
import Derived.Test.YtamgmceogjgijaaDoorH29
import Derived.Test.YtamgmceogjgijaaDoorH17
import Derived.Test.YtamgmceogjgijaaDoorH6
namespace Go.Proofs.YtamgmceogjgijaaDoor.Tok
open Go.RowKit Go.Proofs.YtamgmceogjgijaaDoorW.PrintWords Go.Proofs.YtamgmceogjgijaaDoorW.PrintLast Go.Proofs.YtamgmceogjgijaaDoorW.PrintMore Go.Proofs.YtamgmceogjgijaaDoor.G Go.Proofs.YtamgmceogjgijaaDoor.Ext
set_option linter.unusedVariables false
set_option linter.unusedSimpArgs false

theorem name3_ev (s : ByteArray) (hs : s.size ≤ 9223372036854775807) : Ev (fun k => supercargoref03_Name.f k s) (nameB s) := by
  suffices h : ∀ d i : Nat, i + d = s.size → Ev (fun k => supercargoref03_Name.l0 k s (i : Nat)) (allFrom s i d && (decide (1 ≤ s.size) && decide (s.size ≤ 16))) by
    have h1 := h s.size 0 (by omega)
    have e : (allFrom s 0 s.size && (decide (1 ≤ s.size) && decide (s.size ≤ 16))) = nameB s := by
      unfold nameB allR
      by_cases a : 1 ≤ s.size
      · by_cases b : s.size ≤ 16
        · simp [a, b]
        · simp [a, b]
      · simp [a]
    rw [e] at h1
    exact h1
  intro d
  induction d with
  | zero =>
    intro i hi
    refine succ ?_
    simp only [supercargoref03_Name.l0]
    refine ev_neg (by omega) (ev_ite (fun a => now ?_) (fun a => now ?_))
    · rw [decide_eq_true (show 1 ≤ s.size by omega)]
      simp only [allFrom, Bool.true_and]
      exact decide_eq_decide.2 (by omega)
    · rw [decide_eq_false (show ¬ 1 ≤ s.size by omega)]
      simp
  | succ d ih =>
    intro i hi
    have next := ih (i + 1) (by omega)
    refine succ ?_
    simp only [supercargoref03_Name.l0]
    rw [wrap_in (x := (i : Int) + 1) (by omega) (by omega)]
    have hlow : supercargoref03_letter.f (bt s (i : Nat)) = some (lowI (bt s (i : Nat))) := by
      unfold supercargoref03_letter.f lowI
      by_cases c : 97 ≤ bt s (i : Nat)
      · rw [if_pos c, if_pos c]
      · rw [if_neg c, if_neg c]
    have hdig : supercargoref03_digit.f (bt s (i : Nat)) = some (digI (bt s (i : Nat))) := by
      unfold supercargoref03_digit.f digI
      by_cases c : 48 ≤ bt s (i : Nat)
      · rw [if_pos c, if_pos c]
      · rw [if_neg c, if_neg c]
    refine ev_pos (by omega) (ev_pos (by omega) (ev_some hlow ?_))
    refine ev_ite (fun a => ?_) (fun a => ev_some hdig (ev_ite (fun b => ?_) (fun b => ev_ite (fun c => ?_) (fun c => ?_))))
    · rw [allFrom_yes s i d (by unfold runI; rw [a]; rfl)]; exact next
    · rw [allFrom_yes s i d (by unfold runI; rw [b]; simp)]; exact next
    · rw [allFrom_yes s i d (by unfold runI; rw [c]; simp)]; exact next
    · rw [allFrom_no s i d (by unfold runI; rw [Bool.eq_false_iff.2 a, Bool.eq_false_iff.2 b, beq_eq_false_iff_ne.2 c]; rfl)]
      exact now (by simp)
theorem word_tok : ∀ w, w ∈ wordsL → (tokAt w 0).kind = 0 ∧ (tokAt w 0).text = w ∧ (tokAt w 0).fin = w.size ∧ (tokAt w 0).err = 0 ∧ blankI (bt w ((0 : Nat) : Int)) = false ∧ 0 < w.size ∧ w.size ≤ 16 ∧ spanN digI w 0 w.size ≠ w.size := by decide +kernel
theorem word_run {w : ByteArray} (h : w ∈ wordsL) : Run w 0 [⟨0, 0, w⟩] w.size 0 := by
  obtain ⟨h1, h2, h3, h4, h5, h6, _⟩ := word_tok w h
  refine run_one h5 h6 ?_
  cases hh : tokAt w 0 with
  | mk k t f e =>
    rw [hh] at h1 h2 h3 h4
    simp only at h1 h2 h3 h4
    rw [h1, h2, h3, h4]
theorem mem_of {s : ByteArray} : memB s = true ↔ s ∈ wordsL := by
  unfold memB
  rw [List.any_eq_true]
  constructor
  · rintro ⟨x, hx, he⟩
    rw [← ba_list (beq_iff_eq.1 he)]
    exact hx
  · intro h
    exact ⟨s, h, by simp⟩
/-- A name, scanned. -/
theorem name_run {s : ByteArray} (hn : nameB s = true) : Run s 0 (if (runS s).2 = 0 then [⟨(runS s).1, 0, s⟩] else []) (if (runS s).2 = 0 then s.size else 0) (runS s).2 := by
  have h1 : 1 ≤ s.size ∧ s.size ≤ 16 ∧ allR s = true := by
    unfold nameB at hn
    split at hn
    · split at hn
      · exact ⟨by assumption, by assumption, hn⟩
      · cases hn
    · cases hn
  have hall : ∀ d i : Nat, i + d = s.size → allFrom s i d = true → ∀ k : Nat, i ≤ k → k < s.size → runI (bt s (k : Nat)) = true := by
    intro d
    induction d with
    | zero => intro i hi _ k h1 h2; omega
    | succ d ih =>
      intro i hi h k h1 h2
      by_cases c : runI (bt s (i : Nat)) = true
      · rw [allFrom_yes s i d c] at h
        rcases Nat.eq_or_lt_of_le h1 with e | e
        · rw [← e]; exact c
        · exact ih (i + 1) (by omega) h k e h2
      · rw [allFrom_no s i d (Bool.eq_false_iff.2 c)] at h; cases h
  have hr := hall s.size 0 (by omega) h1.2.2
  have h0 := hr 0 (Nat.le_refl _) (by omega)
  have he : spanN runI s 0 (s.size - 0) = s.size := span_eq runI s _ 0 _ (by omega) (by omega) (fun k _ b => hr k (Nat.zero_le _) b) (fun h => by omega)
  have ht := tok_run h0 he
  rw [ex_all] at ht
  have hb : blankI (bt s ((0 : Nat) : Int)) = false := by
    cases hbb : blankI (bt s ((0 : Nat) : Int)) with
    | false => rfl
    | true => rw [(blank_no hbb).1] at h0; cases h0
  by_cases c : (runS s).2 = 0
  · rw [if_pos c, if_pos c, c]
    rw [c] at ht
    exact run_one hb (by omega) ht
  · rw [if_neg c, if_neg c]
    have hbl : bl s 0 = 0 := by
      unfold bl
      obtain ⟨d, hd⟩ : ∃ d, s.size - 0 = d + 1 := ⟨s.size - 1, by omega⟩
      rw [hd]
      exact spanN_no hb
    have h2 := Run.stop (s := s) hbl (by omega) (by rw [ht]; exact c)
    rw [ht] at h2
    exact h2
theorem runS_word {s : ByteArray} (h : memB s = true) : runS s = (0, 0) := by
  have h2 := (word_tok s (mem_of.1 h)).2.2.2.2.2.2.2
  unfold runS
  rw [if_neg h2, if_pos h]
theorem runS_other {s : ByteArray} (h : memB s = false) (hn : nameB s = true) : (runS s).1 = 2 ∨ (runS s).1 = 1 := by
  by_cases c : spanN digI s 0 s.size = s.size
  · have e : runS s = (2, amountS s) := by unfold runS; rw [if_pos c]
    rw [e]
    exact .inl rfl
  · have e : runS s = (1, 0) := by unfold runS; rw [if_neg c, if_neg (by rw [h]; decide), if_pos hn]
    rw [e]
    exact .inr rfl
theorem words_j1 (s : ByteArray) (hs : s.size ≤ 9223372036854775807) : Ev (fun k => supercargolaw27_TokenWords.j1 k s wordsL (memB s) (!nameB s)) true := by
  refine succ ?_
  simp only [supercargolaw27_TokenWords.j1]
  refine ev_ite (fun a => ev_some (show supercargoref27_Words.f = some wordsL from rfl) (now (by decide))) (fun a => ?_)
  have hn : nameB s = true := by simpa using a
  have hz : s.size ≤ 16 := by
    unfold nameB at hn
    split at hn
    · split at hn
      · assumption
      · cases hn
    · cases hn
  have hrun := name_run hn
  have hl : (if (runS s).2 = 0 then [(⟨(runS s).1, 0, s⟩ : S31)] else []).length < 4096 := by split <;> simp
  refine Ev.bind (scan_ev (by omega) hrun hl) ?_
  by_cases c : (runS s).2 = 0
  · simp only [c, if_true]
    refine ev_pos (by simp) (ev_pos (by simp) ?_)
    rw [show rd_T31 [(⟨(runS s).1, 0, s⟩ : S31)] 0 = ⟨(runS s).1, 0, s⟩ from rfl]
    cases hm : memB s with
    | true =>
      rw [runS_word hm]
      exact ev_pos rfl (ev_pos rfl (now (by simp)))
    | false =>
      rcases runS_other hm hn with h | h
      · simp only [h]
        exact ev_pos (by decide) (ev_neg (by decide) (ev_neg (by decide) (ev_pos trivial (now (by simp)))))
      · simp only [h]
        exact ev_pos (by decide) (ev_neg (by decide) (ev_pos trivial (now (by simp))))
  · have hm : memB s = false := by
      cases hm : memB s with
      | false => rfl
      | true => rw [runS_word hm] at c; exact absurd rfl c
    simp only [if_neg c]
    exact ev_pos rfl (now (by simp [hm]))
theorem rd_word (i : Nat) (h : i < 35) : rdOf ByteArray.empty wordsL ((i : Nat) : Int) = wordsL[i]'h := by
  unfold rdOf
  rw [Int.toNat_natCast, List.getD_eq_getElem?_getD, List.getElem?_eq_getElem (show i < wordsL.length from h)]
  rfl
theorem less_word (i : Nat) (h : i < 34) : Op.bytesLess (wordsL[i]'(by show i < 35; omega)).toList (wordsL[i + 1]'(by show i + 1 < 35; omega)).toList = true := by
  have h1 := wd_rise (i + 1) (by omega) i (by omega)
  have e1 : ∀ j (hj : j < 35), wd j = (wordsL[j]'hj).toList := by
    intro j hj
    unfold wd
    rw [ByteArray.toList_eq, List.getD_eq_getElem?_getD, List.getElem?_eq_getElem (show j < wordsL.length from hj)]
    rfl
  rw [e1 i (by omega), e1 (i + 1) (by omega)] at h1
  rw [Go.Proofs.bytesLess_eq]
  exact decide_eq_true h1
theorem words_l0 (s : ByteArray) (hs : s.size ≤ 9223372036854775807) (d : Nat) : ∀ i : Nat, i + d = 35 → Ev (fun k => supercargolaw27_TokenWords.l0 k s wordsL ((wordsL.take i).any fun w => w.data.toList == s.data.toList) (i : Nat)) true := by
  induction d with
  | zero =>
    intro i hi
    refine succ ?_
    simp only [supercargolaw27_TokenWords.l0]
    rw [List.take_of_length_le (by show 35 ≤ i; omega)]
    exact ev_neg (by show ¬ ((i : Int) < ((35 : Nat) : Int)); omega) (ev_some (show supercargoref27_Words.f = some wordsL from rfl) (ev_pos rfl (Ev.bind (name3_ev s hs) (words_j1 s hs))))
  | succ d ih =>
    intro i hi
    have hi35 : i < 35 := by omega
    have hil : i < wordsL.length := hi35
    have hm : wordsL[i] ∈ wordsL := List.getElem_mem hil
    have hsz : (wordsL[i]).size ≤ 16 := (word_tok _ hm).2.2.2.2.2.2.1
    have next := ih (i + 1) (by omega)
    rw [List.take_succ_eq_append_getElem hil, List.any_append] at next
    simp only [List.any_cons, List.any_nil, Bool.or_false] at next
    have tail : Ev (fun k => if ((wordsL.take i).any fun w => w.data.toList == s.data.toList) = true then supercargolaw27_TokenWords.l0 k s wordsL true ((i + 1 : Nat) : Int) else supercargolaw27_TokenWords.l0 k s wordsL ((wordsL[i]).toList == s.toList) ((i + 1 : Nat) : Int)) true := by
      refine ev_ite (fun a => ?_) (fun a => ?_)
      · rw [a, Bool.true_or] at next; exact next
      · rw [Bool.eq_false_iff.2 a, Bool.false_or] at next
        rw [ByteArray.toList_eq, ByteArray.toList_eq]
        exact next
    refine succ ?_
    simp only [supercargolaw27_TokenWords.l0]
    rw [rd_word i hi35, wrap_in (x := (i : Int) + 1) (by omega) (by omega)]
    refine ev_pos (by show (i : Int) < ((35 : Nat) : Int); omega) (ev_pos (by omega) (Ev.bind (scan_ev (by omega) (word_run hm) (by show 1 < 4096; omega)) ?_))
    simp only [if_true]
    refine ev_pos (by simp) (ev_pos (by simp) (ev_neg (by simp [rd_T31]) ?_))
    refine ev_ite (fun a => ?_) (fun a => tail)
    obtain ⟨m, rfl⟩ : ∃ m, i = m + 1 := ⟨i - 1, by omega⟩
    rw [wrap_in (by omega) (by omega), show ((m + 1 : Nat) : Int) - 1 = ((m : Nat) : Int) by omega, rd_word m (by omega)]
    exact ev_pos (by omega) (ev_pos (by show (m : Int) < ((35 : Nat) : Int); omega) (ev_pos (less_word m (by omega)) tail))
theorem words_pure (a0 : ByteArray) (h : a0.size ≤ 9223372036854775807) : Ev (fun k => supercargolaw27_TokenWords.f k a0) true := by
  unfold supercargolaw27_TokenWords.f
  refine Ev.bind awake_ev (ev_pos rfl (ev_some (show token_Words.f = some wordsL from rfl) ?_))
  exact words_l0 a0 h 35 0 (by omega)
end Go.Proofs.YtamgmceogjgijaaDoor.Tok
