/- A token alone is itself. -/
import Derived.Test.YtamgmceogjgijaaDoorTokE
namespace Go.Proofs.YtamgmceogjgijaaDoor.Tok
open Go.RowKit Go.Proofs.YtamgmceogjgijaaDoorW.PrintWords Go.Proofs.YtamgmceogjgijaaDoorW.PrintLast Go.Proofs.YtamgmceogjgijaaDoorW.PrintMore Go.Proofs.YtamgmceogjgijaaDoor.G Go.Proofs.YtamgmceogjgijaaDoor.Ext
set_option linter.unusedVariables false
set_option linter.unusedSimpArgs false

theorem ba_ext {a b : ByteArray} (h : a.size = b.size) (hk : ∀ k : Nat, k < a.size → bt a (k : Nat) = bt b (k : Nat)) : a = b := by
  refine ByteArray.ext_getElem h (fun k h1 h2 => ?_)
  have e := hk k h1
  unfold bt at e
  simp only [Int.toNat_natCast] at e
  rw [dif_pos h1, dif_pos h2] at e
  exact UInt8.toNat_inj.1 (by omega)
theorem bt_left (a b : ByteArray) (k : Nat) (hk : k < a.size) : bt (a ++ b) (k : Nat) = bt a (k : Nat) := by
  have := ext_bt (u := a ++ b) (s := a) (p := 0) (by have := ap_size a b; omega) (ap_ex a b) k hk
  rwa [Nat.zero_add] at this
theorem bt_right (a b : ByteArray) (k : Nat) (hk : k < b.size) : bt (a ++ b) ((a.size + k : Nat) : Int) = bt b (k : Nat) :=
  ext_bt (u := a ++ b) (s := b) (p := a.size) (by have := ap_size a b; omega) (ap_ex2 a b) k hk
theorem ex_all (z : ByteArray) : z.extract 0 z.size = z := by
  refine ba_ext (by rw [size_ex z 0 z.size (Nat.le_refl _)]; omega) (fun k hk => ?_)
  rw [size_ex z 0 z.size (Nat.le_refl _)] at hk
  rw [bt_extract z 0 z.size k (by omega) (Nat.le_refl _), Nat.zero_add]
def showS (x : S31) : ByteArray := if x.f0 = 3 then ((⟨#[34]⟩ : ByteArray) ++ x.f2) ++ (⟨#[34]⟩ : ByteArray) else x.f2
/-- A token that is the only one of its own text. -/
def Good (x : S31) : Prop := Run (showS x) 0 [⟨x.f0, 0, x.f2⟩] (showS x).size 0 ∧ 0 < (showS x).size
theorem runS_kind (s : ByteArray) : (runS s).1 ≠ 3 := by
  unfold runS
  split
  · simp
  · split
    · simp
    · split <;> simp
theorem quoted_size (x : ByteArray) : (((⟨#[34]⟩ : ByteArray) ++ x) ++ (⟨#[34]⟩ : ByteArray)).size = x.size + 2 := by
  have e : (⟨#[34]⟩ : ByteArray).size = 1 := rfl
  rw [ap_size, ap_size, e]; omega
theorem quoted_first (x : ByteArray) : bt (((⟨#[34]⟩ : ByteArray) ++ x) ++ (⟨#[34]⟩ : ByteArray)) ((0 : Nat) : Int) = 34 := by
  have e : (⟨#[34]⟩ : ByteArray).size = 1 := rfl
  rw [bt_left _ _ 0 (by rw [ap_size, e]; omega), bt_left _ _ 0 (by rw [e]; omega)]
  decide
theorem quoted_mid (x : ByteArray) (k : Nat) (hk : k < x.size) : bt (((⟨#[34]⟩ : ByteArray) ++ x) ++ (⟨#[34]⟩ : ByteArray)) ((k + 1 : Nat) : Int) = bt x (k : Nat) := by
  have e : (⟨#[34]⟩ : ByteArray).size = 1 := rfl
  rw [bt_left _ _ (k + 1) (by rw [ap_size, e]; omega)]
  have := bt_right (⟨#[34]⟩ : ByteArray) x k hk
  rw [e, Nat.add_comm] at this
  exact this
theorem quoted_last (x : ByteArray) : bt (((⟨#[34]⟩ : ByteArray) ++ x) ++ (⟨#[34]⟩ : ByteArray)) ((x.size + 1 : Nat) : Int) = 34 := by
  have e : (⟨#[34]⟩ : ByteArray).size = 1 := rfl
  have := bt_right ((⟨#[34]⟩ : ByteArray) ++ x) (⟨#[34]⟩ : ByteArray) 0 (by rw [e]; omega)
  rw [ap_size, e, Nat.add_zero, Nat.add_comm] at this
  rw [this]
  decide
theorem quoted_cut (s : ByteArray) (j e : Nat) (h1 : j + 1 ≤ e) (h2 : e < s.size) (h3 : bt s j = 34) (h4 : bt s e = 34) : ((⟨#[34]⟩ : ByteArray) ++ s.extract (j + 1) e) ++ (⟨#[34]⟩ : ByteArray) = s.extract j (e + 1) := by
  have z1 := size_ex s (j + 1) e (by omega)
  have z2 := size_ex s j (e + 1) (by omega)
  refine ba_ext (by rw [quoted_size, z1, z2]; omega) (fun k hk => ?_)
  rw [quoted_size, z1] at hk
  rw [bt_extract s j (e + 1) k (by omega) (by omega)]
  rcases Nat.eq_zero_or_pos k with h | h
  · subst h; rw [quoted_first, Nat.add_zero, h3]
  · obtain ⟨m, rfl⟩ : ∃ m, k = m + 1 := ⟨k - 1, by omega⟩
    rcases Nat.lt_or_ge m (e - (j + 1)) with h5 | h5
    · rw [quoted_mid _ m (by omega), bt_extract s (j + 1) e m (by omega) (by omega), show j + 1 + m = j + (m + 1) by omega]
    · have h6 : m = (s.extract (j + 1) e).size := by omega
      rw [h6, quoted_last, z1, show j + (e - (j + 1) + 1) = e by omega, h4]
/-- A text whose first byte begins a token that ends with the text. -/
theorem run_one {z : ByteArray} {k : Int} {t : ByteArray} (hb : blankI (bt z ((0 : Nat) : Int)) = false) (h0 : 0 < z.size) (h : tokAt z 0 = ⟨k, t, z.size, 0⟩) : Run z 0 [⟨k, 0, t⟩] z.size 0 := by
  have h1 : bl z 0 = 0 := by
    unfold bl
    obtain ⟨d, hd⟩ : ∃ d, z.size - 0 = d + 1 := ⟨z.size - 1, by omega⟩
    rw [hd]
    exact spanN_no hb
  have h2 : tkS z 0 = ⟨k, 0, t⟩ := by unfold tkS; rw [h]; rfl
  rw [← h2]
  refine .step h1 h0 (by rw [h]) ?_
  rw [h]
  refine .done ?_
  have := bl_range z z.size (Nat.le_refl _)
  show bl z z.size = z.size
  omega
theorem tok_alone {s : ByteArray} {j : Nat} (hj : j < s.size) (hs : s.size ≤ 1000000) (he : (tokAt s j).err = 0) :
    tokAt (s.extract j (tokAt s j).fin) 0 = ⟨(tokAt s j).kind, (tokAt s j).text, (tokAt s j).fin - j, 0⟩ ∧ showS (tkS s j) = s.extract j (tokAt s j).fin := by
  have hfr := fin_range s j hj hs he
  obtain ⟨f, hf⟩ : ∃ f, (tokAt s j).fin = f := ⟨_, rfl⟩
  rw [hf] at hfr ⊢
  have hz := size_ex s j f hfr.2
  have hB : ∀ k : Nat, k < f - j → bt (s.extract j f) (k : Nat) = bt s ((j + k : Nat) : Int) := fun k hk => bt_extract s j f k (by omega) hfr.2
  have h0 := hB 0 (by omega)
  rw [Nat.add_zero] at h0
  have hall := ex_all (s.extract j f)
  rw [hz] at hall
  cases hr : runI (bt s j) with
  | true =>
    obtain ⟨e, hee⟩ : ∃ e, spanN runI s j (s.size - j) = e := ⟨_, rfl⟩
    have ht := tok_run hr hee
    rw [ht] at hf he ⊢
    obtain rfl : e = f := hf
    have hsp : spanN runI (s.extract j e) 0 ((s.extract j e).size - 0) = e - j := by
      refine span_eq runI _ _ 0 _ (by omega) (by omega) (fun k a b => ?_) (fun h => by omega)
      rw [hB k b]
      exact span_in runI s (s.size - j) j _ (by omega) (by omega)
    refine ⟨?_, ?_⟩
    · rw [tok_run (by rw [h0]; exact hr) hsp, hall]
      show (⟨_, _, _, _⟩ : Tk) = ⟨_, _, _, 0⟩
      congr 1
    · unfold showS tkS
      rw [ht]
      exact if_neg (runS_kind _)
  | false =>
    cases hc : capI (bt s j) with
    | true =>
      obtain ⟨e, hee⟩ : ∃ e, spanN capI s j (s.size - j) = e := ⟨_, rfl⟩
      have ht := tok_cap hr hc hee
      by_cases h3 : e = j + 3
      · rw [if_pos h3] at ht
        rw [ht] at hf ⊢
        obtain rfl : j + 3 = f := hf
        have hsp : spanN capI (s.extract j (j + 3)) 0 ((s.extract j (j + 3)).size - 0) = 3 := by
          refine span_eq capI _ _ 0 _ (by omega) (by omega) (fun k a b => ?_) (fun h => by omega)
          rw [hB k (by omega)]
          exact span_in capI s (s.size - j) j _ (by omega) (by omega)
        refine ⟨?_, ?_⟩
        · have h4 : (s.extract j (j + 3)).extract 0 (0 + 3) = s.extract j (j + 3) := by rw [show 0 + 3 = j + 3 - j by omega]; exact hall
          rw [tok_cap (by rw [h0]; exact hr) (by rw [h0]; exact hc) hsp, if_pos rfl, h4, show j + 3 - j = 0 + 3 by omega]
        · unfold showS tkS
          rw [ht]
          exact if_neg (by simp)
      · rw [if_neg h3] at ht
        rw [ht] at he
        simp [bad] at he
    | false =>
      by_cases hq : bt s j = 34
      · obtain ⟨e, hee⟩ : ∃ e, spanN plainI s (j + 1) (s.size - (j + 1)) = e := ⟨_, rfl⟩
        have hrg := span_range plainI s (s.size - (j + 1)) (j + 1)
        rw [hee] at hrg
        have ht := tok_text hr hc hq hee
        by_cases h3 : e < s.size ∧ bt s e = 34
        · rw [if_pos h3] at ht
          rw [ht] at hf ⊢
          obtain rfl : e + 1 = f := hf
          have hl := hB (e - j) (by omega)
          rw [show j + (e - j) = e by omega, h3.2] at hl
          have hsp : spanN plainI (s.extract j (e + 1)) (0 + 1) ((s.extract j (e + 1)).size - (0 + 1)) = e - j := by
            refine span_eq plainI _ _ (0 + 1) _ (by omega) (by omega) (fun k a b => ?_) (fun h => ?_)
            · rw [hB k (by omega)]
              exact span_in plainI s (s.size - (j + 1)) (j + 1) _ (by omega) (by omega)
            · rw [hl]; decide
          refine ⟨?_, ?_⟩
          · have h4 : (s.extract j (e + 1)).extract (0 + 1) (e - j) = s.extract (j + 1) e := by
              rw [ex_ex s j (e + 1) (e - j) (by omega) (by omega) (0 + 1), show j + (0 + 1) = j + 1 by omega, show j + (e - j) = e by omega]
            rw [tok_text (by rw [h0]; exact hr) (by rw [h0]; exact hc) (by rw [h0]; exact hq) hsp, if_pos ⟨by omega, hl⟩, h4, show e - j + 1 = e + 1 - j by omega]
          · unfold showS tkS
            rw [ht]
            exact (if_pos rfl).trans (quoted_cut s j e (by omega) h3.1 hq h3.2)
        · rw [if_neg h3] at ht
          rw [ht] at he
          simp [bad] at he
      · have ht := tok_sign hr hc hq
        have ht2 : ∀ z : ByteArray, bt z ((0 : Nat) : Int) = bt s j → tokAt z 0 = _ := fun z h => tok_sign (s := z) (j := 0) (by rw [h]; exact hr) (by rw [h]; exact hc) (by rw [h]; exact hq)
        by_cases h1 : singleB (bt s j) = true
        · rw [if_pos h1] at ht
          rw [ht] at hf ⊢
          obtain rfl : j + 1 = f := hf
          refine ⟨?_, ?_⟩
          · have h4 : (s.extract j (j + 1)).extract 0 (0 + 1) = s.extract j (j + 1) := by rw [show 0 + 1 = j + 1 - j by omega]; exact hall
            rw [ht2 _ h0, h0, if_pos h1, h4, show j + 1 - j = 0 + 1 by omega]
          · unfold showS tkS
            rw [ht]
            exact if_neg (by simp)
        · rw [if_neg h1] at ht
          by_cases h2 : doubleB (bt s j) = true ∧ j + 1 < s.size ∧ bt s ((j + 1 : Nat) : Int) = 61
          · rw [if_pos h2] at ht
            rw [ht] at hf ⊢
            obtain rfl : j + 2 = f := hf
            have h5 := hB (0 + 1) (by omega)
            rw [show j + (0 + 1) = j + 1 by omega, h2.2.2] at h5
            refine ⟨?_, ?_⟩
            · have h4 : (s.extract j (j + 2)).extract 0 (0 + 2) = s.extract j (j + 2) := by rw [show 0 + 2 = j + 2 - j by omega]; exact hall
              rw [ht2 _ h0, h0, if_neg h1, if_pos ⟨h2.1, by omega, h5⟩, h4, show j + 2 - j = 0 + 2 by omega]
            · unfold showS tkS
              rw [ht]
              exact if_neg (by simp)
          · rw [if_neg h2] at ht
            rw [ht] at he
            simp [bad] at he
/-- Each token of a text is the only one of its own text. -/
theorem run_good {s : ByteArray} (hs : s.size ≤ 1000000) {i n : Nat} {l : List S31} {e : Int} (h : Run s i l n e) : i ≤ s.size → ∀ x, x ∈ l → Good x := by
  induction h with
  | done _ => intro _ x hx; cases hx
  | stop _ _ _ => intro _ x hx; cases hx
  | @step i j l n e hb hj he hr ih =>
    intro hi x hx
    have hf := fin_range s j hj hs he
    rcases List.mem_cons.1 hx with h | h
    · subst h
      obtain ⟨h1, h2⟩ := tok_alone hj hs he
      have hz := size_ex s j (tokAt s j).fin hf.2
      have hbk : blankI (bt s j) = false := by
        have := span_stop blankI s (s.size - i) i (by unfold bl at hb; omega)
        unfold bl at hb
        rwa [hb] at this
      refine ⟨?_, by rw [h2, hz]; omega⟩
      rw [h2]
      refine run_one ?_ (by omega) (by rw [h1, hz]; rfl)
      rw [bt_extract s j (tokAt s j).fin 0 (by omega) hf.2, Nat.add_zero]
      exact hbk
    · exact ih hf.2 x h
/-- Texts of tokens: no longer, together, than the text. -/
theorem run_sum {s : ByteArray} (hs : s.size ≤ 1000000) {i n : Nat} {l : List S31} {e : Int} (h : Run s i l n e) : i ≤ s.size → (l.map fun x => (showS x).size).sum ≤ s.size - i ∧ l.length ≤ s.size - i := by
  induction h with
  | done _ => intro _; simp
  | stop _ _ _ => intro _; simp
  | @step i j l n e hb hj he hr ih =>
    intro hi
    have hf := fin_range s j hj hs he
    obtain ⟨h1, h2⟩ := tok_alone hj hs he
    have hz := size_ex s j (tokAt s j).fin hf.2
    have hbr := bl_range s i hi
    have := ih hf.2
    simp only [List.map_cons, List.sum_cons, List.length_cons, h2, hz]
    omega
end Go.Proofs.YtamgmceogjgijaaDoor.Tok
