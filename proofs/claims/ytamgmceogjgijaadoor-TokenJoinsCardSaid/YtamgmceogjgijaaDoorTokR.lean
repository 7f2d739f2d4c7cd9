/- The reference's token at a place, and its tokens of a text, are the program's. -/
import Derived.Test.YtamgmceogjgijaaDoorTokN
import Derived.Test.YtamgmceogjgijaaDoorH16
namespace Go.Proofs.YtamgmceogjgijaaDoor.Tok
open Go.RowKit Go.Proofs.YtamgmceogjgijaaDoorW.PrintWords Go.Proofs.YtamgmceogjgijaaDoorW.PrintLast Go.Proofs.YtamgmceogjgijaaDoorW.PrintMore Go.Proofs.YtamgmceogjgijaaDoor.G Go.Proofs.YtamgmceogjgijaaDoor.Ext
set_option linter.unusedVariables false
set_option linter.unusedSimpArgs false

theorem ref_run (c : Int) : supercargoref27_run.f c = some (runI c) := by
  unfold supercargoref27_run.f runI lowI digI
  by_cases a : 97 ≤ c
  · by_cases b : c ≤ 122
    · simp [a, b]
    · by_cases d : 48 ≤ c
      · by_cases e : c ≤ 57
        · omega
        · simp [a, b, d, e]
      · omega
  · by_cases d : 48 ≤ c
    · by_cases e : c ≤ 57
      · simp [a, d, e]
      · simp [a, d, e]
    · simp [a, d]
theorem ref_digits (t : ByteArray) (ht : t.size ≤ 1000000) : Ev (fun k => supercargoref27_digits.f k t) (decide (spanN digI t 0 t.size = t.size)) := by
  suffices h : ∀ d i, i + d = t.size → Ev (fun k => supercargoref27_digits.l0 k t (i : Nat)) (decide (spanN digI t i d = t.size)) from h t.size 0 (by omega)
  intro d
  induction d with
  | zero =>
    intro i hi
    refine succ ?_
    simp only [supercargoref27_digits.l0]
    exact ev_neg (by omega) (now (by symm; rw [decide_eq_true_eq]; show i = t.size; omega))
  | succ d ih =>
    intro i hi
    refine succ ?_
    simp only [supercargoref27_digits.l0]
    refine ev_pos (by omega) (ev_pos (by omega) ?_)
    by_cases a : bt t (i : Nat) < 48
    · rw [spanN_no (by unfold digI; rw [if_neg (by omega)])]
      exact ev_pos a (now (by symm; rw [decide_eq_false_iff_not]; omega))
    · refine ev_neg a ?_
      by_cases b : bt t (i : Nat) > 57
      · rw [spanN_no (by unfold digI; rw [if_pos (by omega), decide_eq_false_iff_not]; omega)]
        exact ev_pos b (now (by symm; rw [decide_eq_false_iff_not]; omega))
      · refine ev_neg b ?_
        rw [spanN_yes (by unfold digI; rw [if_pos (by omega), decide_eq_true_eq]; omega), wrap_in (by omega) (by omega)]
        exact ih (i + 1) (by omega)
theorem in_l0 (l : List ByteArray) (s : ByteArray) (hl : l.length ≤ 1000) (d : Nat) : ∀ i, i + d = l.length → Ev (fun k => supercargoref27_in.l0 k l s (i : Nat)) ((l.drop i).any fun w => w.data.toList == s.data.toList) := by
  induction d with
  | zero =>
    intro i hi
    refine succ ?_
    simp only [supercargoref27_in.l0]
    rw [List.drop_eq_nil_of_le (by omega)]
    exact ev_neg (by omega) (Ev.now _)
  | succ d ih =>
    intro i hi
    refine succ ?_
    simp only [supercargoref27_in.l0]
    have hlt : i < l.length := by omega
    have e : (rdOf ByteArray.empty l ((i : Nat) : Int)).toList = l[i].data.toList := by
      unfold rdOf
      rw [ByteArray.toList_eq, Int.toNat_natCast, List.getD_eq_getElem?_getD, List.getElem?_eq_getElem hlt]
      rfl
    rw [List.drop_eq_getElem_cons hlt, List.any_cons, e, ByteArray.toList_eq]
    refine ev_pos (by omega) (ev_pos (by omega) ?_)
    refine ev_ite (fun a => now (by rw [a]; simp)) (fun a => ?_)
    rw [beq_eq_false_iff_ne.2 a, Bool.false_or, wrap_in (by omega) (by omega)]
    exact ih (i + 1) (by omega)
theorem in_ev (l : List ByteArray) (s : ByteArray) (hl : l.length ≤ 1000) : Ev (fun k => supercargoref27_in.f k l s) (l.any fun w => w.data.toList == s.data.toList) := in_l0 l s hl l.length 0 (by omega)
theorem in_words (s : ByteArray) : Ev (fun k => supercargoref27_in.f k wordsL s) (memB s) := in_ev wordsL s (by decide)
theorem dig_list (t : ByteArray) (h : spanN digI t 0 t.size = t.size) : dL t.data.toList := by
  intro x hx
  obtain ⟨m, hm, rfl⟩ := List.getElem_of_mem hx
  have hm2 : m < t.size := by rw [Array.length_toList] at hm; exact hm
  have h4 := span_in digI t t.size 0 m (by omega) (by omega)
  have e : bt t (m : Nat) = ((t.data.toList[m]).toNat : Int) := by
    unfold bt
    simp only [Int.toNat_natCast]
    rw [dif_pos hm2]
    rfl
  rw [e] at h4
  unfold digI at h4
  split at h4
  · exact ⟨by assumption, of_decide_eq_true h4⟩
  · cases h4
def most : List UInt8 := [49, 48, 57, 57, 53, 49, 49, 54, 50, 55, 55, 55, 54]
theorem most_val : vL most = 1099511627776 := by decide
theorem most_dig : dL most := by unfold dL most; decide
/-- Above the greatest amount, by the order of texts: just where the steps pass it. -/
theorem above_eq (t : ByteArray) (h0 : 0 < t.size) (hd : spanN digI t 0 t.size = t.size) (hz : ¬ (1 < t.size ∧ bt t 0 = 48)) : supercargoref27_above.f t = some (decide (amountS t = 3)) ∧ (amountS t = 0 ∨ amountS t = 3) := by
  have hall : ∀ k : Nat, 0 ≤ k → k < t.size → digI (bt t (k : Nat)) = true := fun k a b => span_in digI t t.size 0 k a (by omega)
  have hl := dig_list t hd
  have ha : amountS t = if vL t.data.toList > 1099511627776 then 3 else 0 := by
    unfold amountS
    rw [if_neg hz, amt_val t t.size 0 0 (by omega) (by omega) (by omega) hall, Int.zero_mul, Int.zero_add, List.drop_zero]
  have hlen : t.data.toList.length = t.size := Array.length_toList ..
  have hv := vL_range _ hl
  rw [hlen] at hv
  have hdec : ∀ p : Bool, (p = true ↔ vL t.data.toList > 1099511627776) → some p = some (decide (amountS t = 3)) := by
    intro p hp
    rw [ha]
    by_cases c : vL t.data.toList > 1099511627776
    · rw [if_pos c, hp.2 c]; rfl
    · rw [if_neg c, Bool.eq_false_iff.2 (fun h => c (hp.1 h))]; rfl
  refine ⟨?_, by rw [ha]; split <;> simp⟩
  unfold supercargoref27_above.f
  by_cases c1 : (t.size : Int) > 13
  · rw [if_pos c1]
    refine hdec true ⟨fun _ => ?_, fun _ => rfl⟩
    obtain ⟨d, hsd⟩ : ∃ d, t.size = d + 14 := ⟨t.size - 14, by omega⟩
    obtain ⟨a, hc, hb⟩ := drop_bt t 0 (d + 13) (by omega)
    rw [List.drop_zero] at hc
    have hlen2 := drop_len t (0 + 1) (d + 13) (by omega)
    have hr2 := vL_range (t.data.toList.drop (0 + 1)) (fun x hx => hl x (List.mem_of_mem_drop hx))
    have h48 := hl a (by rw [hc]; exact List.mem_cons_self ..)
    have hne : (a.toNat : Int) ≠ 48 := fun h => hz ⟨by omega, by rw [← h]; exact hb⟩
    rw [hc]
    simp only [vL, hlen2]
    have hp : (10 : Int) ^ 13 ≤ 10 ^ (d + 13) := by
      rw [Int.pow_add]
      have h1 : (0 : Int) < 10 ^ d := Int.pow_pos (by decide)
      have := Int.mul_le_mul_of_nonneg_right (show (1 : Int) ≤ 10 ^ d by omega) (show (0 : Int) ≤ 10 ^ 13 by decide)
      rwa [Int.one_mul] at this
    have h13 : (10 : Int) ^ 13 = 10000000000000 := by decide
    rw [h13] at hp
    have h5 := Int.mul_le_mul_of_nonneg_right (show (1 : Int) ≤ (a.toNat : Int) - 48 by omega) (show (0 : Int) ≤ 10 ^ (d + 13) by omega)
    rw [Int.one_mul] at h5
    omega
  · rw [if_neg c1]
    by_cases c2 : (t.size : Int) = 13
    · rw [if_pos c2]
      refine hdec _ ?_
      have hlm : t.data.toList.length = most.length := by rw [hlen]; show t.size = 13; omega
      have hm := vL_less t.data.toList most hlm hl most_dig
      rw [most_val] at hm
      rw [ByteArray.toList_eq]
      show (!(Op.bytesLess t.data.toList most || t.data.toList == most)) = true ↔ _
      rw [hm, Bool.not_eq_true', decide_eq_false_iff_not]
      omega
    · rw [if_neg c2]
      refine hdec false ⟨fun h => absurd h (by decide), fun h => ?_⟩
      have hp : (10 : Int) ^ t.size ≤ 10 ^ 12 := by rw [show (12 : Nat) = t.size + (12 - t.size) by omega, Int.pow_add]; have h1 : (0 : Int) < 10 ^ t.size := Int.pow_pos (by decide); have h2 : (0 : Int) < 10 ^ (12 - t.size) := Int.pow_pos (by decide); have h3 := Int.mul_le_mul_of_nonneg_left (show (1 : Int) ≤ 10 ^ (12 - t.size) by omega) (show (0 : Int) ≤ 10 ^ t.size by omega); rwa [Int.mul_one] at h3
      have h12 : (10 : Int) ^ 12 = 1000000000000 := by decide
      omega
end Go.Proofs.YtamgmceogjgijaaDoor.Tok
