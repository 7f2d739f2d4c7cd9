/- Digits: the program's amount, told by steps, is the reference's, told by the order of texts. -/
import Derived.Test.YtamgmceogjgijaaDoorTokF
namespace Go.Proofs.YtamgmceogjgijaaDoor.Tok
open Go.RowKit Go.Proofs.YtamgmceogjgijaaDoorW.PrintWords Go.Proofs.YtamgmceogjgijaaDoorW.PrintLast Go.Proofs.YtamgmceogjgijaaDoorW.PrintMore Go.Proofs.YtamgmceogjgijaaDoor.G Go.Proofs.YtamgmceogjgijaaDoor.Ext
set_option linter.unusedVariables false
set_option linter.unusedSimpArgs false

/-- The value of digits. -/
def vL : List UInt8 → Int
  | [] => 0
  | a :: r => ((a.toNat : Int) - 48) * 10 ^ r.length + vL r
def dL (l : List UInt8) : Prop := ∀ a, a ∈ l → 48 ≤ (a.toNat : Int) ∧ (a.toNat : Int) ≤ 57
theorem vL_range : ∀ l, dL l → 0 ≤ vL l ∧ vL l < 10 ^ l.length
  | [], _ => by simp [vL]
  | a :: r, h => by
    have h1 := vL_range r (fun x hx => h x (List.mem_cons_of_mem _ hx))
    obtain ⟨h2, h3⟩ := h a (List.mem_cons_self ..)
    simp only [vL, List.length_cons]
    have hp : (0 : Int) < 10 ^ r.length := Int.pow_pos (by decide)
    have e : (10 : Int) ^ (r.length + 1) = 10 * 10 ^ r.length := by rw [Int.pow_succ, Int.mul_comm]
    rw [e]
    generalize (10 : Int) ^ r.length = P at *
    generalize (a.toNat : Int) = A at *
    have h4 : 0 ≤ (A - 48) * P := Int.mul_nonneg (by omega) (by omega)
    have h5 : (A - 48) * P ≤ 9 * P := Int.mul_le_mul_of_nonneg_right (by omega) (by omega)
    omega
theorem vL_less : ∀ x y, x.length = y.length → dL x → dL y → (Op.bytesLess x y || x == y) = decide (vL x ≤ vL y)
  | [], [], _, _, _ => by simp [Op.bytesLess, vL]
  | a :: x, b :: y, h, hx, hy => by
    have hl : x.length = y.length := by simpa using h
    have dx : dL x := fun z hz => hx z (List.mem_cons_of_mem _ hz)
    have dy : dL y := fun z hz => hy z (List.mem_cons_of_mem _ hz)
    have ih := vL_less x y hl dx dy
    have rx := vL_range x dx
    have ry := vL_range y dy
    obtain ⟨a1, a2⟩ := hx a (List.mem_cons_self ..)
    obtain ⟨b1, b2⟩ := hy b (List.mem_cons_self ..)
    rw [hl] at rx
    simp only [Op.bytesLess, vL, hl]
    generalize (10 : Int) ^ y.length = P at *
    rcases Nat.lt_trichotomy a.toNat b.toNat with c | c | c
    · have e1 : decide (a < b) = true := decide_eq_true (UInt8.lt_iff_toNat_lt.2 c)
      rw [e1]
      simp only [Bool.true_or]
      symm
      rw [decide_eq_true_eq]
      have h5 : ((a.toNat : Int) - 48) * P + P ≤ ((b.toNat : Int) - 48) * P := by
        have := Int.mul_le_mul_of_nonneg_right (show (a.toNat : Int) - 48 + 1 ≤ (b.toNat : Int) - 48 by omega) (show 0 ≤ P by omega)
        rw [Int.add_mul, Int.one_mul] at this
        exact this
      omega
    · obtain rfl : a = b := UInt8.toNat_inj.1 c
      have e1 : decide (a < a) = false := decide_eq_false (by simp)
      rw [e1]
      have e2 : (a :: x == a :: y) = (x == y) := by simp
      rw [e2]
      simp only [Bool.false_or, beq_self_eq_true, Bool.true_and]
      rw [ih]
      exact decide_eq_decide.2 (by omega)
    · have e1 : decide (a < b) = false := decide_eq_false (fun h => by have := UInt8.lt_iff_toNat_lt.1 h; omega)
      have e2 : (a == b) = false := beq_eq_false_iff_ne.2 (fun h => by rw [h] at c; omega)
      have e3 : (a :: x == b :: y) = false := by rw [beq_eq_false_iff_ne]; intro h; injection h with h1 _; rw [h1] at c; omega
      rw [e1, e2, e3]
      simp only [Bool.false_and, Bool.or_self]
      symm
      rw [decide_eq_false_iff_not]
      have h5 : ((b.toNat : Int) - 48) * P + P ≤ ((a.toNat : Int) - 48) * P := by
        have := Int.mul_le_mul_of_nonneg_right (show (b.toNat : Int) - 48 + 1 ≤ (a.toNat : Int) - 48 by omega) (show 0 ≤ P by omega)
        rw [Int.add_mul, Int.one_mul] at this
        exact this
      omega
theorem drop_bt (s : ByteArray) (i d : Nat) (h : i + (d + 1) = s.size) : ∃ a, s.data.toList.drop i = a :: s.data.toList.drop (i + 1) ∧ bt s (i : Nat) = (a.toNat : Int) := by
  have hi : i < s.data.toList.length := by show i < s.data.toList.length; rw [Array.length_toList]; show i < s.size; omega
  refine ⟨s.data.toList[i], List.drop_eq_getElem_cons hi, ?_⟩
  unfold bt
  simp only [Int.toNat_natCast]
  rw [dif_pos (show i < s.size by omega)]
  rfl
theorem drop_len (s : ByteArray) (i d : Nat) (h : i + d = s.size) : (s.data.toList.drop i).length = d := by
  rw [List.length_drop, Array.length_toList]
  show s.size - i = d
  omega
/-- The amount of digits from a place on. -/
theorem amt_val (s : ByteArray) (d : Nat) : ∀ (n : Int) (i : Nat), i + d = s.size → 0 ≤ n → n ≤ 1099511627776 → (∀ k : Nat, i ≤ k → k < s.size → digI (bt s (k : Nat)) = true) → amtFrom s n i d = if n * 10 ^ d + vL (s.data.toList.drop i) > 1099511627776 then 3 else 0 := by
  induction d with
  | zero =>
    intro n i hi h0 h1 _
    have : s.data.toList.drop i = [] := List.eq_nil_of_length_eq_zero (drop_len s i 0 hi)
    rw [this]
    simp only [amtFrom, vL, Int.pow_zero]
    rw [if_neg (by omega)]
  | succ d ih =>
    intro n i hi h0 h1 hd
    obtain ⟨a, ha, hb⟩ := drop_bt s i d hi
    have hdg := hd i (Nat.le_refl _) (by omega)
    have hr : 48 ≤ bt s (i : Nat) ∧ bt s (i : Nat) ≤ 57 := by
      unfold digI at hdg
      split at hdg
      · exact ⟨by assumption, of_decide_eq_true hdg⟩
      · cases hdg
    have hlen := drop_len s (i + 1) d (by omega)
    have hdl : dL (s.data.toList.drop (i + 1)) := by
      intro x hx
      obtain ⟨m, hm, rfl⟩ := List.getElem_of_mem hx
      rw [List.getElem_drop]
      have hm2 : m < d := by rwa [hlen] at hm
      have h4 := hd (i + 1 + m) (by omega) (by omega)
      have e : bt s ((i + 1 + m : Nat) : Int) = ((s.data.toList[i + 1 + m]'(by rw [Array.length_toList]; show _ < s.size; omega)).toNat : Int) := by
        unfold bt
        simp only [Int.toNat_natCast]
        rw [dif_pos (show i + 1 + m < s.size by omega)]
        rfl
      rw [e] at h4
      unfold digI at h4
      split at h4
      · exact ⟨by assumption, of_decide_eq_true h4⟩
      · cases h4
    have hv := vL_range _ hdl
    rw [hlen] at hv
    have hmod : (bt s (i : Nat) - 48) % 256 = bt s (i : Nat) - 48 := by omega
    simp only [amtFrom]
    rw [hmod, ha]
    simp only [vL, hlen]
    have hP : (1 : Int) ≤ 10 ^ d := by
      have : (0 : Int) < 10 ^ d := Int.pow_pos (by decide)
      omega
    have e1 : n * 10 ^ (d + 1) + (((a.toNat : Int) - 48) * 10 ^ d + vL (s.data.toList.drop (i + 1))) = (n * 10 + (bt s (i : Nat) - 48)) * 10 ^ d + vL (s.data.toList.drop (i + 1)) := by
      rw [hb, Int.pow_succ, Int.add_mul, Int.mul_assoc, Int.mul_comm (10 ^ d) 10, ← Int.add_assoc]
    rw [e1]
    by_cases c : n * 10 + (bt s (i : Nat) - 48) > 1099511627776
    · rw [if_pos c, if_pos]
      have h5 : (n * 10 + (bt s (i : Nat) - 48)) * 1 ≤ (n * 10 + (bt s (i : Nat) - 48)) * 10 ^ d := Int.mul_le_mul_of_nonneg_left hP (by omega)
      omega
    · rw [if_neg c]
      exact ih _ (i + 1) (by omega) (by omega) (by omega) (fun k a b => hd k (by omega) b)
end Go.Proofs.YtamgmceogjgijaaDoor.Tok
