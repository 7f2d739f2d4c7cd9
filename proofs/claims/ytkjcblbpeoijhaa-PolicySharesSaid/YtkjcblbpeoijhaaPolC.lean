/- Plain laws of the policy seat: what is paid, by the program and by the document. -/
import Derived.Test.YtkjcblbpeoijhaaPolB
import Derived.Test.YtkjcblbpeoijhaaGx4
import Derived.Test.YtkjcblbpeoijhaaGx6
namespace Go.Proofs.Ytkjcblbpeoijhaa.Pol
open Go.RowKit Go.Proofs.YtkjcblbpeoijhaaW.PrintWords Go.Proofs.YtkjcblbpeoijhaaW.PrintLast Go.Proofs.YtkjcblbpeoijhaaW.PrintMore Go.Proofs.Ytkjcblbpeoijhaa.G Go.Proofs.Ytkjcblbpeoijhaa.Ext
set_option linter.unusedVariables false

theorem quo_bounds {a b c : Int} (ha : 0 ≤ a ∧ a ≤ c) (hb : 0 ≤ b) (hc : 1 ≤ c) : 0 ≤ a * b / c ∧ a * b / c ≤ b := by
  refine ⟨Int.ediv_nonneg (Int.mul_nonneg ha.1 hb) (by omega), ?_⟩
  have h : a * b ≤ b * c := by
    have := Int.mul_le_mul_of_nonneg_left ha.2 hb
    rwa [Int.mul_comm b a] at this
  have := Int.ediv_le_ediv (c := c) (by omega) h
  rwa [Int.mul_ediv_cancel _ (show c ≠ 0 by omega)] at this
theorem of_ev {total num den : Int} (ht : 0 ≤ total ∧ total ≤ 1099511627776) (hn : 0 ≤ num ∧ num ≤ 1099511627776) (hd : 1 ≤ den ∧ den ≤ 1099511627776) (htd : total ≤ den) : Ev (fun k => share_Of.f k total num den) (total * num / den, true) := by
  have hmay : share_may.f num den = some true := by unfold share_may.f; rw [if_pos (by omega)]; exact congrArg some (decide_eq_true (by omega))
  have hp : 0 ≤ total * num := Int.mul_nonneg ht.1 hn.1
  have hp2 : total * num ≤ den * 1099511627776 := Int.mul_le_mul htd hn.2 hn.1 (by omega)
  have hqb := quo_bounds ⟨ht.1, htd⟩ hn.1 hd.1
  unfold share_Of.f
  refine ev_some hmay (ev_pos rfl (ev_neg (by omega) ?_))
  rw [decide_eq_false (by omega)]
  refine succ ?_
  simp only [share_Of.j0]
  refine ev_neg (by simp) ?_
  rw [uin (n := total) (by omega) (by omega), uin (n := num) (by omega) (by omega), uin (n := den) (by omega) (by omega)]
  refine ev_some (a := (total * num / 18446744073709551616, total * num % 18446744073709551616)) (by unfold bits_Mul64.f; rw [if_pos (by omega)]) ?_
  have hhi : total * num / 18446744073709551616 < den := Int.ediv_lt_of_lt_mul (by omega) (by omega)
  have hhi0 : 0 ≤ total * num / 18446744073709551616 := Int.ediv_nonneg hp (by omega)
  refine ev_neg (by simpa using hhi) ?_
  obtain ⟨r, hr⟩ := div64_ev (total * num / 18446744073709551616) (total * num % 18446744073709551616) den hd ⟨hhi0, hhi⟩ (by omega)
  rw [show total * num / 18446744073709551616 * 18446744073709551616 + total * num % 18446744073709551616 = total * num by omega] at hr
  refine Ev.bind hr (ev_neg (by show ¬ (total * num / den > 1099511627776); omega) (now ?_))
  rw [wrap_in (by show -9223372036854775808 ≤ total * num / den; omega) (by show total * num / den ≤ 9223372036854775807; omega)]

/-- What is paid of a loss. -/
def payN (sum own share loss value : Int) : Int := mx (mn loss value * mn value sum / value - own) 0 * share / 1000
theorem mn_def (a b : Int) : mn a b = if b < a then b else a := rfl
theorem mx_def (a b : Int) : mx a b = if a < b then b else a := rfl
section
variable (f0 f1 f2 : ByteArray) (f3 f4 : Int) (l : List Int) (f6 f7 f8 : Int)
def payB (loss value : Int) : Int × Bool :=
  if mayB f0 f1 f2 f3 f4 l f6 f7 f8 = true ∧ (1 ≤ value ∧ value ≤ 1099511627776) ∧ (0 ≤ loss ∧ loss ≤ 1099511627776) then (payN f3 f4 f8 loss value, true) else (0, false)
theorem may_bounds (h : mayB f0 f1 f2 f3 f4 l f6 f7 f8 = true) : (1 ≤ f3 ∧ f3 ≤ 1099511627776) ∧ (0 ≤ f4 ∧ f4 ≤ f3) ∧ (1 ≤ f8 ∧ f8 ≤ 1000) ∧ (0 ≤ f6 ∧ f6 ≤ 1048576) ∧ (0 ≤ f7 ∧ f7 ≤ 1048576) ∧ f6 ≤ f7 := by
  unfold mayB restB at h
  simp only [Bool.and_eq_true, decide_eq_true_eq] at h
  exact h.2
def insB (value : Int) : Int × Bool := if mayB f0 f1 f2 f3 f4 l f6 f7 f8 = true ∧ (1 ≤ value ∧ value ≤ 1099511627776) then (mn value f3, true) else (0, false)
theorem ins_ev (value : Int) (h0 : f0.size ≤ 100) (h1 : f1.size ≤ 100) (h2 : f2.size ≤ 100) (hl : l.length ≤ 100) : Ev (fun k => policy_Insured.f k f0 f1 f2 f3 f4 l f6 f7 f8 value) (insB f0 f1 f2 f3 f4 l f6 f7 f8 value) := by
  unfold policy_Insured.f insB
  refine Ev.bind (may_ev f0 f1 f2 f3 f4 l f6 f7 f8 h0 h1 h2 hl) ?_
  simp only [within_eq, Option.bind_some, decide_eq_true_eq]
  refine ev_ite (fun a => ev_ite (fun b => now ?_) (fun b => now ?_)) (fun a => now ?_)
  · rw [if_pos ⟨a, b⟩]
  · rw [if_neg (fun h => b h.2)]
  · rw [if_neg (fun h => a h.1)]
/-- Bounds of what is paid. -/
theorem pay_core {sum own share loss value : Int} (hs : 1 ≤ sum ∧ sum ≤ 1099511627776) (ho : 0 ≤ own ∧ own ≤ 1099511627776) (hsh : 1 ≤ share ∧ share ≤ 1000) (hv : 1 ≤ value ∧ value ≤ 1099511627776) (hl : 0 ≤ loss ∧ loss ≤ 1099511627776) :
    let n := mn loss value * mn value sum / value
    0 ≤ n ∧ n ≤ mn loss value ∧ n ≤ mn value sum ∧ 0 ≤ payN sum own share loss value ∧ payN sum own share loss value ≤ mx (n - own) 0 ∧ mx (n - own) 0 ≤ n := by
  intro n
  have hm1 : 0 ≤ mn loss value ∧ mn loss value ≤ value := by rw [mn_def]; split <;> omega
  have hm2 : 0 ≤ mn value sum ∧ mn value sum ≤ value := by rw [mn_def]; split <;> omega
  have b1 := quo_bounds hm1 hm2.1 hv.1
  have b2 := quo_bounds hm2 hm1.1 hv.1
  rw [Int.mul_comm] at b2
  have hx : 0 ≤ mx (n - own) 0 ∧ mx (n - own) 0 ≤ n := by rw [mx_def]; split <;> omega
  refine ⟨b1.1, b2.2, b1.2, Int.ediv_nonneg (Int.mul_nonneg hx.1 (by omega)) (by omega), ?_, hx.2⟩
  have h3 : mx (n - own) 0 * share ≤ mx (n - own) 0 * 1000 := Int.mul_le_mul_of_nonneg_left hsh.2 hx.1
  unfold payN
  show mx (n - own) 0 * share / 1000 ≤ _
  omega
theorem pays_ev (loss value : Int) (h0 : f0.size ≤ 100) (h1 : f1.size ≤ 100) (h2 : f2.size ≤ 100) (hl : l.length ≤ 100) : Ev (fun k => policy_Pays.f k f0 f1 f2 f3 f4 l f6 f7 f8 loss value) (payB f0 f1 f2 f3 f4 l f6 f7 f8 loss value) := by
  unfold policy_Pays.f
  refine Ev.bind (ins_ev f0 f1 f2 f3 f4 l f6 f7 f8 value h0 h1 h2 hl) ?_
  unfold insB payB
  by_cases a : mayB f0 f1 f2 f3 f4 l f6 f7 f8 = true ∧ (1 ≤ value ∧ value ≤ 1099511627776)
  · rw [if_pos a]
    refine ev_pos rfl ?_
    simp only [within_eq, Option.bind_some, decide_eq_true_eq]
    obtain ⟨hs, ho, hsh, _⟩ := may_bounds f0 f1 f2 f3 f4 l f6 f7 f8 a.1
    refine ev_ite (fun b => ?_) (fun b => now ?_)
    · rw [if_pos ⟨a.1, a.2, b⟩]
      have hc := pay_core (own := f4) hs (by omega) hsh a.2 b
      have hm1 : 0 ≤ mn loss value ∧ mn loss value ≤ value := by rw [mn_def]; split <;> omega
      have hm2 : 0 ≤ mn value f3 ∧ mn value f3 ≤ value := by rw [mn_def]; split <;> omega
      refine Ev.bind (of_ev (by omega) (by omega) a.2 hm1.2) (now ?_)
      show (_, true) = (payN f3 f4 f8 loss value, true)
      have hx : 0 ≤ mx (mn loss value * mn value f3 / value - f4) 0 := by rw [mx_def]; split <;> omega
      have h3 : mx (mn loss value * mn value f3 / value - f4) 0 * f8 ≤ mx (mn loss value * mn value f3 / value - f4) 0 * 1000 := Int.mul_le_mul_of_nonneg_left hsh.2 hx
      have h4 : 0 ≤ mx (mn loss value * mn value f3 / value - f4) 0 * f8 := Int.mul_nonneg hx (by omega)
      simp only []
      rw [wrap_in (x := mn loss value * mn value f3 / value - f4) (by omega) (by omega), wrap_in (x := mx (mn loss value * mn value f3 / value - f4) 0 * f8) (by omega) (by omega), Int.tdiv_eq_ediv_of_nonneg h4, wrap_in (by omega) (by omega)]
      rfl
    · rw [if_neg (fun h => b h.2.2)]
  · rw [if_neg a, if_neg (fun h => a ⟨h.1, h.2.1⟩)]
    exact ev_neg (by simp) (Ev.now _)
end

/-! ### the document's -/
theorem scaled_l0 {c low T : Int} (hc : 1 ≤ c ∧ c ≤ 1099511627776) (hl : 0 ≤ low ∧ low ≤ 1152921504606846976) (hT : T + low ≤ 1099511627776 * c) (d : Nat) : ∀ (i : Nat) (q r : Int), i + d = 20 → 0 ≤ q → (0 ≤ r ∧ r < c) → (q * c + r) * 2 ^ d = T →
    Ev (fun k => supercargoref42_Scaled.l0 k c low q r i) ((T + low) / c) := by
  induction d with
  | zero =>
    intro i q r hi hq hr hinv
    rw [Int.pow_zero, Int.mul_one] at hinv
    refine succ ?_
    simp only [supercargoref42_Scaled.l0]
    refine ev_neg (by omega) (ev_neg (by omega) ?_)
    have hm := Int.emod_nonneg low (show c ≠ 0 by omega)
    have hm2 := Int.emod_lt_of_pos low (show 0 < c by omega)
    have hd := Int.mul_ediv_add_emod low c
    have hcm : c * (low / c) = low / c * c := Int.mul_comm _ _
    have hq0 : 0 ≤ low / c := Int.ediv_nonneg hl.1 (by omega)
    have hsum : (q + low / c) * c ≤ 1099511627776 * c := by rw [Int.add_mul]; omega
    have hsl := Int.le_of_mul_le_mul_right hsum (by omega)
    rw [Int.tmod_eq_emod_of_nonneg hl.1, Int.tdiv_eq_ediv_of_nonneg hl.1, wrap_in (x := r + low % c) (by omega) (by omega), wrap_in (x := low / c) (by omega) (by omega), wrap_in (x := q + low / c) (by omega) (by omega)]
    refine ev_ite (fun a => now ?_) (fun a => now ?_)
    · rw [wrap_in (by omega) (by omega)]
      refine (quo_unique (R := r + low % c - c) ?_ (by omega) (by omega)).symm
      rw [Int.add_mul, Int.add_mul]
      omega
    · refine (quo_unique (R := r + low % c) ?_ (by omega) (by omega)).symm
      rw [Int.add_mul]
      omega
  | succ d ih =>
    intro i q r hi hq hr hinv
    have e2 : (2 : Int) ^ (d + 1) = 2 * 2 ^ d := by rw [Int.pow_succ, Int.mul_comm]
    rw [e2, ← Int.mul_assoc] at hinv
    have hp : (1 : Int) ≤ 2 ^ d := by exact_mod_cast Nat.one_le_two_pow (n := d)
    have hqc : 0 ≤ q * c := Int.mul_nonneg hq (by omega)
    have hle : (q * c + r) * 2 ≤ T := by
      have := Int.mul_le_mul_of_nonneg_left hp (show 0 ≤ (q * c + r) * 2 by omega)
      rw [hinv, Int.mul_one] at this
      exact this
    have hq2 : (q * 2) * c ≤ 1099511627776 * c := by rw [Int.mul_right_comm]; omega
    have hq3 := Int.le_of_mul_le_mul_right hq2 (by omega)
    refine succ ?_
    simp only [supercargoref42_Scaled.l0]
    rw [wrap_in (x := r * 2) (by omega) (by omega), wrap_in (x := q * 2) (by omega) (by omega), wrap_in (x := q * 2 + 1) (by omega) (by omega), wrap_in (x := r * 2 - c) (by omega) (by omega), wrap_in (x := (i : Int) + 1) (by omega) (by omega)]
    refine ev_pos (by omega) (ev_ite (fun a => ?_) (fun a => ?_))
    · exact ih (i + 1) (q * 2 + 1) (r * 2 - c) (by omega) (by omega) (by omega) (by rw [← hinv]; congr 1; rw [Int.add_mul, Int.mul_right_comm, Int.add_mul]; omega)
    · exact ih (i + 1) (q * 2) (r * 2) (by omega) (by omega) (by omega) (by rw [← hinv]; congr 1; rw [Int.mul_right_comm, Int.add_mul])
theorem scaled_ev {a b c : Int} (ha : 0 ≤ a ∧ a ≤ c) (hb : 0 ≤ b ∧ b ≤ 1099511627776) (hc : 1 ≤ c ∧ c ≤ 1099511627776) : Ev (fun k => supercargoref42_Scaled.f k a b c) (a * b / c) := by
  unfold supercargoref42_Scaled.f
  refine ev_neg (by omega) ?_
  have h1 : a * (b / 1048576) ≤ 1099511627776 * 1048576 := Int.mul_le_mul (by omega) (by omega) (by omega) (by omega)
  have h2 : a * (b % 1048576) ≤ 1099511627776 * 1048576 := Int.mul_le_mul (by omega) (by omega) (by omega) (by omega)
  have h3 : 0 ≤ a * (b / 1048576) := Int.mul_nonneg ha.1 (by omega)
  have h4 : 0 ≤ a * (b % 1048576) := Int.mul_nonneg ha.1 (by omega)
  have h5 : a * b ≤ 1099511627776 * c := by
    have := Int.mul_le_mul ha.2 hb.2 hb.1 (show 0 ≤ c by omega)
    rwa [Int.mul_comm c] at this
  have hsplit : a * (b / 1048576) * 1048576 + a * (b % 1048576) = a * b := by
    rw [Int.mul_assoc, ← Int.mul_add]
    congr 1
    omega
  have hm := Int.emod_nonneg (a * (b / 1048576)) (show c ≠ 0 by omega)
  have hm2 := Int.emod_lt_of_pos (a * (b / 1048576)) (show 0 < c by omega)
  have hd := Int.mul_ediv_add_emod (a * (b / 1048576)) c
  have hcm : c * (a * (b / 1048576) / c) = a * (b / 1048576) / c * c := Int.mul_comm _ _
  have hq0 : 0 ≤ a * (b / 1048576) / c := Int.ediv_nonneg h3 (by omega)
  have hq1 : a * (b / 1048576) / c ≤ a * (b / 1048576) := Int.ediv_le_self _ h3
  rw [Int.tmod_eq_emod_of_nonneg hb.1, wrap_in (x := a * (b / 1048576)) (by omega) (by omega), wrap_in (x := a * (b % 1048576)) (by omega) (by omega), Int.tdiv_eq_ediv_of_nonneg h3, Int.tmod_eq_emod_of_nonneg h3, wrap_in (x := a * (b / 1048576) / c) (by omega) (by omega)]
  rw [← hsplit]
  exact scaled_l0 (T := a * (b / 1048576) * 1048576) hc ⟨h4, by omega⟩ (by rw [hsplit]; exact h5) 20 0 _ _ (by omega) hq0 ⟨hm, hm2⟩ (by rw [show a * (b / 1048576) / c * c + a * (b / 1048576) % c = a * (b / 1048576) by omega]; rfl)
section
variable (f0 f1 f2 : ByteArray) (f3 f4 : Int) (l : List Int) (f6 f7 f8 : Int)
theorem rins_eq (value : Int) : supercargoref42_Insured.f f0 f1 f2 f3 f4 l f6 f7 f8 value = some (mn value f3) := by
  unfold supercargoref42_Insured.f
  rw [mn_def]
  by_cases h : f3 < value
  · rw [if_pos h, if_neg (by omega)]
  · rw [if_neg h]
    by_cases h2 : value < f3
    · rw [if_pos h2]
    · rw [if_neg h2]; congr 1; omega
theorem rpays_ev (loss value : Int) (hs : 1 ≤ f3 ∧ f3 ≤ 1099511627776) (ho : 0 ≤ f4 ∧ f4 ≤ f3) (hsh : 1 ≤ f8 ∧ f8 ≤ 1000) (hv : 1 ≤ value ∧ value ≤ 1099511627776) (hl : 0 ≤ loss ∧ loss ≤ 1099511627776) :
    Ev (fun k => supercargoref42_Pays.f k f0 f1 f2 f3 f4 l f6 f7 f8 loss value) (payN f3 f4 f8 loss value) := by
  have key : ∀ x, x = mn loss value → Ev (fun k => supercargoref42_Pays.j0 k x value f0 f1 f2 f3 f4 l f6 f7 f8) (payN f3 f4 f8 loss value) := by
    rintro x rfl
    refine succ ?_
    simp only [supercargoref42_Pays.j0, rins_eq, Option.bind_some]
    have hc := pay_core (own := f4) hs (by omega) hsh hv hl
    have hm1 : 0 ≤ mn loss value ∧ mn loss value ≤ value := by rw [mn_def]; split <;> omega
    have hm2 : 0 ≤ mn value f3 ∧ mn value f3 ≤ value := by rw [mn_def]; split <;> omega
    refine Ev.bind (scaled_ev hm1 (by omega) hv) ?_
    rw [wrap_in (x := mn loss value * mn value f3 / value - f4) (by omega) (by omega)]
    unfold payN
    refine ev_ite (fun a => now ?_) (fun a => now ?_)
    · rw [mx_def, if_pos (by omega)]; simp
    · have hx : mx (mn loss value * mn value f3 / value - f4) 0 = mn loss value * mn value f3 / value - f4 := by rw [mx_def, if_neg (by omega)]
      have h3 : (mn loss value * mn value f3 / value - f4) * f8 ≤ (mn loss value * mn value f3 / value - f4) * 1000 := Int.mul_le_mul_of_nonneg_left hsh.2 (by omega)
      have h4 : 0 ≤ (mn loss value * mn value f3 / value - f4) * f8 := Int.mul_nonneg (by omega) (by omega)
      rw [hx, wrap_in (x := (mn loss value * mn value f3 / value - f4) * f8) (by omega) (by omega), Int.tdiv_eq_ediv_of_nonneg h4, wrap_in (by omega) (by omega)]
  unfold supercargoref42_Pays.f
  exact ev_ite (fun a => key _ (by rw [mn_def, if_pos (by omega)])) (fun a => key _ (by rw [mn_def, if_neg (by omega)]))
theorem long_eq : supercargoref42_Long.f f0 f1 f2 f3 f4 l f6 f7 f8 = some (decide (100 < f0.size ∨ 100 < f1.size ∨ 100 < f2.size ∨ 100 < l.length)) := by
  unfold supercargoref42_Long.f
  by_cases a : (f0.size : Int) > 100
  · rw [if_pos a]; exact congrArg some (decide_eq_true (by omega)).symm
  · rw [if_neg a]
    by_cases b : (f1.size : Int) > 100
    · rw [if_pos b]; exact congrArg some (decide_eq_true (by omega)).symm
    · rw [if_neg b]
      by_cases c : (f2.size : Int) > 100
      · rw [if_pos c]; exact congrArg some (decide_eq_true (by omega)).symm
      · rw [if_neg c]; congr 1; apply decide_eq_decide.2; omega
end
/-- The chapter's example. -/
theorem awake_ev : Ev (fun k => supercargolaw42_awake.f k) true := by
  unfold supercargolaw42_awake.f
  have h := pays_ev (⟨#[110]⟩ : ByteArray) (⟨#[97]⟩ : ByteArray) (⟨#[98]⟩ : ByteArray) 600 50 [] 0 0 1000 500 1000 (by decide) (by decide) (by decide) (by decide)
  have hm : mayB (⟨#[110]⟩ : ByteArray) (⟨#[97]⟩ : ByteArray) (⟨#[98]⟩ : ByteArray) 600 50 [] 0 0 1000 = true := by decide
  rw [show payB (⟨#[110]⟩ : ByteArray) (⟨#[97]⟩ : ByteArray) (⟨#[98]⟩ : ByteArray) 600 50 [] 0 0 1000 500 1000 = (250, true) by unfold payB; rw [if_pos ⟨hm, by omega, by omega⟩]; rfl] at h
  exact Ev.bind h (ev_pos rfl (Ev.now _))
end Go.Proofs.Ytkjcblbpeoijhaa.Pol
