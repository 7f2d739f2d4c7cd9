/- Plain laws of the policy seat: a long division by math/bits.Div64. -/
import Derived.Test.YtkjcblbpeoijhaaPolA
import Derived.Test.YtkjcblbpeoijhaaGx3
import Derived.Lib.ItoaNum
namespace Go.Proofs.Ytkjcblbpeoijhaa.Pol
open Go.RowKit Go.Proofs.YtkjcblbpeoijhaaW.PrintWords Go.Proofs.YtkjcblbpeoijhaaW.PrintLast Go.Proofs.YtkjcblbpeoijhaaW.PrintMore Go.Proofs.Ytkjcblbpeoijhaa.G Go.Proofs.Ytkjcblbpeoijhaa.Ext
set_option linter.unusedVariables false

theorem u64m (n : Int) : IntKind.u64.wrap n = n % 18446744073709551616 := by simp [IntKind.wrap, IntKind.bits, IntKind.signed]
theorem uin {n : Int} (h0 : 0 ≤ n) (h1 : n < 18446744073709551616) : IntKind.u64.wrap n = n := by rw [u64m]; omega

/-- What one half of the long division keeps: q is no less than the quotient of U = u * 2^32 + v by Y = a * 2^32 + b. -/
structure Half (Y a b u v Q q r : Int) : Prop where
  hY : Y = a * 4294967296 + b
  ha : 2147483648 ≤ a ∧ a < 4294967296
  hb : 0 ≤ b ∧ b < 4294967296
  hv : 0 ≤ v ∧ v < 4294967296
  hQ : Q * Y ≤ u * 4294967296 + v ∧ u * 4294967296 + v < (Q + 1) * Y
  hQ1 : 0 ≤ Q ∧ Q < 4294967296
  hq : q * a + r = u
  hr : 0 ≤ r ∧ r < 4294967296
  hge : Q ≤ q
  hle : q ≤ 4294967297
theorem half_eq {Y a b u v Q q r : Int} (h : Half Y a b u v Q q r) (h1 : q * b ≤ 4294967296 * r + v) : q = Q := by
  have e : q * Y = (q * a) * 4294967296 + q * b := by rw [h.hY, Int.mul_add, Int.mul_assoc]
  have h2 : q * Y < (Q + 1) * Y := by
    have := h.hQ.2
    have := h.hq
    omega
  have hY : 0 ≤ Y := by have := h.hY; have := h.ha; have := h.hb; omega
  have := Int.lt_of_mul_lt_mul_right h2 hY
  have := h.hge
  omega
theorem half_gt {Y a b u v Q q r : Int} (h : Half Y a b u v Q q r) (h1 : 4294967296 ≤ q ∨ 4294967296 * r + v < q * b) : Q ≤ q - 1 := by
  rcases h1 with h1 | h1
  · have := h.hQ1; omega
  · have e : q * Y = (q * a) * 4294967296 + q * b := by rw [h.hY, Int.mul_add, Int.mul_assoc]
    have h2 : Q * Y < q * Y := by
      have := h.hQ.1
      have := h.hq
      omega
    have hY : 0 ≤ Y := by have := h.hY; have := h.ha; have := h.hb; omega
    have := Int.lt_of_mul_lt_mul_right h2 hY
    omega
theorem half_next {Y a b u v Q q r : Int} (h : Half Y a b u v Q q r) (h1 : 4294967296 ≤ q ∨ 4294967296 * r + v < q * b) (h2 : r + a < 4294967296) : Half Y a b u v Q (q - 1) (r + a) :=
  ⟨h.hY, h.ha, h.hb, h.hv, h.hQ, h.hQ1, by have := h.hq; rw [Int.sub_mul]; omega, by have := h.hr; have := h.ha; omega, half_gt h h1, by have := h.hle; omega⟩
theorem half_last {Y a b u v Q q r : Int} (h : Half Y a b u v Q q r) (h1 : 4294967296 ≤ q ∨ 4294967296 * r + v < q * b) (h2 : 4294967296 ≤ r + a) : q - 1 = Q := by
  have hb0 := h.hb
  have hg := half_gt h h1
  have hQ1 := h.hQ1
  have hle := h.hle
  have e : (q - 1) * Y = (q - 1) * a * 4294967296 + (q - 1) * b := by rw [h.hY, Int.mul_add, Int.mul_assoc]
  have e1 : (q - 1) * a = q * a - a := by rw [Int.sub_mul]; omega
  have e2 : (q - 1) * b ≤ 4294967296 * 4294967295 := Int.mul_le_mul (by omega) (by omega) hb0.1 (by omega)
  have h3 : (q - 1) * Y < (Q + 1) * Y := by
    have := h.hQ.2
    have := h.hq
    have := h.hv
    have := h.ha
    omega
  have hY : 0 ≤ Y := by have := h.hY; have := h.ha; have := h.hb; omega
  have := Int.lt_of_mul_lt_mul_right h3 hY
  omega
/-- The beginning: q and r are quotient and rest of u by a. -/
theorem half_start {Y a b u v : Int} (hY : Y = a * 4294967296 + b) (ha : 2147483648 ≤ a ∧ a < 4294967296) (hb : 0 ≤ b ∧ b < 4294967296) (hv : 0 ≤ v ∧ v < 4294967296) (hu : 0 ≤ u ∧ u < Y) :
    Half Y a b u v ((u * 4294967296 + v) / Y) (u / a) (u % a) := by
  have hYp : 0 < Y := by omega
  have hd := Int.mul_ediv_add_emod u a
  have hm := Int.emod_nonneg u (show a ≠ 0 by omega)
  have hm2 := Int.emod_lt_of_pos u (show 0 < a by omega)
  have hc : a * (u / a) = u / a * a := Int.mul_comm _ _
  have hq0 : 0 ≤ u / a := Int.ediv_nonneg hu.1 (by omega)
  have hD := Int.mul_ediv_add_emod (u * 4294967296 + v) Y
  have hM := Int.emod_nonneg (u * 4294967296 + v) (show Y ≠ 0 by omega)
  have hM2 := Int.emod_lt_of_pos (u * 4294967296 + v) hYp
  have hC : Y * ((u * 4294967296 + v) / Y) = (u * 4294967296 + v) / Y * Y := Int.mul_comm _ _
  have hQ0 : 0 ≤ (u * 4294967296 + v) / Y := Int.ediv_nonneg (by omega) (by omega)
  have hQ1 : (u * 4294967296 + v) / Y < 4294967296 := by
    refine Int.ediv_lt_of_lt_mul hYp ?_
    omega
  refine ⟨hY, ha, hb, hv, ⟨by omega, by rw [Int.add_mul]; omega⟩, ⟨hQ0, hQ1⟩, by omega, ⟨by omega, by omega⟩, ?_, ?_⟩
  · -- the quotient by the leading part alone is no less
    have e : (u / a + 1) * Y = (u / a + 1) * a * 4294967296 + (u / a + 1) * b := by rw [hY, Int.mul_add, Int.mul_assoc]
    have e1 : (u / a + 1) * a = u / a * a + a := by rw [Int.add_mul]; omega
    have e2 : 0 ≤ (u / a + 1) * b := Int.mul_nonneg (by omega) hb.1
    have e3 : (u * 4294967296 + v) / Y * Y < (u / a + 1) * Y := by omega
    have := Int.lt_of_mul_lt_mul_right e3 (by omega)
    omega
  · have : u / a < 4294967298 := by
      refine Int.ediv_lt_of_lt_mul (by omega) ?_
      omega
    omega
theorem half_rest {Y a b u v Q q r : Int} (h : Half Y a b u v Q q r) : 0 ≤ u * 4294967296 + v - Q * Y ∧ u * 4294967296 + v - Q * Y < Y := by
  have := h.hQ
  rw [Int.add_mul] at this
  omega
theorem half_test {Y a b u v Q q r : Int} (h : Half Y a b u v Q q r) (hq : q < 4294967296) : IntKind.u64.wrap (q * b) = q * b ∧ IntKind.u64.wrap (IntKind.u64.wrap (4294967296 * r) + v) = 4294967296 * r + v := by
  have hb := h.hb
  have hr := h.hr
  have hv := h.hv
  have hg := h.hge
  have hQ := h.hQ1
  have e2 : q * b ≤ 4294967295 * 4294967295 := Int.mul_le_mul (by omega) (by omega) hb.1 (by omega)
  have e3 : 0 ≤ q * b := Int.mul_nonneg (by omega) hb.1
  refine ⟨uin e3 (by omega), ?_⟩
  rw [uin (n := 4294967296 * r) (by omega) (by omega), uin (by omega) (by omega)]
theorem l0_ev {Y a b u v Q : Int} (s z : Int) (R : Int × Int) (n : Nat) : ∀ q r, Half Y a b u v Q q r → 4294967296 ≤ r + n * 2147483648 → Ev (fun k => bits_Div64.j2 k Y s a b u v z Q) R → Ev (fun k => bits_Div64.l0 k Y s a b u v z q r) R := by
  induction n with
  | zero => intro q r h h1; have := h.hr; omega
  | succ n ih =>
    intro q r h h1 hend
    have hr := h.hr
    have ha := h.ha
    have hg := h.hge
    have hQ := h.hQ1
    have hle := h.hle
    have more : (4294967296 ≤ q ∨ 4294967296 * r + v < q * b) → Ev (fun k => bits_Div64.j1 k Y s a b u v z q r true) R := by
      intro hm
      have hg1 := half_gt h hm
      refine succ ?_
      simp only [bits_Div64.j1]
      rw [uin (n := r + a) (by omega) (by omega), uin (n := q - 1) (by omega) (by omega)]
      refine ev_pos trivial (ev_ite (fun c => ?_) (fun c => ?_))
      · rw [half_last h hm c]; exact hend
      · exact ih _ _ (half_next h hm (by omega)) (by omega) hend
    refine succ ?_
    simp only [bits_Div64.l0]
    refine ev_ite (fun c => more (.inl c)) (fun c => ?_)
    obtain ⟨w1, w2⟩ := half_test h (by omega)
    rw [w1, w2]
    by_cases d : q * b > 4294967296 * r + v
    · rw [decide_eq_true d]; exact more (.inr d)
    · rw [decide_eq_false d]
      refine succ ?_
      simp only [bits_Div64.j1]
      refine ev_neg (by simp) ?_
      rw [half_eq h (by omega)]
      exact hend
theorem l1_ev {Y a b u v Q : Int} (s z x15 : Int) (R : Int × Int) (n : Nat) : ∀ q r, Half Y a b u v Q q r → 4294967296 ≤ r + n * 2147483648 →
    ((if 0 ≤ s then (some (IntKind.u64.wrap ((IntKind.u64.wrap (x15 * 4294967296)) + Q), shr .u64 (IntKind.u64.wrap ((IntKind.u64.wrap ((IntKind.u64.wrap (u * 4294967296)) + v)) - (IntKind.u64.wrap (Q * Y)))) s)) else none) = some R) → Ev (fun k => bits_Div64.l1 k Y s a b v x15 r u q) R := by
  induction n with
  | zero => intro q r h h1; have := h.hr; omega
  | succ n ih =>
    intro q r h h1 hend
    have hr := h.hr
    have ha := h.ha
    have hg := h.hge
    have hQ := h.hQ1
    have hle := h.hle
    have more : (4294967296 ≤ q ∨ 4294967296 * r + v < q * b) → Ev (fun k => bits_Div64.j4 k Y s a b v x15 r u q true) R := by
      intro hm
      have hg1 := half_gt h hm
      refine succ ?_
      simp only [bits_Div64.j4]
      rw [uin (n := r + a) (by omega) (by omega), uin (n := q - 1) (by omega) (by omega)]
      refine ev_pos trivial (ev_ite (fun c => ?_) (fun c => ?_))
      · rw [half_last h hm c, hend]; exact Ev.now _
      · exact ih _ _ (half_next h hm (by omega)) (by omega) hend
    refine succ ?_
    simp only [bits_Div64.l1]
    refine ev_ite (fun c => more (.inl c)) (fun c => ?_)
    obtain ⟨w1, w2⟩ := half_test h (by omega)
    rw [w1, w2]
    by_cases d : q * b > 4294967296 * r + v
    · rw [decide_eq_true d]; exact more (.inr d)
    · rw [decide_eq_false d]
      refine succ ?_
      simp only [bits_Div64.j4]
      refine ev_neg (by simp) ?_
      rw [half_eq h (by omega), hend]
      exact Ev.now _

theorem wraps_u64 (n : Int) (h0 : 0 ≤ n) (h1 : n < 2 ^ 64) : IntKind.u64.wrap n = n := uin h0 (by simpa using h1)
theorem mask32 (x : Int) (h0 : 0 ≤ x) (h1 : x < 18446744073709551616) : Go.bits .and .u64 x 4294967295 = x % 4294967296 :=
  bits_mask .u64 64 (by decide) wraps_u64 32 (by decide) x h0 (by simpa using h1)
theorem quo_unique {N Y Q R : Int} (h : N = Q * Y + R) (h0 : 0 ≤ R) (h1 : R < Y) : N / Y = Q := by
  have a : Q ≤ N / Y := Int.le_ediv_of_mul_le (by omega) (by omega)
  have b : N / Y < Q + 1 := Int.ediv_lt_of_lt_mul (by omega) (by rw [Int.add_mul]; omega)
  omega
theorem div_tail {Y a b u v z s : Int} (hY : Y = a * 4294967296 + b) (ha : 2147483648 ≤ a ∧ a < 4294967296) (hb : 0 ≤ b ∧ b < 4294967296) (hv : 0 ≤ v ∧ v < 4294967296) (hz : 0 ≤ z ∧ z < 4294967296) (hu : 0 ≤ u ∧ u < Y) (hs : 0 ≤ s) (hY64 : Y < 18446744073709551616) :
    ∃ r, Ev (fun k => bits_Div64.l0 k Y s a b u v z (IntKind.u64.wrap (Int.tdiv u a)) (IntKind.u64.wrap (u - IntKind.u64.wrap (IntKind.u64.wrap (Int.tdiv u a) * a)))) ((u * 18446744073709551616 + v * 4294967296 + z) / Y, r) := by
  have tq : ∀ x, 0 ≤ x → x < Y → IntKind.u64.wrap (Int.tdiv x a) = x / a ∧ IntKind.u64.wrap (x - IntKind.u64.wrap (x / a * a)) = x % a := by
    intro x hx hxY
    have hq : IntKind.u64.wrap (Int.tdiv x a) = x / a := IntWalk.u64_quo x a ⟨hx, by omega, by omega⟩
    have hd := Int.mul_ediv_add_emod x a
    have hc : a * (x / a) = x / a * a := Int.mul_comm _ _
    have hm := Int.emod_nonneg x (show a ≠ 0 by omega)
    have hm2 := Int.emod_lt_of_pos x (show 0 < a by omega)
    have hq0 : 0 ≤ x / a * a := Int.mul_nonneg (Int.ediv_nonneg hx (by omega)) (by omega)
    refine ⟨hq, ?_⟩
    rw [uin (n := x / a * a) hq0 (by omega), uin (by omega) (by omega)]
    omega
  have H1 := half_start hY ha hb hv hu
  obtain ⟨Q, hQ⟩ : ∃ Q, Q = (u * 4294967296 + v) / Y := ⟨_, rfl⟩
  rw [← hQ] at H1
  have hR := half_rest H1
  obtain ⟨R1, hR1⟩ : ∃ R1, R1 = u * 4294967296 + v - Q * Y := ⟨_, rfl⟩
  rw [← hR1] at hR
  have H2 := half_start hY ha hb hz hR
  obtain ⟨Q0, hQ0⟩ : ∃ Q0, Q0 = (R1 * 4294967296 + z) / Y := ⟨_, rfl⟩
  rw [← hQ0] at H2
  have hR0 := half_rest H2
  have hQb := H1.hQ1
  have hQ0b := H2.hQ1
  have hfin : (u * 18446744073709551616 + v * 4294967296 + z) / Y = Q * 4294967296 + Q0 := by
    refine quo_unique (R := R1 * 4294967296 + z - Q0 * Y) ?_ hR0.1 hR0.2
    have e : (Q * 4294967296 + Q0) * Y = Q * Y * 4294967296 + Q0 * Y := by rw [Int.add_mul, Int.mul_assoc, Int.mul_comm 4294967296 Y, ← Int.mul_assoc]
    omega
  refine ⟨shr .u64 (IntKind.u64.wrap ((IntKind.u64.wrap ((IntKind.u64.wrap (R1 * 4294967296)) + z)) - (IntKind.u64.wrap (Q0 * Y)))) s, ?_⟩
  obtain ⟨q1, q2⟩ := tq u hu.1 hu.2
  rw [q1, q2, hfin]
  refine l0_ev s z _ 2 _ _ H1 (by have := H1.hr; omega) ?_
  refine succ ?_
  simp only [bits_Div64.j2]
  refine ev_neg (by omega) ?_
  have hun : IntKind.u64.wrap (IntKind.u64.wrap (IntKind.u64.wrap (u * 4294967296) + v) - IntKind.u64.wrap (Q * Y)) = R1 := by
    simp only [u64m]
    omega
  rw [hun]
  obtain ⟨q3, q4⟩ := tq R1 hR.1 hR.2
  rw [q3, q4]
  refine l1_ev s z Q _ 2 _ _ H2 (by have := H2.hr; omega) ?_
  rw [if_pos hs, uin (n := Q * 4294967296) (by omega) (by omega), uin (n := Q * 4294967296 + Q0) (by omega) (by omega)]
theorem div64_ev (hi lo y : Int) (hy : 1 ≤ y ∧ y ≤ 1099511627776) (hh : 0 ≤ hi ∧ hi < y) (hl : 0 ≤ lo ∧ lo < 18446744073709551616) :
    ∃ r, Ev (fun k => bits_Div64.f k hi lo y) ((hi * 18446744073709551616 + lo) / y, r) := by
  unfold bits_Div64.f
  by_cases h0 : hi = 0
  · refine ⟨Int.tmod lo y, ev_neg (by omega) (ev_neg (by omega) (ev_pos h0 (now ?_)))⟩
    rw [IntWalk.u64_quo lo y ⟨hl.1, by omega, hy.1⟩, h0]
    simp
  · obtain ⟨Yn, rfl⟩ := Int.eq_ofNat_of_zero_le (show 0 ≤ y by omega)
    obtain ⟨bl, hbl⟩ : ∃ bl, Lib.bitLen Yn = bl := ⟨_, rfl⟩
    have hb := Lib.bitLenAux_bounds 64 Yn (by omega) (by omega)
    have hb' : 1 ≤ bl ∧ 2 ^ (bl - 1) ≤ Yn ∧ Yn < 2 ^ bl := by rw [← hbl]; exact hb
    have hble : bl ≤ 41 := by rw [← hbl]; exact Lib.bitLen_le Yn 41 (by omega) (by omega)
    obtain ⟨n, hn⟩ : ∃ n, n + bl = 64 := ⟨64 - bl, by omega⟩
    have hlz : bits_LeadingZeros64.f (Yn : Int) = some (n : Int) := by
      unfold bits_LeadingZeros64.f
      rw [if_pos (by omega), Int.toNat_natCast, hbl]
      exact congrArg some (by omega)
    have hP1 : 1 ≤ (2 : Nat) ^ n := Nat.one_le_two_pow
    have hYlo : 9223372036854775808 ≤ Yn * 2 ^ n := by
      have e : (2 : Nat) ^ (bl - 1) * 2 ^ n = 2 ^ 63 := by rw [← Nat.pow_add]; congr 1; omega
      have := Nat.mul_le_mul_right (2 ^ n) hb'.2.1
      omega
    have hYhi : Yn * 2 ^ n < 18446744073709551616 := by
      have e : (2 : Nat) ^ bl * 2 ^ n = 2 ^ 64 := by rw [← Nat.pow_add]; congr 1; omega
      have := Nat.mul_lt_mul_of_pos_right hb'.2.2 (show 0 < 2 ^ n by omega)
      omega
    obtain ⟨Hn, rfl⟩ := Int.eq_ofNat_of_zero_le hh.1
    obtain ⟨Ln, rfl⟩ := Int.eq_ofNat_of_zero_le hl.1
    have hHhi : Hn * 2 ^ n + 2 ^ n ≤ Yn * 2 ^ n := by
      have := Nat.mul_le_mul_right (2 ^ n) (show Hn + 1 ≤ Yn by omega)
      rwa [Nat.add_mul, Nat.one_mul] at this
    have hw1 : IntKind.u64.wrap (n : Int) = n := uin (by omega) (by omega)
    have hw2 : IntKind.u64.wrap (64 - (n : Int)) = ((64 - n : Nat) : Int) := by rw [uin (by omega) (by omega)]; omega
    have hsh : ∀ x : Nat, shl .u64 (x : Int) (n : Int) = ((x * 2 ^ n % 18446744073709551616 : Nat) : Int) := by
      intro x
      unfold shl
      rw [Int.toNat_natCast, Nat.min_eq_left (show n ≤ IntKind.u64.bits from (by omega : n ≤ 64)), u64m, Int.natCast_emod, Int.natCast_mul, Int.natCast_pow]
      rfl
    have hsr : shr .u64 (Ln : Int) ((64 - n : Nat) : Int) = ((Ln / 2 ^ (64 - n) : Nat) : Int) := by
      unfold shr
      rw [Int.toNat_natCast, Nat.min_eq_left (show 64 - n ≤ IntKind.u64.bits from (by omega : 64 - n ≤ 64)), Int.natCast_ediv, Int.natCast_pow]
      rfl
    have hlow : Ln / 2 ^ (64 - n) < 2 ^ n := by
      refine Nat.div_lt_of_lt_mul ?_
      have e : (2 : Nat) ^ (64 - n) * 2 ^ n = 2 ^ 64 := by rw [← Nat.pow_add]; congr 1; omega
      omega
    have hsplit : Ln * 2 ^ n = Ln / 2 ^ (64 - n) * 18446744073709551616 + Ln * 2 ^ n % 18446744073709551616 := by
      have e : (18446744073709551616 : Nat) = 2 ^ (64 - n) * 2 ^ n := by rw [← Nat.pow_add, show 64 - n + n = 64 by omega]
      have h1 := Nat.div_add_mod (Ln * 2 ^ n) 18446744073709551616
      have h2 : Ln * 2 ^ n / 18446744073709551616 = Ln / 2 ^ (64 - n) := by rw [e, Nat.mul_div_mul_right _ _ (by omega)]
      rw [h2, Nat.mul_comm] at h1
      exact h1.symm
    obtain ⟨P, hP⟩ : ∃ P : Nat, P = 2 ^ n := ⟨_, rfl⟩
    obtain ⟨lw, hlw⟩ : ∃ lw : Nat, lw = Ln * 2 ^ n % 18446744073709551616 := ⟨_, rfl⟩
    obtain ⟨up, hup⟩ : ∃ up : Nat, up = Ln / 2 ^ (64 - n) := ⟨_, rfl⟩
    have hlwl : lw < 18446744073709551616 := by rw [hlw]; exact Nat.mod_lt _ (by omega)
    have hor : Go.bits .or .u64 ((Hn * 2 ^ n : Nat) : Int) (up : Int) = ((Hn * 2 ^ n + up : Nat) : Int) := by
      rw [bits_join .u64 64 (by decide) wraps_u64 n ((Hn * 2 ^ n : Nat) : Int) (up : Int) (by omega) (by rw [Int.natCast_mul, Int.natCast_pow]; exact Int.mul_emod_left _ _) (by omega) (by omega) (by rw [hup]; exact_mod_cast hlow) (by omega), Int.natCast_add]
    obtain ⟨Y, hY⟩ : ∃ Y : Nat, Y = Yn * 2 ^ n := ⟨_, rfl⟩
    have T := div_tail (Y := (Y : Int)) (a := (Y : Int) / 4294967296) (b := (Y : Int) % 4294967296) (u := ((Hn * 2 ^ n + up : Nat) : Int)) (v := (lw : Int) / 4294967296) (z := (lw : Int) % 4294967296) (s := (n : Int)) (by omega) (by omega) (by omega) (by omega) (by omega) (by omega) (by omega) (by omega)
    obtain ⟨r, hT⟩ := T
    refine ⟨r, ev_neg (by omega) (ev_neg (by omega) (ev_neg h0 (ev_some hlz ?_)))⟩
    simp only [hw1, hw2, hsh, hsr, ← hlw, ← hup]
    rw [Nat.mod_eq_of_lt hYhi, Nat.mod_eq_of_lt (show Hn * 2 ^ n < 18446744073709551616 by omega), hor, ← hY, mask32 _ (by omega) (by omega), mask32 _ (by omega) (by omega)]
    have hres : (((Hn * 2 ^ n + up : Nat) : Int) * 18446744073709551616 + (lw : Int) / 4294967296 * 4294967296 + (lw : Int) % 4294967296) / (Y : Int) = ((Hn : Int) * 18446744073709551616 + Ln) / (Yn : Int) := by
      have e : ((Hn * 2 ^ n + up : Nat) : Int) * 18446744073709551616 + (lw : Int) / 4294967296 * 4294967296 + (lw : Int) % 4294967296 = ((Hn : Int) * 18446744073709551616 + Ln) * ((2 ^ n : Nat) : Int) := by
        have e1 : ((Ln * 2 ^ n : Nat) : Int) = ((up * 18446744073709551616 + lw : Nat) : Int) := by rw [hup, hlw, ← hsplit]
        have e2 : ((Hn : Int) * 18446744073709551616 + Ln) * ((2 ^ n : Nat) : Int) = ((Hn * 2 ^ n : Nat) : Int) * 18446744073709551616 + ((Ln * 2 ^ n : Nat) : Int) := by
          rw [Int.add_mul, Int.natCast_mul, Int.natCast_mul, Int.mul_assoc, Int.mul_comm 18446744073709551616, ← Int.mul_assoc]
        omega
      rw [e, hY, Int.natCast_mul, Int.mul_ediv_mul_of_pos_left _ _ (by omega)]
    rw [← hres]
    exact ev_pos (by omega) (ev_pos (by omega) (ev_neg (by omega) hT))
end Go.Proofs.Ytkjcblbpeoijhaa.Pol
