/- Plain laws of the policy seat: names, whether a policy may be. -/
import Derived.Test.YtkjcblbpeoijhaaDoorH14
import Derived.Test.YtkjcblbpeoijhaaDoorH9
import Derived.Test.YtkjcblbpeoijhaaDoorH10
namespace Go.Proofs.YtkjcblbpeoijhaaDoor.Pol
open Go.RowKit Go.Proofs.YtkjcblbpeoijhaaDoorW.PrintWords Go.Proofs.YtkjcblbpeoijhaaDoorW.PrintLast Go.Proofs.YtkjcblbpeoijhaaDoorW.PrintMore Go.Proofs.YtkjcblbpeoijhaaDoor.G Go.Proofs.YtkjcblbpeoijhaaDoor.Ext
set_option linter.unusedVariables false

theorem succ {α : Type} {g : Nat → Option α} {r : α} (h : Ev (fun k => g (k + 1)) r) : Ev g r := Ev.step (fun _ => rfl) h
theorem wrap_in {x : Int} (h0 : -9223372036854775808 ≤ x) (h1 : x ≤ 9223372036854775807) : wrap64 x = x := by unfold wrap64; omega
theorem now {α : Type} {r q : α} (h : r = q) : Ev (fun _ => some r) q := by rw [h]; exact Ev.now _
theorem ev_pos {α : Type} {c : Prop} [Decidable c] {a b : Nat → Option α} {r : α} (h : c) (k : Ev a r) : Ev (fun n => if c then a n else b n) r := Ev.congr (fun n => if_pos h) k
theorem ev_neg {α : Type} {c : Prop} [Decidable c] {a b : Nat → Option α} {r : α} (h : ¬ c) (k : Ev b r) : Ev (fun n => if c then a n else b n) r := Ev.congr (fun n => if_neg h) k
theorem ev_ite {α : Type} {c : Prop} [Decidable c] {a b : Nat → Option α} {r : α} (h : c → Ev a r) (k : ¬ c → Ev b r) : Ev (fun n => if c then a n else b n) r := by
  by_cases hc : c
  · exact ev_pos hc (h hc)
  · exact ev_neg hc (k hc)
theorem ev_some {α β : Type} {o : Option α} {f : Nat → α → Option β} {a : α} {r : β} (h : o = some a) (k : Ev (fun n => f n a) r) : Ev (fun n => o.bind (f n)) r := Ev.congr (fun n => by rw [h]; rfl) k

/-! ### names -/
def sizeB (s : ByteArray) : Bool := decide (1 ≤ s.size) && decide (s.size ≤ 16)
theorem nameB_eq (s : ByteArray) : nameB s = (allFrom s 0 s.size && sizeB s) := by
  unfold nameB sizeB allR
  by_cases h1 : 1 ≤ s.size <;> by_cases h2 : s.size ≤ 16 <;> simp [h1, h2]
theorem name_j1 (s : ByteArray) (i : Int) (b : Bool) (r : Bool) (h : b = true → r = false) (h' : b = false → Ev (fun k => supercargoref06_Name.l0 k s (wrap64 (i + 1))) r) : Ev (fun k => supercargoref06_Name.j1 k s i b) r := by
  refine succ ?_
  simp only [supercargoref06_Name.j1]
  cases b with
  | true => simp only [if_true]; exact now (h rfl).symm
  | false => simp only [Bool.false_eq_true, if_false]; exact h' rfl
theorem name_l0 (s : ByteArray) (hs : s.size ≤ 9223372036854775806) (d : Nat) : ∀ i : Nat, i + d = s.size → Ev (fun k => supercargoref06_Name.l0 k s i) (allFrom s i d && sizeB s) := by
  induction d with
  | zero =>
    intro i hi
    refine succ ?_
    simp only [supercargoref06_Name.l0]
    refine ev_neg (by omega) ?_
    by_cases h1 : 1 ≤ s.size
    · refine ev_pos (by omega) (now ?_)
      simp [allFrom, sizeB, h1]
      omega
    · refine ev_neg (by omega) (now ?_)
      simp [allFrom, sizeB, h1]
  | succ d ih =>
    intro i hi
    refine succ ?_
    simp only [supercargoref06_Name.l0]
    refine ev_pos (by omega) (ev_pos (by omega) ?_)
    have key : ∀ b : Bool, b = (!runI (bt s i)) → Ev (fun k => supercargoref06_Name.j1 k s i b) (allFrom s i (d + 1) && sizeB s) := by
      intro b hb
      refine name_j1 s i b _ (fun h => ?_) (fun h => ?_)
      · rw [allFrom_no s i d (by rw [h] at hb; simpa using hb.symm)]; rfl
      · rw [allFrom_yes s i d (by rw [h] at hb; simpa using hb.symm), wrap_in (by omega) (by omega)]
        exact ih (i + 1) (by omega)
    unfold runI lowI digI at key
    refine ev_ite (fun a => ev_ite (fun b => key _ ?_) (fun b => ev_ite (fun c => ev_ite (fun d => ?_) (fun d => key _ ?_)) (fun c => ?_))) (fun a => ev_ite (fun c => ev_ite (fun b => key _ ?_) (fun b => key _ ?_)) (fun c => key _ ?_))
    · simp [show 97 ≤ bt s i from a, b]
    · omega
    · simp [show 97 ≤ bt s i from a, b, show 48 ≤ bt s i from c, d]
    · omega
    · simp [show ¬ 97 ≤ bt s i from a, b, show 48 ≤ bt s i from c]
    · simp [show ¬ 97 ≤ bt s i from a, b]
    · simp [show ¬ 97 ≤ bt s i from a, show ¬ 48 ≤ bt s i from c]
theorem ref_name (s : ByteArray) (hs : s.size ≤ 9223372036854775806) : Ev (fun k => supercargoref06_Name.f k s) (nameB s) := by
  rw [nameB_eq]
  exact name_l0 s hs s.size 0 (by omega)
theorem name_f (s : ByteArray) (hs : s.size ≤ 9223372036854775806) : mark_Name.f s = some (nameB s) := by simp [mark_Name.f, show s.size ≤ 9223372036854775807 by omega]

/-! ### may it be -/
def okAt (l : List Int) (i : Nat) : Bool := if 0 ≤ rd l i ∧ rd l i ≤ 1048576 then (if 0 < i then decide (rd l ((i : Int) - 1) < rd l i) else true) else false
def okFrom (l : List Int) : Nat → Nat → Bool
  | _, 0 => true
  | i, d + 1 => if okAt l i = true then okFrom l (i + 1) d else false
theorem okFrom_yes {l : List Int} {i d : Nat} (h : okAt l i = true) : okFrom l i (d + 1) = okFrom l (i + 1) d := by simp [okFrom, h]
theorem okFrom_no {l : List Int} {i d : Nat} (h : okAt l i = false) : okFrom l i (d + 1) = false := by simp [okFrom, h]
def restB (f3 f4 f6 f7 f8 : Int) : Bool := decide ((1 ≤ f3 ∧ f3 ≤ 1099511627776) ∧ (0 ≤ f4 ∧ f4 ≤ f3) ∧ (1 ≤ f8 ∧ f8 ≤ 1000) ∧ (0 ≤ f6 ∧ f6 ≤ 1048576) ∧ (0 ≤ f7 ∧ f7 ≤ 1048576) ∧ f6 ≤ f7)
def mayB (f0 f1 f2 : ByteArray) (f3 f4 : Int) (l : List Int) (f6 f7 f8 : Int) : Bool :=
  nameB f0 && nameB f1 && nameB f2 && decide (l.length ≤ 64) && okFrom l 0 l.length && restB f3 f4 f6 f7 f8
theorem within_eq (a b c : Int) : policy_within.f a b c = some (decide (b ≤ a ∧ a ≤ c)) := by
  unfold policy_within.f
  by_cases h : b ≤ a
  · rw [if_pos h]; simp [h]
  · rw [if_neg h]; simp [h]
theorem in_eq (a b c : Int) : supercargoref14_In.f a b c = some (decide (b ≤ a ∧ a ≤ c)) := by
  unfold supercargoref14_In.f
  by_cases h : b ≤ a
  · rw [if_pos h]; simp [h]
  · rw [if_neg h]; simp [h]
theorem day_eq (a : Int) : policy_day.f a = some (decide (0 ≤ a ∧ a ≤ 1048576)) := by unfold policy_day.f; rw [within_eq]; rfl
section
variable (f0 f1 f2 : ByteArray) (f3 f4 : Int) (l : List Int) (f6 f7 f8 : Int)
theorem may_end : ((policy_within.f f3 1 1099511627776).bind fun t109 => (if t109 = true then ((policy_within.f f4 0 f3).bind fun t110 => (if t110 = true then ((policy_within.f f8 1 1000).bind fun t111 => (if t111 = true then ((policy_day.f f6).bind fun t112 => (if t112 = true then ((policy_day.f f7).bind fun t113 => (if t113 = true then (some (decide (f6 ≤ f7))) else (some false))) else (some false))) else (some false))) else (some false))) else (some false))) = some (restB f3 f4 f6 f7 f8) := by
  simp only [within_eq, day_eq, Option.bind_some, restB]
  by_cases h1 : 1 ≤ f3 ∧ f3 ≤ 1099511627776 <;> by_cases h2 : 0 ≤ f4 ∧ f4 ≤ f3 <;> by_cases h3 : 1 ≤ f8 ∧ f8 ≤ 1000 <;> by_cases h4 : 0 ≤ f6 ∧ f6 ≤ 1048576 <;> by_cases h5 : 0 ≤ f7 ∧ f7 ≤ 1048576 <;> simp [h1, h2, h3, h4, h5]
theorem may_l0 (hl : l.length ≤ 100) (d : Nat) : ∀ i : Nat, i + d = l.length → Ev (fun k => policy_May.l0 k l l.length i f0 f1 f2 f3 f4 l f6 f7 f8) (okFrom l i d && restB f3 f4 f6 f7 f8) := by
  induction d with
  | zero =>
    intro i hi
    refine succ ?_
    simp only [policy_May.l0]
    refine ev_neg (by omega) ?_
    simp only [may_end]
    exact now (by simp [okFrom])
  | succ d ih =>
    intro i hi
    refine succ ?_
    simp only [policy_May.l0]
    refine ev_pos (by omega) (ev_pos (by omega) (ev_pos (by omega) ?_))
    simp only [within_eq, Option.bind_some]
    have key : ∀ b : Bool, b = (!okAt l i) → Ev (fun k => policy_May.j2 k l l.length i b f0 f1 f2 f3 f4 l f6 f7 f8) (okFrom l i (d + 1) && restB f3 f4 f6 f7 f8) := by
      intro b hb
      refine succ ?_
      simp only [policy_May.j2]
      cases b with
      | true => exact ev_pos rfl (now (by rw [okFrom_no (by simpa using hb.symm)]; rfl))
      | false =>
        refine ev_neg (by simp) ?_
        rw [okFrom_yes (by simpa using hb.symm), wrap_in (by omega) (by omega)]
        exact ih (i + 1) (by omega)
    refine ev_ite (fun a => ev_ite (fun b => ?_) (fun b => key _ ?_)) (fun a => key _ ?_)
    · rw [wrap_in (by omega) (by omega)]
      refine ev_pos (by omega) (ev_pos (by omega) (key _ ?_))
      have a' := of_decide_eq_true a
      simp only [okAt, if_pos a', if_pos (show 0 < i by omega)]
      by_cases h : rd l ((i : Int) - 1) < rd l i <;> simp [h] <;> omega
    · have a' := of_decide_eq_true a
      simp only [okAt, if_pos a', if_neg (show ¬ 0 < i by omega)]; rfl
    · simp only [decide_eq_true_eq] at a
      simp only [okAt, if_neg a]; rfl
theorem may_ev (h0 : f0.size ≤ 100) (h1 : f1.size ≤ 100) (h2 : f2.size ≤ 100) (hl : l.length ≤ 100) : Ev (fun k => policy_May.f k f0 f1 f2 f3 f4 l f6 f7 f8) (mayB f0 f1 f2 f3 f4 l f6 f7 f8) := by
  unfold policy_May.f
  rw [name_f f0 (by omega), name_f f1 (by omega), name_f f2 (by omega)]
  simp only [Option.bind_some]
  have key : ∀ b : Bool, (b = true → mayB f0 f1 f2 f3 f4 l f6 f7 f8 = false) → (b = false → mayB f0 f1 f2 f3 f4 l f6 f7 f8 = (okFrom l 0 l.length && restB f3 f4 f6 f7 f8)) → Ev (fun k => policy_May.j0 k b f0 f1 f2 f3 f4 l f6 f7 f8) (mayB f0 f1 f2 f3 f4 l f6 f7 f8) := by
    intro b hb hb'
    refine succ ?_
    simp only [policy_May.j0]
    cases b with
    | true => exact ev_pos rfl (now (hb rfl).symm)
    | false =>
      refine ev_neg (by simp) ?_
      rw [hb' rfl]
      exact may_l0 f0 f1 f2 f3 f4 l f6 f7 f8 hl l.length 0 (by omega)
  refine ev_ite (fun a => ev_ite (fun b => ev_ite (fun c => key _ (fun e => ?_) (fun e => ?_)) (fun c => key _ (fun _ => ?_) (fun e => by cases e))) (fun b => key _ (fun _ => ?_) (fun e => by cases e))) (fun a => key _ (fun _ => ?_) (fun e => by cases e))
  · have : ¬ l.length ≤ 64 := by have := of_decide_eq_true e; omega
    simp [mayB, this]
  · have : l.length ≤ 64 := by have := of_decide_eq_false e; omega
    simp [mayB, a, b, c, this]
  · simp [mayB, c]
  · simp [mayB, b]
  · simp [mayB, a]
theorem rmay_l0 (hl : l.length ≤ 100) (d : Nat) : ∀ i : Nat, i + d = l.length → Ev (fun k => supercargoref42_May.l0 k i f0 f1 f2 f3 f4 l f6 f7 f8) (okFrom l i d) := by
  induction d with
  | zero =>
    intro i hi
    refine succ ?_
    simp only [supercargoref42_May.l0]
    exact ev_neg (by omega) (now (by simp [okFrom]))
  | succ d ih =>
    intro i hi
    refine succ ?_
    simp only [supercargoref42_May.l0]
    refine ev_pos (by omega) (ev_pos (by omega) ?_)
    simp only [in_eq, Option.bind_some]
    have key : ∀ b : Bool, b = (!okAt l i) → Ev (fun k => supercargoref42_May.j3 k i b f0 f1 f2 f3 f4 l f6 f7 f8) (okFrom l i (d + 1)) := by
      intro b hb
      refine succ ?_
      simp only [supercargoref42_May.j3]
      cases b with
      | true => exact ev_pos rfl (now (by rw [okFrom_no (by simpa using hb.symm)]))
      | false =>
        refine ev_neg (by simp) ?_
        rw [okFrom_yes (by simpa using hb.symm), wrap_in (by omega) (by omega)]
        exact ih (i + 1) (by omega)
    refine ev_ite (fun a => ev_ite (fun b => ?_) (fun b => key _ ?_)) (fun a => key _ ?_)
    · rw [wrap_in (by omega) (by omega)]
      refine ev_pos (by omega) (ev_pos (by omega) (key _ ?_))
      have a' := of_decide_eq_true a
      simp only [okAt, if_pos a', if_pos (show 0 < i by omega)]
      by_cases h : rd l ((i : Int) - 1) < rd l i <;> simp [h] <;> omega
    · have a' := of_decide_eq_true a
      simp only [okAt, if_pos a', if_neg (show ¬ 0 < i by omega)]; rfl
    · simp only [decide_eq_true_eq] at a
      simp only [okAt, if_neg a]; rfl
theorem rmay_ev (h0 : f0.size ≤ 100) (h1 : f1.size ≤ 100) (h2 : f2.size ≤ 100) (hl : l.length ≤ 100) : Ev (fun k => supercargoref42_May.f k f0 f1 f2 f3 f4 l f6 f7 f8) (mayB f0 f1 f2 f3 f4 l f6 f7 f8) := by
  unfold supercargoref42_May.f
  have key : ∀ b : Bool, (b = true → mayB f0 f1 f2 f3 f4 l f6 f7 f8 = false) → (b = false → nameB f0 = true ∧ nameB f1 = true ∧ nameB f2 = true ∧ (1 ≤ f3 ∧ f3 ≤ 1099511627776) ∧ (0 ≤ f4 ∧ f4 ≤ f3)) → Ev (fun k => supercargoref42_May.j0 k b f0 f1 f2 f3 f4 l f6 f7 f8) (mayB f0 f1 f2 f3 f4 l f6 f7 f8) := by
    intro b hb hb'
    refine succ ?_
    simp only [supercargoref42_May.j0]
    cases b with
    | true => exact ev_pos rfl (now (hb rfl).symm)
    | false =>
      obtain ⟨n0, n1, n2, r1, r2⟩ := hb' rfl
      refine ev_neg (by simp) ?_
      simp only [in_eq, Option.bind_some]
      have key2 : ∀ b : Bool, (b = true → mayB f0 f1 f2 f3 f4 l f6 f7 f8 = false) → (b = false → mayB f0 f1 f2 f3 f4 l f6 f7 f8 = okFrom l 0 l.length) → Ev (fun k => supercargoref42_May.j1 k b f0 f1 f2 f3 f4 l f6 f7 f8) (mayB f0 f1 f2 f3 f4 l f6 f7 f8) := by
        intro b hb hb'
        refine succ ?_
        simp only [supercargoref42_May.j1]
        cases b with
        | true => exact ev_pos rfl (now (hb rfl).symm)
        | false =>
          refine ev_neg (by simp) ?_
          rw [hb' rfl]
          exact rmay_l0 f0 f1 f2 f3 f4 l f6 f7 f8 hl l.length 0 (by omega)
      simp only [decide_eq_true_eq]
      refine ev_ite (fun a => ev_ite (fun b => ev_ite (fun c => key2 _ (fun e => ?_) (fun e => ?_)) (fun c => key2 _ (fun _ => ?_) (fun e => by cases e))) (fun b => key2 _ (fun _ => ?_) (fun e => by cases e))) (fun a => key2 _ (fun _ => ?_) (fun e => by cases e))
      · have : ¬ l.length ≤ 64 := by have := of_decide_eq_true e; omega
        simp [mayB, this]
      · have hq : l.length ≤ 64 := by have := of_decide_eq_false e; omega
        have hr : restB f3 f4 f6 f7 f8 = true := by unfold restB; exact decide_eq_true ⟨r1, r2, a, b, ⟨by omega, by omega⟩, by omega⟩
        simp [mayB, n0, n1, n2, hq, hr]
      · have hr : restB f3 f4 f6 f7 f8 = false := by unfold restB; exact decide_eq_false (by rintro ⟨_, _, _, _, ⟨_, _⟩, _⟩; omega)
        simp [mayB, hr]
      · have hr : restB f3 f4 f6 f7 f8 = false := by unfold restB; exact decide_eq_false (by rintro ⟨_, _, _, h, ⟨_, _⟩, _⟩; exact b h)
        simp [mayB, hr]
      · have hr : restB f3 f4 f6 f7 f8 = false := by unfold restB; exact decide_eq_false (by rintro ⟨_, _, h, _, ⟨_, _⟩, _⟩; exact a h)
        simp [mayB, hr]
  refine Ev.bind (ref_name f0 (by omega)) (ev_ite (fun a => Ev.bind (ref_name f1 (by omega)) (ev_ite (fun b => Ev.bind (ref_name f2 (by omega)) (ev_ite (fun c => ?_) (fun c => key _ (fun _ => ?_) (fun e => by cases e)))) (fun b => key _ (fun _ => ?_) (fun e => by cases e)))) (fun a => key _ (fun _ => ?_) (fun e => by cases e)))
  · have bad : ¬ ((1 ≤ f3 ∧ f3 ≤ 1099511627776) ∧ (0 ≤ f4 ∧ f4 ≤ f3)) → mayB f0 f1 f2 f3 f4 l f6 f7 f8 = false := by
      intro h
      have hr : restB f3 f4 f6 f7 f8 = false := by unfold restB; exact decide_eq_false (by rintro ⟨h1, h2, _⟩; exact h ⟨h1, h2⟩)
      simp [mayB, hr]
    refine ev_ite (fun d => key _ (fun _ => bad (by omega)) (fun e => by cases e)) (fun d => ev_ite (fun e => key _ (fun _ => bad (by omega)) (fun e => by cases e)) (fun e => ev_ite (fun g => key _ (fun _ => bad (by omega)) (fun e => by cases e)) (fun g => key _ (fun e => bad (by have := of_decide_eq_true e; omega)) (fun e => ⟨a, b, c, by omega, by have := of_decide_eq_false e; omega⟩))))
  · simp [mayB, c]
  · simp [mayB, b]
  · simp [mayB, a]
end
end Go.Proofs.YtkjcblbpeoijhaaDoor.Pol
