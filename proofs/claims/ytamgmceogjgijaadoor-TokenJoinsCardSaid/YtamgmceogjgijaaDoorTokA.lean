/- Plain laws of the token seat: what stands at a place, and the whole text, by the program. -/
import Derived.Test.YtamgmceogjgijaaDoorH25
namespace Go.Proofs.YtamgmceogjgijaaDoor.Tok
open Go.RowKit Go.Proofs.YtamgmceogjgijaaDoorW.PrintWords Go.Proofs.YtamgmceogjgijaaDoorW.PrintLast Go.Proofs.YtamgmceogjgijaaDoorW.PrintMore Go.Proofs.YtamgmceogjgijaaDoor.G Go.Proofs.YtamgmceogjgijaaDoor.Ext
set_option linter.unusedVariables false
set_option linter.unusedSimpArgs false

theorem bt_extract (s : ByteArray) (a b i : Nat) (h : a + i < b) (hb : b ≤ s.size) : bt (s.extract a b) i = bt s ((a + i : Nat) : Int) := by
  have h1 : i < (s.extract a b).size := by rw [ByteArray.size_extract]; omega
  unfold bt
  simp only [Int.toNat_natCast]
  rw [dif_pos h1, dif_pos (show a + i < s.size by omega), ByteArray.getElem_extract]
theorem size_ex (s : ByteArray) (a b : Nat) (hb : b ≤ s.size) : (s.extract a b).size = b - a := by rw [ByteArray.size_extract]; omega
theorem span_range (p : Int → Bool) (s : ByteArray) (d : Nat) : ∀ i, i ≤ spanN p s i d ∧ spanN p s i d ≤ i + d := by
  induction d with
  | zero => intro i; exact ⟨Nat.le_refl _, Nat.le_refl _⟩
  | succ d ih =>
    intro i
    by_cases h : p (bt s i) = true
    · rw [spanN_yes h]; have := ih (i + 1); omega
    · rw [spanN_no (Bool.eq_false_iff.2 h)]; omega
theorem span_in (p : Int → Bool) (s : ByteArray) (d : Nat) : ∀ i k, i ≤ k → k < spanN p s i d → p (bt s k) = true := by
  induction d with
  | zero => intro i k h1 h2; simp [spanN] at h2; omega
  | succ d ih =>
    intro i k h1 h2
    by_cases h : p (bt s i) = true
    · rw [spanN_yes h] at h2
      rcases Nat.eq_or_lt_of_le h1 with e | e
      · rw [← e]; exact h
      · exact ih (i + 1) k e h2
    · rw [spanN_no (Bool.eq_false_iff.2 h)] at h2; omega
theorem span_stop (p : Int → Bool) (s : ByteArray) (d : Nat) : ∀ i, spanN p s i d < i + d → p (bt s (spanN p s i d)) = false := by
  induction d with
  | zero => intro i h; simp [spanN] at h
  | succ d ih =>
    intro i h
    by_cases hp : p (bt s i) = true
    · rw [spanN_yes hp] at h ⊢; exact ih (i + 1) (by omega)
    · rw [spanN_no (Bool.eq_false_iff.2 hp)]; exact Bool.eq_false_iff.2 hp
/-- Where a span ends is told by what lies in it and by what stands behind it. -/
theorem span_eq (p : Int → Bool) (s : ByteArray) (d : Nat) : ∀ i e, i ≤ e → e ≤ i + d → (∀ k, i ≤ k → k < e → p (bt s k) = true) → (e < i + d → p (bt s e) = false) → spanN p s i d = e := by
  induction d with
  | zero => intro i e h1 h2 _ _; simp [spanN]; omega
  | succ d ih =>
    intro i e h1 h2 h3 h4
    rcases Nat.eq_or_lt_of_le h1 with h | h
    · subst h
      rw [spanN_no (h4 (by omega))]
    · rw [spanN_yes (h3 i (Nat.le_refl _) h)]
      exact ih (i + 1) e h (by omega) (fun k a b => h3 k (by omega) b) (fun h => h4 (by omega))
theorem span_ex (p : Int → Bool) (s : ByteArray) (a b : Nat) (hb : b ≤ s.size) (d : Nat) : ∀ i, a + i + d ≤ b → spanN p (s.extract a b) i d + a = spanN p s (a + i) d := by
  induction d with
  | zero => intro i h; simp [spanN]; omega
  | succ d ih =>
    intro i h
    have e := bt_extract s a b i (by omega) hb
    by_cases hp : p (bt s ((a + i : Nat) : Int)) = true
    · rw [spanN_yes hp, spanN_yes (by rw [e]; exact hp), ih (i + 1) (by omega)]; rfl
    · rw [spanN_no (Bool.eq_false_iff.2 hp), spanN_no (by rw [e]; exact Bool.eq_false_iff.2 hp)]; omega

/-- What stands at a place: its kind, its text, the place behind it, the error (0: none). -/
structure Tk where
  kind : Int
  text : ByteArray
  fin : Nat
  err : Int
def singleB (c : Int) : Bool := c == 40 || c == 41 || c == 44 || c == 59 || c == 58 || c == 46 || c == 61 || c == 126
def doubleB (c : Int) : Bool := c == 60 || c == 62
def bad (e : Int) : Tk := ⟨0, ⟨#[]⟩, 0, e⟩
def tokAt (s : ByteArray) (i : Nat) : Tk :=
  if runI (bt s i) = true then
    ⟨(runS (s.extract i (spanN runI s i (s.size - i)))).1, s.extract i (spanN runI s i (s.size - i)), spanN runI s i (s.size - i), (runS (s.extract i (spanN runI s i (s.size - i)))).2⟩
  else if capI (bt s i) = true then
    (if spanN capI s i (s.size - i) = i + 3 then ⟨4, s.extract i (i + 3), i + 3, 0⟩ else bad 2)
  else if bt s i = 34 then
    (if spanN plainI s (i + 1) (s.size - (i + 1)) < s.size ∧ bt s (spanN plainI s (i + 1) (s.size - (i + 1))) = 34 then
      ⟨3, s.extract (i + 1) (spanN plainI s (i + 1) (s.size - (i + 1))), spanN plainI s (i + 1) (s.size - (i + 1)) + 1, 0⟩ else bad 2)
  else if singleB (bt s i) = true then ⟨5, s.extract i (i + 1), i + 1, 0⟩
  else if doubleB (bt s i) = true ∧ i + 1 < s.size ∧ bt s ((i + 1 : Nat) : Int) = 61 then ⟨5, s.extract i (i + 2), i + 2, 0⟩
  else bad 2
theorem single_all : ∀ c : Fin 256, decide (Lib.indexByte [40, 41, 44, 59, 58, 46, 61, 126] c.val.toUInt8 ≥ 0) = singleB (c.val : Int) := by decide +kernel
theorem double_all : ∀ c : Fin 256, decide (Lib.indexByte [60, 62] c.val.toUInt8 ≥ 0) = doubleB (c.val : Int) := by decide +kernel
theorem bt_fin (s : ByteArray) (i : Int) : ∃ c : Fin 256, bt s i = (c.val : Int) := by
  have := bt_range s i
  exact ⟨⟨(bt s i).toNat, by omega⟩, by show bt s i = (((bt s i).toNat : Nat) : Int); omega⟩
theorem single_eq (s : ByteArray) (i : Int) : ∃ j, strings_IndexByte.f (⟨#[40, 41, 44, 59, 58, 46, 61, 126]⟩ : ByteArray) (bt s i) = some j ∧ singleB (bt s i) = decide (j ≥ 0) := by
  obtain ⟨c, hc⟩ := bt_fin s i
  rw [hc]
  exact ⟨_, rfl, (single_all c).symm⟩
theorem double_eq (s : ByteArray) (i : Int) : ∃ j, strings_IndexByte.f (⟨#[60, 62]⟩ : ByteArray) (bt s i) = some j ∧ doubleB (bt s i) = decide (j ≥ 0) := by
  obtain ⟨c, hc⟩ := bt_fin s i
  rw [hc]
  exact ⟨_, rfl, (double_all c).symm⟩
theorem ex_ex (s : ByteArray) (a b c : Nat) (hb : a + c ≤ b) (hs : b ≤ s.size) (d : Nat) : (s.extract a b).extract d c = s.extract (a + d) (a + c) := by
  rw [ByteArray.extract_extract, Nat.min_eq_left hb]
theorem ib {p : Bool} {j : Int} (h : p = decide (j ≥ 0)) : (p = true ↔ j ≥ 0) := by rw [h, decide_eq_true_eq]
theorem pos {α : Type} {c : Prop} [Decidable c] {a b r : Option α} (h : c) (k : a = r) : (if c then a else b) = r := by rw [if_pos h]; exact k
theorem neg {α : Type} {c : Prop} [Decidable c] {a b r : Option α} (h : ¬ c) (k : b = r) : (if c then a else b) = r := by rw [if_neg h]; exact k
theorem bnd {α β : Type} {o : Option α} {f : α → Option β} {v : α} {r : Option β} (h : o = some v) (k : f v = r) : o.bind f = r := by rw [h]; exact k
theorem run_v (c : Int) : token_running.f c = some (runI c) := rfl
theorem cap_v (c : Int) : token_capital.f c = some (capI c) := rfl
theorem bt_ex0 (s : ByteArray) (i : Nat) (hi : i < s.size) : bt (s.extract i s.size) 0 = bt s i := bt_extract s i s.size 0 (by omega) (Nat.le_refl _)
theorem one_run (s : ByteArray) (i e : Nat) (hi : i < s.size) (hs : s.size ≤ 1000000) (hr : runI (bt s i) = true) (he : spanN runI s i (s.size - i) = e) :
    token_one.f (s.extract i s.size) = some ((runS (s.extract i e)).1, 0, s.extract i e, ((e - i : Nat) : Int), (runS (s.extract i e)).2) ∧ i < e ∧ e ≤ s.size := by
  have hsz := size_ex s i s.size (Nat.le_refl _)
  have hb0 := bt_ex0 s i hi
  have hrg := span_range runI s (s.size - i) i
  have hgt : i < e := by
    obtain ⟨d, hd⟩ : ∃ d, s.size - i = d + 1 := ⟨s.size - i - 1, by omega⟩
    rw [← he, hd, spanN_yes hr]
    exact (span_range runI s d (i + 1)).1
  have hsp := span_ex runI s i s.size (Nat.le_refl _) (s.size - i) 0 (by omega)
  rw [Nat.add_zero, he] at hsp
  rw [he] at hrg
  refine ⟨?_, hgt, by omega⟩
  have hv : token_span_running.f (s.extract i s.size) = some ((e - i : Nat) : Int) := by
    unfold token_span_running.f
    rw [if_pos (by omega), hsz]
    congr 1
    omega
  have hx : (s.extract i s.size).extract 0 (e - i) = s.extract i e := by rw [ex_ex s i s.size (e - i) (by omega) (Nat.le_refl _) 0, Nat.add_zero, show i + (e - i) = e by omega]
  have hq : token_run.f ((s.extract i s.size).extract 0 (((e - i : Nat) : Int)).toNat) = some (runS (s.extract i e)) := by
    rw [Int.toNat_natCast, hx]
    unfold token_run.f
    rw [if_pos (by rw [size_ex s i e (by omega)]; omega)]
  have hx' : (s.extract i s.size).extract 0 (((e - i : Nat) : Int)).toNat = s.extract i e := by rw [Int.toNat_natCast, hx]
  unfold token_one.f
  refine pos (by omega) (bnd (run_v _) (pos (by rw [hb0]; exact hr) (bnd hv (pos (by omega) (pos (by omega) (bnd hq ?_))))))
  rw [hx']
theorem one_cap (s : ByteArray) (i : Nat) (hi : i < s.size) (hs : s.size ≤ 1000000) (hr : runI (bt s i) = false) (hc : capI (bt s i) = true) :
    token_one.f (s.extract i s.size) = if spanN capI s i (s.size - i) = i + 3 then some (4, 0, s.extract i (i + 3), 3, 0) else some (0, 0, (⟨#[]⟩ : ByteArray), 0, 2) := by
  have hsz := size_ex s i s.size (Nat.le_refl _)
  have hb0 := bt_ex0 s i hi
  obtain ⟨e, he⟩ : ∃ e, spanN capI s i (s.size - i) = e := ⟨_, rfl⟩
  have hrg := span_range capI s (s.size - i) i
  have hsp := span_ex capI s i s.size (Nat.le_refl _) (s.size - i) 0 (by omega)
  rw [Nat.add_zero, he] at hsp
  rw [he] at hrg ⊢
  have hv : token_span_capital.f (s.extract i s.size) = some ((e - i : Nat) : Int) := by
    unfold token_span_capital.f
    rw [if_pos (by omega), hsz]
    congr 1
    omega
  unfold token_one.f
  refine pos (by omega) (bnd (run_v _) (neg (by rw [hb0, hr]; simp) (bnd (cap_v _) (pos (by rw [hb0]; exact hc) (bnd hv ?_)))))
  by_cases h3 : e = i + 3
  · rw [if_pos h3]
    have hx : (s.extract i s.size).extract 0 (((e - i : Nat) : Int)).toNat = s.extract i (i + 3) := by
      rw [Int.toNat_natCast, ex_ex s i s.size (e - i) (by omega) (Nat.le_refl _) 0, Nat.add_zero, show i + (e - i) = i + 3 by omega]
    refine pos (by omega) (pos (by omega) (pos (by omega) ?_))
    rw [hx, show ((e - i : Nat) : Int) = 3 by omega]
  · rw [if_neg h3]
    exact neg (by omega) rfl
theorem run_no {c : Int} (h : c = 34 ∨ singleB c = true ∨ doubleB c = true) : runI c = false := by
  rcases h with h | h | h
  · subst h; decide
  · unfold singleB at h; simp only [Bool.or_eq_true, beq_iff_eq] at h; rcases h with ((((((h | h) | h) | h) | h) | h) | h) | h <;> (subst h; decide)
  · unfold doubleB at h; simp only [Bool.or_eq_true, beq_iff_eq] at h; rcases h with h | h <;> (subst h; decide)
theorem one_text (s : ByteArray) (i e : Nat) (hi : i < s.size) (hs : s.size ≤ 1000000) (hr : runI (bt s i) = false) (hc : capI (bt s i) = false) (hq : bt s i = 34) (he : spanN plainI s (i + 1) (s.size - (i + 1)) = e) :
    token_one.f (s.extract i s.size) = if e < s.size ∧ bt s e = 34 then some (3, 0, s.extract (i + 1) e, ((e + 1 - i : Nat) : Int), 0) else some (0, 0, (⟨#[]⟩ : ByteArray), 0, 2) := by
  have hsz := size_ex s i s.size (Nat.le_refl _)
  have hb0 := bt_ex0 s i hi
  have hrg := span_range plainI s (s.size - (i + 1)) (i + 1)
  have hsp := span_ex plainI s (i + 1) s.size (Nat.le_refl _) (s.size - (i + 1)) 0 (by omega)
  rw [Nat.add_zero, he] at hsp
  rw [he] at hrg
  have hex1 : (s.extract i s.size).extract 1 (s.extract i s.size).size = s.extract (i + 1) s.size := by rw [hsz, ex_ex s i s.size (s.size - i) (by omega) (Nat.le_refl _) 1, show i + (s.size - i) = s.size by omega]
  have hv : token_span_plain.f ((s.extract i s.size).extract 1 (s.extract i s.size).size) = some ((e - (i + 1) : Nat) : Int) := by
    rw [hex1]
    unfold token_span_plain.f
    rw [if_pos (by rw [size_ex s (i + 1) s.size (Nat.le_refl _)]; omega), size_ex s (i + 1) s.size (Nat.le_refl _)]
    congr 1
    omega
  have hw : wrap64 (1 + ((e - (i + 1) : Nat) : Int)) = ((e - i : Nat) : Int) := by rw [wrap_in (by omega) (by omega)]; omega
  unfold token_one.f
  refine pos (by omega) (bnd (run_v _) (neg (by rw [hb0, hr]; simp) (bnd (cap_v _) (neg (by rw [hb0, hc]; simp) (pos (by rw [hb0]; exact hq) (pos (by omega) (bnd hv ?_)))))))
  rw [hw]
  by_cases hend : e = s.size
  · rw [if_neg (c := e < s.size ∧ bt s e = 34) (fun h => by omega)]
    exact pos (by omega) rfl
  · have hbe : bt (s.extract i s.size) ((e - i : Nat) : Int) = bt s e := by
      have := bt_extract s i s.size (e - i) (by omega) (Nat.le_refl _)
      rw [show i + (e - i) = e by omega] at this
      exact this
    refine neg (by omega) (pos (by omega) (pos (by omega) ?_))
    by_cases hz : bt s e = 34
    · rw [if_pos (c := e < s.size ∧ bt s e = 34) ⟨by omega, hz⟩]
      have hx : (s.extract i s.size).extract 1 (((e - i : Nat) : Int)).toNat = s.extract (i + 1) e := by
        rw [Int.toNat_natCast, ex_ex s i s.size (e - i) (by omega) (Nat.le_refl _) 1, show i + (e - i) = e by omega]
      refine pos (by rw [hbe]; exact hz) (pos (by omega) (pos (by omega) ?_))
      rw [hx, wrap_in (by omega) (by omega), show ((e - i : Nat) : Int) + 1 = ((e + 1 - i : Nat) : Int) by omega]
    · rw [if_neg (c := e < s.size ∧ bt s e = 34) (fun h => hz h.2)]
      exact neg (by rw [hbe]; exact hz) rfl
theorem one_sign (s : ByteArray) (i : Nat) (hi : i < s.size) (hs : s.size ≤ 1000000) (hr : runI (bt s i) = false) (hc : capI (bt s i) = false) (hq : bt s i ≠ 34) :
    token_one.f (s.extract i s.size) = if singleB (bt s i) = true then some (5, 0, s.extract i (i + 1), 1, 0) else if doubleB (bt s i) = true ∧ i + 1 < s.size ∧ bt s ((i + 1 : Nat) : Int) = 61 then some (5, 0, s.extract i (i + 2), 2, 0) else some (0, 0, (⟨#[]⟩ : ByteArray), 0, 2) := by
  have hsz := size_ex s i s.size (Nat.le_refl _)
  have hb0 := bt_ex0 s i hi
  obtain ⟨j, hj, hsj⟩ := single_eq s i
  obtain ⟨j2, hj2, hdj⟩ := double_eq s i
  unfold token_one.f
  refine pos (by omega) (bnd (run_v _) (neg (by rw [hb0, hr]; simp) (bnd (cap_v _) (neg (by rw [hb0, hc]; simp) (neg (by rw [hb0]; exact hq) (bnd (by rw [hb0]; exact hj) ?_))))))
  by_cases hsg : singleB (bt s i) = true
  · rw [if_pos (c := singleB (bt s i) = true) hsg]
    refine pos ((ib hsj).1 hsg) (pos (by omega) (pos (by omega) ?_))
    rw [ex_ex s i s.size 1 (by omega) (Nat.le_refl _) 0, Nat.add_zero]
  · rw [if_neg (c := singleB (bt s i) = true) hsg]
    refine neg (fun h => hsg ((ib hsj).2 h)) (bnd (by rw [hb0]; exact hj2) ?_)
    by_cases hdb : doubleB (bt s i) = true
    · refine pos ((ib hdj).1 hdb) ?_
      by_cases hl : i + 1 < s.size
      · have hb1 : bt (s.extract i s.size) 1 = bt s ((i + 1 : Nat) : Int) := bt_extract s i s.size 1 (by omega) (Nat.le_refl _)
        refine pos (by omega) (pos (by omega) ?_)
        by_cases h61 : bt s ((i + 1 : Nat) : Int) = 61
        · rw [if_pos (c := doubleB (bt s i) = true ∧ i + 1 < s.size ∧ bt s ((i + 1 : Nat) : Int) = 61) ⟨hdb, hl, h61⟩]
          refine pos (by rw [hb1]; exact h61) (pos (by omega) (pos (by omega) ?_))
          rw [ex_ex s i s.size 2 (by omega) (Nat.le_refl _) 0, Nat.add_zero]
        · rw [if_neg (c := doubleB (bt s i) = true ∧ i + 1 < s.size ∧ bt s ((i + 1 : Nat) : Int) = 61) (fun h => h61 h.2.2)]
          exact neg (by rw [hb1]; exact h61) rfl
      · rw [if_neg (c := doubleB (bt s i) = true ∧ i + 1 < s.size ∧ bt s ((i + 1 : Nat) : Int) = 61) (fun h => hl h.2.1)]
        exact neg (by omega) rfl
    · rw [if_neg (c := doubleB (bt s i) = true ∧ i + 1 < s.size ∧ bt s ((i + 1 : Nat) : Int) = 61) (fun h => hdb h.1)]
      exact neg (fun h => hdb ((ib hdj).2 h)) rfl
/-- What the program's one tells at a place. -/
theorem one_eq (s : ByteArray) (i : Nat) (hi : i < s.size) (hs : s.size ≤ 1000000) : ∃ k n tx, token_one.f (s.extract i s.size) = some (k, 0, tx, n, (tokAt s i).err) ∧ ((tokAt s i).err = 0 → k = (tokAt s i).kind ∧ tx = (tokAt s i).text ∧ (i : Int) + n = ((tokAt s i).fin : Nat) ∧ i < (tokAt s i).fin ∧ (tokAt s i).fin ≤ s.size) := by
  cases hr : runI (bt s i) with
  | true =>
    obtain ⟨e, he⟩ : ∃ e, spanN runI s i (s.size - i) = e := ⟨_, rfl⟩
    obtain ⟨h1, h2, h3⟩ := one_run s i e hi hs hr he
    have hT : tokAt s i = ⟨(runS (s.extract i e)).1, s.extract i e, e, (runS (s.extract i e)).2⟩ := by unfold tokAt; rw [if_pos hr, he]
    rw [hT]
    exact ⟨_, _, _, h1, fun _ => ⟨rfl, rfl, by show (i : Int) + ((e - i : Nat) : Int) = (e : Nat); omega, h2, h3⟩⟩
  | false =>
    have hr' : ¬ runI (bt s i) = true := by rw [hr]; simp
    cases hc : capI (bt s i) with
    | true =>
      have h1 := one_cap s i hi hs hr hc
      have hT : tokAt s i = (if spanN capI s i (s.size - i) = i + 3 then ⟨4, s.extract i (i + 3), i + 3, 0⟩ else bad 2) := by unfold tokAt; rw [if_neg hr', if_pos hc]
      rw [h1, hT]
      have hrg := span_range capI s (s.size - i) i
      by_cases h3 : spanN capI s i (s.size - i) = i + 3
      · rw [if_pos h3, if_pos h3]
        exact ⟨_, _, _, rfl, fun _ => ⟨rfl, rfl, rfl, Nat.lt_add_of_pos_right (by omega), by show i + 3 ≤ s.size; omega⟩⟩
      · rw [if_neg h3, if_neg h3]
        exact ⟨_, _, _, rfl, fun h => by simp [bad] at h⟩
    | false =>
      have hc' : ¬ capI (bt s i) = true := by rw [hc]; simp
      by_cases hq : bt s i = 34
      · obtain ⟨e, he⟩ : ∃ e, spanN plainI s (i + 1) (s.size - (i + 1)) = e := ⟨_, rfl⟩
        have h1 := one_text s i e hi hs hr hc hq he
        have hT : tokAt s i = (if e < s.size ∧ bt s e = 34 then ⟨3, s.extract (i + 1) e, e + 1, 0⟩ else bad 2) := by unfold tokAt; rw [if_neg hr', if_neg hc', if_pos hq, he]
        have hrg := span_range plainI s (s.size - (i + 1)) (i + 1)
        rw [he] at hrg
        rw [h1, hT]
        by_cases h3 : e < s.size ∧ bt s e = 34
        · rw [if_pos h3, if_pos h3]
          exact ⟨_, _, _, rfl, fun _ => ⟨rfl, rfl, by show (i : Int) + ((e + 1 - i : Nat) : Int) = ((e + 1 : Nat) : Int); omega, by show i < e + 1; omega, by show e + 1 ≤ s.size; omega⟩⟩
        · rw [if_neg h3, if_neg h3]
          exact ⟨_, _, _, rfl, fun h => by simp [bad] at h⟩
      · have h1 := one_sign s i hi hs hr hc hq
        have hT : tokAt s i = (if singleB (bt s i) = true then ⟨5, s.extract i (i + 1), i + 1, 0⟩ else if doubleB (bt s i) = true ∧ i + 1 < s.size ∧ bt s ((i + 1 : Nat) : Int) = 61 then ⟨5, s.extract i (i + 2), i + 2, 0⟩ else bad 2) := by unfold tokAt; rw [if_neg hr', if_neg hc', if_neg hq]
        rw [h1, hT]
        by_cases h3 : singleB (bt s i) = true
        · rw [if_pos h3, if_pos h3]
          exact ⟨_, _, _, rfl, fun _ => ⟨rfl, rfl, rfl, Nat.lt_add_of_pos_right (by omega), by show i + 1 ≤ s.size; omega⟩⟩
        · rw [if_neg h3, if_neg h3]
          by_cases h4 : doubleB (bt s i) = true ∧ i + 1 < s.size ∧ bt s ((i + 1 : Nat) : Int) = 61
          · rw [if_pos h4, if_pos h4]
            have := h4.2.1
            exact ⟨_, _, _, rfl, fun _ => ⟨rfl, rfl, rfl, Nat.lt_add_of_pos_right (by omega), by show i + 2 ≤ s.size; omega⟩⟩
          · rw [if_neg h4, if_neg h4]
            exact ⟨_, _, _, rfl, fun h => by simp [bad] at h⟩
end Go.Proofs.YtamgmceogjgijaaDoor.Tok
