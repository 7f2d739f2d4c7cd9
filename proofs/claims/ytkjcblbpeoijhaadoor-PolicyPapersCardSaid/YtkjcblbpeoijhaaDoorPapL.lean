/- PolicyPapers, plain. -/
import Derived.Test.YtkjcblbpeoijhaaDoorPolA
import Derived.Test.YtkjcblbpeoijhaaDoorH3
import Derived.Lib.ItoaMem
namespace Go.Proofs.YtkjcblbpeoijhaaDoor.Pol
open Go.RowKit Go.Proofs.YtkjcblbpeoijhaaDoorW.PrintWords Go.Proofs.YtkjcblbpeoijhaaDoorW.PrintLast Go.Proofs.YtkjcblbpeoijhaaDoorW.PrintMore Go.Proofs.YtkjcblbpeoijhaaDoor.G Go.Proofs.YtkjcblbpeoijhaaDoor.Ext
set_option linter.unusedVariables false
set_option linter.unusedSimpArgs false

theorem ba_list {a b : ByteArray} (h : a.data.toList = b.data.toList) : a = b := ByteArray.ext (Array.toList_inj.1 h)
theorem ap_size (a b : ByteArray) : (a ++ b).size = a.size + b.size := ByteArray.size_append
/-- A number's digits. -/
def dD (c : Int) : ByteArray := ⟨(Lib.decDigits c.toNat).toArray⟩
theorem dec_length (u : Nat) : (Lib.decDigits u).length ≤ u + 1 := by
  induction u using Nat.strongRecOn with
  | ind u ih =>
    rw [Lib.decDigits]
    by_cases h : u < 10
    · rw [dif_pos h]; simp
    · rw [dif_neg h, List.length_append]
      have := ih (u / 10) (by omega)
      simp only [List.length_cons, List.length_nil]
      omega
theorem dD_size (c : Int) (h0 : 0 ≤ c) : ((dD c).size : Int) ≤ c + 1 := by
  have e : (dD c).size = (Lib.decDigits c.toNat).length := List.size_toArray ..
  have := dec_length c.toNat
  omega
theorem digits_v (c : Int) (h0 : 0 ≤ c) (h1 : c ≤ 9223372036854775807) : policy_digits.f c = some (dD c) := by
  obtain ⟨n, rfl⟩ := Int.eq_ofNat_of_zero_le h0
  unfold policy_digits.f strconv_FormatInt.f dD
  rw [if_pos ⟨rfl, by omega, h1⟩, Lib.itoa_nonneg]
  rfl
theorem byte_eq (n : Nat) : (strOfNums [((48 + n : Nat) : Int) % 256]).data.toList = [UInt8.ofNat (48 + n)] := by
  have e : (((48 + n : Nat) : Int) % 256).toNat = (48 + n) % 256 := by omega
  simp only [strOfNums, List.map_cons, List.map_nil, e]
  simp [UInt8.ofNat, BitVec.ofNat, Fin.ofNat]
theorem rdigits_l0 (n : Nat) : ∀ s : ByteArray, s.size + n ≤ 4611686018427387904 → Ev (fun k => supercargoref22_Digits.l0 k n s) (⟨(Lib.decDigits n).toArray⟩ ++ s) := by
  induction n using Nat.strongRecOn with
  | ind n ih =>
    intro s hs
    have sz : ∀ m : Nat, (strOfNums [((48 + m : Nat) : Int) % 256]).size = 1 := by
      intro m
      have := congrArg List.length (byte_eq m)
      simpa using this
    refine succ ?_
    simp only [supercargoref22_Digits.l0]
    by_cases h : (n : Int) > 9
    · refine ev_pos h ?_
      have e1 : wrap64 (48 + Int.tmod (n : Int) 10) = ((48 + n % 10 : Nat) : Int) := by
        rw [show Int.tmod (n : Int) 10 = ((n % 10 : Nat) : Int) from rfl, wrap_in (by omega) (by omega)]; omega
      have e2 : wrap64 (Int.tdiv (n : Int) 10) = ((n / 10 : Nat) : Int) := by
        rw [show Int.tdiv (n : Int) 10 = ((n / 10 : Nat) : Int) from rfl, wrap_in (by omega) (by omega)]
      simp only [Option.bind_some]
      rw [e1, e2]
      refine ev_pos (by rw [sz]; omega) ?_
      have := ih (n / 10) (by omega) (strOfNums [((48 + n % 10 : Nat) : Int) % 256] ++ s) (by rw [ap_size, sz]; omega)
      have e3 : (⟨(Lib.decDigits (n / 10)).toArray⟩ : ByteArray) ++ (strOfNums [((48 + n % 10 : Nat) : Int) % 256] ++ s) = (⟨(Lib.decDigits n).toArray⟩ : ByteArray) ++ s := by
        apply ba_list
        rw [ByteArray.data_append, ByteArray.data_append, ByteArray.data_append, Array.toList_append, Array.toList_append, Array.toList_append, byte_eq]
        have : Lib.decDigits n = Lib.decDigits (n / 10) ++ [UInt8.ofNat (48 + n % 10)] := by conv => lhs; rw [Lib.decDigits, dif_neg (show ¬ n < 10 by omega)]
        simp [this]
      rw [← e3]
      exact this
    · refine ev_neg h ?_
      have e1 : wrap64 (48 + (n : Int)) = ((48 + n : Nat) : Int) := by rw [wrap_in (by omega) (by omega)]; omega
      simp only [Option.bind_some]
      rw [e1]
      refine ev_pos (by rw [sz]; omega) (now ?_)
      apply ba_list
      rw [ByteArray.data_append, ByteArray.data_append, Array.toList_append, Array.toList_append, byte_eq]
      have : Lib.decDigits n = [UInt8.ofNat (48 + n)] := by rw [Lib.decDigits, dif_pos (show n < 10 by omega)]
      simp [this]
theorem rdigits_ev (c : Int) (h0 : 0 ≤ c) (h1 : c ≤ 1099511627776) : Ev (fun k => supercargoref42_digits.f k c) (dD c) := by
  obtain ⟨n, rfl⟩ := Int.eq_ofNat_of_zero_le h0
  have h := rdigits_l0 n ⟨#[]⟩ (by show 0 + n ≤ _; omega)
  have e : (⟨(Lib.decDigits n).toArray⟩ : ByteArray) ++ (⟨#[]⟩ : ByteArray) = dD (n : Int) := by
    apply ba_list
    rw [ByteArray.data_append, Array.toList_append]
    simp [dD]
  rw [e] at h
  unfold supercargoref42_digits.f supercargoref22_Digits.f
  exact Ev.bind h (Ev.now _)

/-! ### joined -/
def cm : ByteArray := ⟨#[44]⟩
def JJ (l : List ByteArray) : ByteArray := ⟨(joinS l cm).toArray⟩
theorem JJ_nil : JJ [] = ⟨#[]⟩ := rfl
theorem JJ_one (x : ByteArray) : JJ [x] = x := by
  apply ba_list
  show (joinS [x] cm).toArray.toList = _
  rw [List.toList_toArray]
  unfold joinS
  exact Lib.join_one _ _
theorem JJ_cons (x y : ByteArray) (r : List ByteArray) : JJ (x :: y :: r) = (x ++ cm) ++ JJ (y :: r) := by
  apply ba_list
  rw [ByteArray.data_append, ByteArray.data_append, Array.toList_append, Array.toList_append]
  show (joinS (x :: y :: r) cm).toArray.toList = _ ++ (joinS (y :: r) cm).toArray.toList
  rw [List.toList_toArray, List.toList_toArray]
  unfold joinS
  simp only [List.map_cons]
  rw [Lib.join_cons, Lib.join_cons]
  unfold Lib.joinTail
  simp only [List.map_cons, List.flatten_cons, List.append_assoc]
theorem JJ_snoc : ∀ (l : List ByteArray) (x : ByteArray), l ≠ [] → JJ (l ++ [x]) = (JJ l ++ cm) ++ x
  | [], _, h => absurd rfl h
  | [y], x, _ => by show JJ [y, x] = _; rw [JJ_cons, JJ_one, JJ_one]
  | y :: z :: r, x, _ => by
    show JJ (y :: z :: (r ++ [x])) = _
    rw [JJ_cons, show z :: (r ++ [x]) = (z :: r) ++ [x] from rfl, JJ_snoc (z :: r) x (by simp), JJ_cons]
    simp only [ByteArray.append_assoc]
theorem JJ_size : ∀ l : List ByteArray, (JJ l).size ≤ (l.map ByteArray.size).sum + l.length
  | [] => Nat.zero_le _
  | [x] => by rw [JJ_one]; simp
  | x :: y :: r => by
    have ih := JJ_size (y :: r)
    have e1 : cm.size = 1 := rfl
    rw [JJ_cons, ap_size, ap_size, e1]
    simp only [List.map_cons, List.sum_cons, List.length_cons] at ih ⊢
    omega
theorem sum_le (m : Nat) : ∀ l : List ByteArray, (∀ x, x ∈ l → x.size ≤ m) → (l.map ByteArray.size).sum ≤ m * l.length
  | [], _ => by simp
  | x :: r, h => by
    have h1 := sum_le m r (fun y hy => h y (List.mem_cons_of_mem _ hy))
    have h2 := h x (List.mem_cons_self ..)
    simp only [List.map_cons, List.sum_cons, List.length_cons, Nat.mul_succ]
    omega

/-! ### what a policy that may be has -/
theorem ok_all (l : List Int) (d : Nat) : ∀ i, okFrom l i d = true → ∀ j : Nat, i ≤ j → j < i + d → 0 ≤ rd l (j : Int) ∧ rd l (j : Int) ≤ 1048576 := by
  induction d with
  | zero => intro i _ j h1 h2; omega
  | succ d ih =>
    intro i h j h1 h2
    by_cases c : okAt l i = true
    · rw [okFrom_yes c] at h
      rcases Nat.eq_or_lt_of_le h1 with e | e
      · subst e
        unfold okAt at c
        split at c
        · assumption
        · cases c
      · exact ih (i + 1) h j e (by omega)
    · rw [okFrom_no (Bool.eq_false_iff.2 c)] at h; cases h
theorem rd_eq (l : List Int) (i : Nat) (h : i < l.length) : rd l (i : Int) = l[i] := by
  unfold rd
  rw [Int.toNat_natCast, List.getD_eq_getElem?_getD, List.getElem?_eq_getElem h]
  rfl
/-- The paper's fields. -/
def papF (f1 f2 : ByteArray) (f3 f4 : Int) (l : List Int) (f6 f7 f8 : Int) : List S47 :=
  [⟨⟨#[102, 114, 111, 109]⟩, f1⟩, ⟨⟨#[116, 111]⟩, f2⟩, ⟨⟨#[115, 117, 109]⟩, dD f3⟩, ⟨⟨#[111, 119, 110]⟩, dD f4⟩, ⟨⟨#[115, 104, 97, 114, 101]⟩, dD f8⟩, ⟨⟨#[102, 105, 114, 115, 116]⟩, dD f6⟩, ⟨⟨#[108, 97, 115, 116]⟩, dD f7⟩, ⟨⟨#[99, 97, 117, 115, 101, 115]⟩, JJ (l.map dD)⟩]
def flat (ps : List S47) : List ByteArray := ps.flatMap fun p => [p.f0, p.f1]
theorem flat_length : ∀ ps : List S47, (flat ps).length = 2 * ps.length
  | [] => rfl
  | p :: r => by
    have := flat_length r
    unfold flat at this ⊢
    simp only [List.flatMap_cons, List.length_append, List.length_cons, List.length_nil] at this ⊢
    omega
theorem flat_get : ∀ (ps : List S47) (i : Nat) (p : S47), ps[i]? = some p → (flat ps)[2 * i]? = some p.f0 ∧ (flat ps)[2 * i + 1]? = some p.f1
  | [], i, p, h => by simp at h
  | q :: r, 0, p, h => by
    simp only [List.getElem?_cons_zero, Option.some.injEq] at h
    subst h
    exact ⟨rfl, rfl⟩
  | q :: r, i + 1, p, h => by
    simp only [List.getElem?_cons_succ] at h
    have := flat_get r i p h
    have e : flat (q :: r) = q.f0 :: q.f1 :: flat r := rfl
    rw [e, show 2 * (i + 1) = 2 * i + 1 + 1 by omega]
    simpa using this
theorem fields_ev (ps : List S47) (hl : ps.length ≤ 1000) : Ev (fun k => policy_fields.f k (flat ps)) ps := by
  have hfl := flat_length ps
  unfold policy_fields.f
  suffices h : ∀ d i : Nat, i + d = ps.length → Ev (fun k => policy_fields.l0 k (flat ps) (ps.take i) ((2 * i : Nat) : Int)) ps from h ps.length 0 (by omega)
  intro d
  induction d with
  | zero =>
    intro i hi
    refine succ ?_
    simp only [policy_fields.l0]
    rw [List.take_of_length_le (by omega)]
    exact ev_neg (by omega) (Ev.now _)
  | succ d ih =>
    intro i hi
    have next := ih (i + 1) (by omega)
    obtain ⟨p, hp⟩ : ∃ p, ps[i]? = some p := ⟨_, List.getElem?_eq_getElem (by omega)⟩
    obtain ⟨g1, g2⟩ := flat_get ps i p hp
    have r1 : rdOf ByteArray.empty (flat ps) ((2 * i : Nat) : Int) = p.f0 := by
      unfold rdOf; rw [Int.toNat_natCast, List.getD_eq_getElem?_getD, g1]; rfl
    have r2 : rdOf ByteArray.empty (flat ps) ((2 * i + 1 : Nat) : Int) = p.f1 := by
      unfold rdOf; rw [Int.toNat_natCast, List.getD_eq_getElem?_getD, g2]; rfl
    have ht : ps.take (i + 1) = ps.take i ++ [p] := by
      rw [List.take_add_one, hp]; rfl
    refine succ ?_
    simp only [policy_fields.l0]
    rw [wrap_in (x := ((2 * i : Nat) : Int) + 1) (by omega) (by omega), wrap_in (x := ((2 * i : Nat) : Int) + 2) (by omega) (by omega),
      show ((2 * i : Nat) : Int) + 1 = ((2 * i + 1 : Nat) : Int) by omega, show ((2 * i : Nat) : Int) + 2 = ((2 * (i + 1) : Nat) : Int) by omega, r1, r2]
    refine ev_pos (by omega) (ev_pos (by omega) (ev_pos (by omega) (ev_pos (by omega) (ev_pos (by rw [List.length_take]; omega) ?_))))
    rw [ht] at next
    exact next

section
variable (f0 f1 f2 : ByteArray) (f3 f4 : Int) (l : List Int) (f6 f7 f8 : Int)
theorem may_parts (h : mayB f0 f1 f2 f3 f4 l f6 f7 f8 = true) : l.length ≤ 64 ∧ okFrom l 0 l.length = true ∧ (1 ≤ f3 ∧ f3 ≤ 1099511627776) ∧ (0 ≤ f4 ∧ f4 ≤ f3) ∧ (1 ≤ f8 ∧ f8 ≤ 1000) ∧ (0 ≤ f6 ∧ f6 ≤ 1048576) ∧ (0 ≤ f7 ∧ f7 ≤ 1048576) := by
  unfold mayB at h
  simp only [Bool.and_eq_true, decide_eq_true_eq] at h
  obtain ⟨⟨⟨_, h2⟩, h3⟩, h4⟩ := h
  unfold restB at h4
  obtain ⟨a, b, c, d, e, _⟩ := of_decide_eq_true h4
  exact ⟨h2, h3, a, b, c, d, e⟩
theorem cause_small (hm : mayB f0 f1 f2 f3 f4 l f6 f7 f8 = true) : ∀ x, x ∈ l.map dD → x.size ≤ 1048577 := by
  obtain ⟨h1, h2, _⟩ := may_parts f0 f1 f2 f3 f4 l f6 f7 f8 hm
  intro x hx
  obtain ⟨c, hc, rfl⟩ := List.mem_map.1 hx
  obtain ⟨i, hi, rfl⟩ := List.getElem_of_mem hc
  have := ok_all l l.length 0 h2 i (by omega) (by omega)
  rw [rd_eq l i hi] at this
  have := dD_size l[i] this.1
  omega
theorem doc_l0 (number : ByteArray) (hm : mayB f0 f1 f2 f3 f4 l f6 f7 f8 = true) (d : Nat) : ∀ i : Nat, i + d = l.length →
    Ev (fun k => policy_Doc.l0 k number ((l.take i).map dD) l (l.length : Int) (i : Nat) f0 f1 f2 f3 f4 l f6 f7 f8) (3, number, f0, papF f1 f2 f3 f4 l f6 f7 f8, 0) := by
  obtain ⟨h1, h2, h3, h4, h8, h6, h7⟩ := may_parts f0 f1 f2 f3 f4 l f6 f7 f8 hm
  have hall := ok_all l l.length 0 h2
  induction d with
  | zero =>
    intro i hi
    have hsum := sum_le 1048577 (l.map dD) (cause_small f0 f1 f2 f3 f4 l f6 f7 f8 hm)
    have hJ := JJ_size (l.map dD)
    rw [List.length_map] at hsum hJ
    have hJJ : (JJ (l.map dD)).size = (joinS (l.map dD) cm).length := List.size_toArray ..
    refine succ ?_
    simp only [policy_Doc.l0]
    rw [List.take_of_length_le (by omega)]
    have hv : strings_Join.f (l.map dD) (⟨#[44]⟩ : ByteArray) = some (JJ (l.map dD)) := by
      unfold strings_Join.f
      rw [if_pos ⟨by rw [List.length_map]; omega, by show (joinS (l.map dD) cm).length ≤ _; rw [← hJJ]; have : 1048577 * l.length ≤ 1048577 * 64 := Nat.mul_le_mul_left _ h1; omega⟩]
      rfl
    refine ev_neg (by omega) (ev_some (digits_v f3 (by omega) (by omega)) (ev_some (digits_v f4 (by omega) (by omega)) (ev_some (digits_v f8 (by omega) (by omega)) (ev_some (digits_v f6 (by omega) (by omega)) (ev_some (digits_v f7 (by omega) (by omega)) (ev_some hv ?_))))))
    exact Ev.bind (fields_ev (papF f1 f2 f3 f4 l f6 f7 f8) (by show 8 ≤ 1000; omega)) (Ev.now _)
  | succ d ih =>
    intro i hi
    have hc := hall i (by omega) (by omega)
    have next := ih (i + 1) (by omega)
    have e1 : (l.take (i + 1)).map dD = (l.take i).map dD ++ [dD (rd l (i : Nat))] := by
      rw [List.take_succ_eq_append_getElem (by omega), List.map_append, rd_eq l i (by omega)]; rfl
    rw [e1] at next
    refine succ ?_
    simp only [policy_Doc.l0]
    rw [wrap_in (x := (i : Int) + 1) (by omega) (by omega)]
    exact ev_pos (by omega) (ev_pos (by omega) (ev_pos (by omega) (ev_some (digits_v _ hc.1 (by omega)) (ev_pos (by rw [List.length_map, List.length_take]; omega) next))))
theorem rdoc_l0 (number : ByteArray) (hm : mayB f0 f1 f2 f3 f4 l f6 f7 f8 = true) (d : Nat) : ∀ i : Nat, i + d = l.length →
    Ev (fun k => supercargoref42_Doc.l0 k number (JJ ((l.take i).map dD)) (i : Nat) f0 f1 f2 f3 f4 l f6 f7 f8) (3, number, f0, papF f1 f2 f3 f4 l f6 f7 f8) := by
  obtain ⟨h1, h2, h3, h4, h8, h6, h7⟩ := may_parts f0 f1 f2 f3 f4 l f6 f7 f8 hm
  have hall := ok_all l l.length 0 h2
  induction d with
  | zero =>
    intro i hi
    refine succ ?_
    simp only [supercargoref42_Doc.l0]
    rw [List.take_of_length_le (by omega)]
    exact ev_neg (by omega) (Ev.bind (rdigits_ev f3 (by omega) (by omega)) (Ev.bind (rdigits_ev f4 (by omega) (by omega)) (Ev.bind (rdigits_ev f8 (by omega) (by omega)) (Ev.bind (rdigits_ev f6 (by omega) (by omega)) (Ev.bind (rdigits_ev f7 (by omega) (by omega)) (Ev.now _))))))
  | succ d ih =>
    intro i hi
    have hc := hall i (by omega) (by omega)
    have next := ih (i + 1) (by omega)
    have hds := dD_size (rd l (i : Nat)) hc.1
    have e1 : (l.take (i + 1)).map dD = (l.take i).map dD ++ [dD (rd l (i : Nat))] := by
      rw [List.take_succ_eq_append_getElem (by omega), List.map_append, rd_eq l i (by omega)]; rfl
    have hsub : ∀ x, x ∈ (l.take i).map dD → x.size ≤ 1048577 := fun x hx => by
      obtain ⟨c, hc, rfl⟩ := List.mem_map.1 hx
      exact cause_small f0 f1 f2 f3 f4 l f6 f7 f8 hm _ (List.mem_map.2 ⟨c, List.mem_of_mem_take hc, rfl⟩)
    have hsum := sum_le 1048577 _ hsub
    have hJ := JJ_size ((l.take i).map dD)
    have hlen : ((l.take i).map dD).length = i := by rw [List.length_map, List.length_take]; omega
    rw [hlen] at hsum hJ
    have hb : 1048577 * i ≤ 1048577 * 64 := Nat.mul_le_mul_left _ (by omega)
    have ec : (⟨#[44]⟩ : ByteArray).size = 1 := rfl
    refine succ ?_
    simp only [supercargoref42_Doc.l0]
    rw [wrap_in (x := (i : Int) + 1) (by omega) (by omega)]
    refine ev_pos (by omega) ?_
    rcases Nat.eq_zero_or_pos i with h0 | h0
    · subst h0
      refine ev_neg (by omega) (ev_pos (by omega) (Ev.bind (rdigits_ev _ hc.1 (by omega)) (ev_pos (by omega) ?_)))
      have e2 : JJ ((l.take 0).map dD) ++ dD (rd l ((0 : Nat) : Int)) = JJ ((l.take (0 + 1)).map dD) := by
        rw [e1, List.take_zero]
        show JJ [] ++ _ = JJ [_]
        rw [JJ_one, JJ_nil]
        exact ba_list (by rw [ByteArray.data_append]; simp)
      rw [e2]
      exact next
    · refine ev_pos (by omega) (ev_pos (by omega) (ev_pos (by omega) (Ev.bind (rdigits_ev _ hc.1 (by omega)) (ev_pos (by rw [ap_size, ec]; omega) ?_))))
      have e2 : (JJ ((l.take i).map dD) ++ (⟨#[44]⟩ : ByteArray)) ++ dD (rd l (i : Nat)) = JJ ((l.take (i + 1)).map dD) := by
        rw [e1, JJ_snoc _ _ (fun h => by rw [h] at hlen; rw [List.length_nil] at hlen; omega)]
        rfl
      rw [e2]
      exact next
theorem long_eq : supercargoref42_Long.f f0 f1 f2 f3 f4 l f6 f7 f8 = some (decide (100 < f0.size ∨ 100 < f1.size ∨ 100 < f2.size ∨ 100 < l.length)) := by
  unfold supercargoref42_Long.f
  by_cases a : (f0.size : Int) > 100
  · rw [if_pos a]; exact congrArg some (decide_eq_true (by omega)).symm
  · rw [if_neg a]
    by_cases b : (f1.size : Int) > 100
    · rw [if_pos b]; exact congrArg some (decide_eq_true (by omega)).symm
    · rw [if_neg b]
      by_cases c : (f2.size : Int) > 100
      · rw [if_pos c]; exact congrArg some (decide_eq_true (by omega)).symm
      · rw [if_neg c]; congr 1; apply decide_eq_decide.2; omega
end
/-! ### the same papers, the same policies -/
theorem docs_self (a : Int) (b c : ByteArray) (L : List S47) (hl : L.length ≤ 1000) : Ev (fun k => supercargoref42_Docs.f k a b c L a b c L) true := by
  unfold supercargoref42_Docs.f
  refine ev_pos rfl (ev_pos rfl (ev_pos rfl (succ ?_)))
  simp only [supercargoref42_Docs.j0]
  refine ev_neg (by simp) ?_
  suffices h : ∀ d i : Nat, i + d = L.length → Ev (fun k => supercargoref42_Docs.l0 k (i : Nat) a b c L a b c L) true from h L.length 0 (by omega)
  intro d
  induction d with
  | zero =>
    intro i hi
    refine succ ?_
    simp only [supercargoref42_Docs.l0]
    exact ev_neg (by omega) (Ev.now _)
  | succ d ih =>
    intro i hi
    refine succ ?_
    simp only [supercargoref42_Docs.l0]
    rw [wrap_in (x := (i : Int) + 1) (by omega) (by omega)]
    exact ev_pos (by omega) (ev_pos (by omega) (ev_pos (by omega) (ev_neg (by simp) (ih (i + 1) (by omega)))))
section
variable (a0 a1 a2 : ByteArray) (a3 a4 : Int) (l : List Int) (a6 a7 a8 : Int) (b0 b1 b2 : ByteArray) (b3 b4 : Int) (m : List Int) (b6 b7 b8 : Int)
theorem eq_l0 (hl : l.length ≤ 1000) (hlm : l.length = m.length) (d : Nat) : ∀ i : Nat, i + d = l.length → ∃ r, Ev (fun k => slices_Equal_int_int.l0 k l m (l.length : Int) (i : Nat)) r ∧ Ev (fun k => supercargoref42_Same.l0 k (i : Nat) a0 a1 a2 a3 a4 l a6 a7 a8 b0 b1 b2 b3 b4 m b6 b7 b8) r ∧ (l = m → r = true) := by
  induction d with
  | zero =>
    intro i hi
    refine ⟨true, succ ?_, succ ?_, fun _ => rfl⟩
    · simp only [slices_Equal_int_int.l0]
      exact ev_neg (by omega) (Ev.now _)
    · simp only [supercargoref42_Same.l0]
      exact ev_neg (by omega) (Ev.now _)
  | succ d ih =>
    intro i hi
    obtain ⟨r, h1, h2, h3⟩ := ih (i + 1) (by omega)
    by_cases c : rd l (i : Nat) = rd m (i : Nat)
    · refine ⟨r, succ ?_, succ ?_, h3⟩
      · simp only [slices_Equal_int_int.l0]
        rw [wrap_in (x := (i : Int) + 1) (by omega) (by omega)]
        exact ev_pos (by omega) (ev_pos (by omega) (ev_pos (by omega) (ev_pos (by omega) (ev_pos c h1))))
      · simp only [supercargoref42_Same.l0]
        rw [wrap_in (x := (i : Int) + 1) (by omega) (by omega)]
        exact ev_pos (by omega) (ev_pos (by omega) (ev_pos (by omega) (ev_pos c h2)))
    · refine ⟨false, succ ?_, succ ?_, fun e => absurd (by rw [e]) c⟩
      · simp only [slices_Equal_int_int.l0]
        exact ev_pos (by omega) (ev_pos (by omega) (ev_pos (by omega) (ev_pos (by omega) (ev_neg c (Ev.now _)))))
      · simp only [supercargoref42_Same.l0]
        exact ev_pos (by omega) (ev_pos (by omega) (ev_pos (by omega) (ev_neg c (Ev.now _))))
theorem same_ev (hl : l.length ≤ 1000) : ∃ r, Ev (fun k => policy_Same.f k a0 a1 a2 a3 a4 l a6 a7 a8 b0 b1 b2 b3 b4 m b6 b7 b8) r ∧ Ev (fun k => supercargoref42_Same.f k a0 a1 a2 a3 a4 l a6 a7 a8 b0 b1 b2 b3 b4 m b6 b7 b8) r ∧ (a0 = b0 → a1 = b1 → a2 = b2 → a3 = b3 → a4 = b4 → l = m → a6 = b6 → a7 = b7 → a8 = b8 → r = true) := by
  have no : Ev (fun k => supercargoref42_Same.j0 k true a0 a1 a2 a3 a4 l a6 a7 a8 b0 b1 b2 b3 b4 m b6 b7 b8) false := by
    refine succ ?_
    simp only [supercargoref42_Same.j0]
    exact ev_pos trivial (Ev.now _)
  unfold policy_Same.f supercargoref42_Same.f
  by_cases c0 : a0.toList = b0.toList
  · by_cases c1 : a1.toList = b1.toList
    · by_cases c2 : a2.toList = b2.toList
      · by_cases c3 : a3 = b3
        · by_cases c4 : a4 = b4
          · by_cases c6 : a6 = b6
            · by_cases c7 : a7 = b7
              · by_cases c8 : a8 = b8
                · by_cases c5 : l.length = m.length
                  · obtain ⟨r, h1, h2, h3⟩ := eq_l0 a0 a1 a2 a3 a4 l a6 a7 a8 b0 b1 b2 b3 b4 m b6 b7 b8 hl c5 l.length 0 (by omega)
                    refine ⟨r, ev_pos c0 (ev_pos c1 (ev_pos c2 (ev_pos c3 (ev_pos c4 (ev_pos c6 (ev_pos c7 (ev_pos c8 (Ev.bind ?_ (Ev.now _))))))))), ev_pos c0 (ev_pos c1 (ev_pos c2 (ev_pos c3 (ev_pos c4 (ev_pos c6 (ev_pos c7 (ev_pos c8 (succ ?_)))))))), fun _ _ _ _ _ e _ _ _ => h3 e⟩
                    · unfold slices_Equal_int_int.f
                      exact ev_pos (by omega) h1
                    · simp only [supercargoref42_Same.j0]
                      exact ev_neg (by simp [c5]) h2
                  · refine ⟨false, ev_pos c0 (ev_pos c1 (ev_pos c2 (ev_pos c3 (ev_pos c4 (ev_pos c6 (ev_pos c7 (ev_pos c8 (Ev.bind (r := false) ?_ (Ev.now _))))))))), ev_pos c0 (ev_pos c1 (ev_pos c2 (ev_pos c3 (ev_pos c4 (ev_pos c6 (ev_pos c7 (ev_pos c8 (succ ?_)))))))), fun _ _ _ _ _ e _ _ _ => absurd (by rw [e]) c5⟩
                    · unfold slices_Equal_int_int.f
                      exact ev_neg (by omega) (Ev.now _)
                    · simp only [supercargoref42_Same.j0]
                      exact ev_pos (by simp; omega) (Ev.now _)
                · exact ⟨false, ev_pos c0 (ev_pos c1 (ev_pos c2 (ev_pos c3 (ev_pos c4 (ev_pos c6 (ev_pos c7 (ev_neg c8 (Ev.now _)))))))), ev_pos c0 (ev_pos c1 (ev_pos c2 (ev_pos c3 (ev_pos c4 (ev_pos c6 (ev_pos c7 (ev_neg c8 no))))))), fun _ _ _ _ _ _ _ _ e => absurd e c8⟩
              · exact ⟨false, ev_pos c0 (ev_pos c1 (ev_pos c2 (ev_pos c3 (ev_pos c4 (ev_pos c6 (ev_neg c7 (Ev.now _))))))), ev_pos c0 (ev_pos c1 (ev_pos c2 (ev_pos c3 (ev_pos c4 (ev_pos c6 (ev_neg c7 no)))))), fun _ _ _ _ _ _ _ e _ => absurd e c7⟩
            · exact ⟨false, ev_pos c0 (ev_pos c1 (ev_pos c2 (ev_pos c3 (ev_pos c4 (ev_neg c6 (Ev.now _)))))), ev_pos c0 (ev_pos c1 (ev_pos c2 (ev_pos c3 (ev_pos c4 (ev_neg c6 no))))), fun _ _ _ _ _ _ e _ _ => absurd e c6⟩
          · exact ⟨false, ev_pos c0 (ev_pos c1 (ev_pos c2 (ev_pos c3 (ev_neg c4 (Ev.now _))))), ev_pos c0 (ev_pos c1 (ev_pos c2 (ev_pos c3 (ev_neg c4 no)))), fun _ _ _ _ e _ _ _ _ => absurd e c4⟩
        · exact ⟨false, ev_pos c0 (ev_pos c1 (ev_pos c2 (ev_neg c3 (Ev.now _)))), ev_pos c0 (ev_pos c1 (ev_pos c2 (ev_neg c3 no))), fun _ _ _ e _ _ _ _ _ => absurd e c3⟩
      · exact ⟨false, ev_pos c0 (ev_pos c1 (ev_neg c2 (Ev.now _))), ev_pos c0 (ev_pos c1 (ev_neg c2 no)), fun _ _ e _ _ _ _ _ _ => absurd (by rw [e]) c2⟩
    · exact ⟨false, ev_pos c0 (ev_neg c1 (Ev.now _)), ev_pos c0 (ev_neg c1 no), fun _ e _ _ _ _ _ _ _ => absurd (by rw [e]) c1⟩
  · exact ⟨false, ev_neg c0 (Ev.now _), ev_neg c0 no, fun e _ _ _ _ _ _ _ _ => absurd (by rw [e]) c0⟩
theorem papers_law (number : ByteArray) : Ev (fun k => supercargolaw42_PolicyPapers.f k a0 a1 a2 a3 a4 l a6 a7 a8 b0 b1 b2 b3 b4 m b6 b7 b8 number) true := by
  have out : Ev (fun k => supercargolaw42_PolicyPapers.j0 k number true a0 a1 a2 a3 a4 l a6 a7 a8 b0 b1 b2 b3 b4 m b6 b7 b8) true := by
    refine succ ?_
    simp only [supercargolaw42_PolicyPapers.j0]
    exact ev_pos trivial (Ev.now _)
  unfold supercargolaw42_PolicyPapers.f
  refine ev_some (show supercargolaw42_awake.f = some true from rfl) (ev_pos rfl (ev_some (long_eq a0 a1 a2 a3 a4 l a6 a7 a8) (ev_ite (fun _ => out) (fun hL => ev_some (long_eq b0 b1 b2 b3 b4 m b6 b7 b8) (ev_ite (fun _ => out) (fun hM => ?_))))))
  simp only [decide_eq_true_eq, not_or] at hL hM
  by_cases hn : (number.size : Int) > 100
  · rw [decide_eq_true hn]; exact out
  rw [decide_eq_false hn]
  refine succ ?_
  simp only [supercargolaw42_PolicyPapers.j0]
  refine ev_neg (by simp) ?_
  obtain ⟨r, s1, s2, _⟩ := same_ev a0 a1 a2 a3 a4 l a6 a7 a8 b0 b1 b2 b3 b4 m b6 b7 b8 (by omega)
  obtain ⟨r', t1, _, t3⟩ := same_ev a0 a1 a2 a3 a4 l a6 a7 a8 a0 a1 a2 a3 a4 l a6 a7 a8 (by omega)
  obtain rfl := t3 rfl rfl rfl rfl rfl rfl rfl rfl rfl
  have hmay := may_ev a0 a1 a2 a3 a4 l a6 a7 a8 (by omega) (by omega) (by omega) (by omega)
  have hrmay := rmay_ev a0 a1 a2 a3 a4 l a6 a7 a8 (by omega) (by omega) (by omega) (by omega)
  have hrname := ref_name number (by omega)
  by_cases good : mayB a0 a1 a2 a3 a4 l a6 a7 a8 = true ∧ nameB number = true
  · obtain ⟨g1, g2⟩ := good
    have hdoc : Ev (fun k => policy_Doc.f k a0 a1 a2 a3 a4 l a6 a7 a8 number) (3, number, a0, papF a1 a2 a3 a4 l a6 a7 a8, 0) := by
      unfold policy_Doc.f
      refine Ev.bind hmay (ev_pos g1 (ev_some (name_f number (by omega)) (succ ?_)))
      simp only [policy_Doc.j0]
      refine ev_neg (by rw [g2]; decide) ?_
      exact doc_l0 a0 a1 a2 a3 a4 l a6 a7 a8 number g1 l.length 0 (by omega)
    have hrdoc : Ev (fun k => supercargoref42_Doc.f k a0 a1 a2 a3 a4 l a6 a7 a8 number) (3, number, a0, papF a1 a2 a3 a4 l a6 a7 a8) := rdoc_l0 a0 a1 a2 a3 a4 l a6 a7 a8 number g1 l.length 0 (by omega)
    refine Ev.bind hdoc (Ev.bind s1 (Ev.bind s2 (ev_neg (by simp) (Ev.bind t1 (succ ?_)))))
    simp only [supercargolaw42_PolicyPapers.j1]
    refine ev_neg (by simp) (Ev.bind hrmay (ev_pos g1 (Ev.bind hrname (succ ?_))))
    simp only [supercargolaw42_PolicyPapers.j2]
    refine ev_neg (by rw [g2]; decide) (ev_pos trivial (Ev.bind hrdoc (Ev.bind (docs_self _ _ _ _ (by show 8 ≤ 1000; omega)) (Ev.now _))))
  · have hdoc : Ev (fun k => policy_Doc.f k a0 a1 a2 a3 a4 l a6 a7 a8 number) (0, (⟨#[]⟩ : ByteArray), (⟨#[]⟩ : ByteArray), ([] : List S47), 1) := by
      have bad : Ev (fun k => policy_Doc.j0 k number true a0 a1 a2 a3 a4 l a6 a7 a8) (0, (⟨#[]⟩ : ByteArray), (⟨#[]⟩ : ByteArray), ([] : List S47), 1) := by
        refine succ ?_
        simp only [policy_Doc.j0]
        exact ev_pos trivial (Ev.now _)
      unfold policy_Doc.f
      refine Ev.bind hmay (ev_ite (fun g1 => ev_some (name_f number (by omega)) ?_) (fun _ => bad))
      rw [show nameB number = false from Bool.eq_false_iff.2 (fun h => good ⟨g1, h⟩)]
      exact bad
    have last : Ev (fun k => supercargolaw42_PolicyPapers.j2 k number 1 true a0 a1 a2 a3 a4 l a6 a7 a8 0 (⟨#[]⟩ : ByteArray) (⟨#[]⟩ : ByteArray) ([] : List S47)) true := by
      refine succ ?_
      simp only [supercargolaw42_PolicyPapers.j2]
      exact ev_pos trivial (ev_pos trivial (Ev.bind (docs_self _ _ _ _ (by decide)) (Ev.now _)))
    refine Ev.bind hdoc (Ev.bind s1 (Ev.bind s2 (ev_neg (by simp) (Ev.bind t1 (succ ?_)))))
    simp only [supercargolaw42_PolicyPapers.j1]
    refine ev_neg (by simp) (Ev.bind hrmay (ev_ite (fun g1 => Ev.bind hrname ?_) (fun _ => last)))
    rw [show nameB number = false from Bool.eq_false_iff.2 (fun h => good ⟨g1, h⟩)]
    exact last
end
end Go.Proofs.YtkjcblbpeoijhaaDoor.Pol
