/- Contracts of the functions of the seat that take function values, and of the library's. -/
import Derived.Test.YtbojieeildhlcaaDoorGx0
import Derived.Sort.Walk0
import Derived.Lib.SliceRun
import Derived.Test.YtbojieeildhlcaaDoorShelf
namespace Go.Proofs.YtbojieeildhlcaaDoor.Ext
set_option linter.unusedVariables false
set_option linter.unusedSimpArgs false
open Go.RowKit Go.Proofs.YtbojieeildhlcaaDoorW.PrintWords Go.Proofs.YtbojieeildhlcaaDoorW.PrintLast Go.Proofs.YtbojieeildhlcaaDoorW.PrintMore Go.Proofs.YtbojieeildhlcaaDoor.G

def lowI (c : Int) : Bool := if 97 ≤ c then decide (c ≤ 122) else false
def digI (c : Int) : Bool := if 48 ≤ c then decide (c ≤ 57) else false
def runI (c : Int) : Bool := lowI c || (digI c || c == 45)
set_option maxHeartbeats 400000 in
theorem lower_any (c : Int) (w : World) :
    Calls Tryd.prog 32 #[.int .u8 c] w fun e w' => e = .returned (.bool (lowI c)) ∧ w = w' := by
  by_cases a : 97 ≤ c
  all_goals
    go_enter Tryd.func32, Tryd.ntmps32
    go_wp2
    go_ret
    exact ⟨by simp [lowI]; omega, rfl⟩
set_option maxHeartbeats 400000 in
theorem digit_any (c : Int) (w : World) :
    Calls Tryd.prog 33 #[.int .u8 c] w fun e w' => e = .returned (.bool (digI c)) ∧ w = w' := by
  by_cases a : 48 ≤ c
  all_goals
    go_enter Tryd.func33, Tryd.ntmps33
    go_wp2
    go_ret
    exact ⟨by simp [digI]; omega, rfl⟩
set_option maxHeartbeats 400000 in
theorem name1_any (c : Int) (w : World) :
    Calls Tryd.prog 31 #[.int .u8 c] w fun e w' => e = .returned (.bool (runI c)) ∧ w = w' := by
  unfold runI
  by_cases a : lowI c = true
  · go_enter Tryd.func31, Tryd.ntmps31
    go_wp2_with (first | (go_at_call 32; refine (lower_any _ _).mono ?_; rintro e w' ⟨rfl, rfl⟩) | (go_at_call 33; refine (digit_any _ _).mono ?_; rintro e w' ⟨rfl, rfl⟩))
    go_ret
    exact ⟨by simp [a], rfl⟩
  · replace a := Bool.eq_false_iff.2 a
    by_cases b : digI c = true
    · go_enter Tryd.func31, Tryd.ntmps31
      go_wp2_with (first | (go_at_call 32; refine (lower_any _ _).mono ?_; rintro e w' ⟨rfl, rfl⟩) | (go_at_call 33; refine (digit_any _ _).mono ?_; rintro e w' ⟨rfl, rfl⟩))
      go_ret
      exact ⟨by simp [a, b], rfl⟩
    · replace b := Bool.eq_false_iff.2 b
      go_enter Tryd.func31, Tryd.ntmps31
      go_wp2_with (first | (go_at_call 32; refine (lower_any _ _).mono ?_; rintro e w' ⟨rfl, rfl⟩) | (go_at_call 33; refine (digit_any _ _).mono ?_; rintro e w' ⟨rfl, rfl⟩))
      go_ret
      exact ⟨by simp [a, b], rfl⟩

/-- All bytes of a text from place i on (d of them) are such as a name has. -/
def allFrom (s : ByteArray) : Nat → Nat → Bool
  | _, 0 => true
  | i, d + 1 => if runI (bt s i) = true then allFrom s (i + 1) d else false
def allR (s : ByteArray) : Bool := allFrom s 0 s.size
theorem allFrom_yes (s : ByteArray) (i d : Nat) (h : runI (bt s i) = true) : allFrom s i (d + 1) = allFrom s (i + 1) d := by simp [allFrom, h]
theorem allFrom_no (s : ByteArray) (i d : Nat) (h : runI (bt s i) = false) : allFrom s i (d + 1) = false := by simp [allFrom, h]
set_option maxHeartbeats 400000 in
theorem all_any (s : ByteArray) (w : World) (hs : s.size ≤ 9223372036854775807) :
    Calls Tryd.prog 30 #[.string s, .func (.func 31) #[] #[]] w fun e w' => e = .returned (.bool (allR s)) ∧ w = w' := by
  go_enter Tryd.func30, Tryd.ntmps30
  go_wp2
  go_loop [8] (fun i => ∃ k : Nat, k ≤ s.size ∧ i = .int .i64 k ∧ allFrom s k (s.size - k) = allR s) (fun i => s.size - (intOf i).toNat)
  case atStart => exact ⟨0, Nat.zero_le _, rfl, rfl⟩
  case round =>
    obtain ⟨k, hk, rfl, hall⟩ := hrel
    have HA := Aside0.mk hall
    clear hall
    by_cases hlt : k < s.size
    · have hb : ((s[k]'hlt).toNat : Int) = bt s k := bt_at s k (by simpa using hlt)
      have HB := Aside0.mk hb
      clear hb
      obtain ⟨d, hd⟩ : ∃ d, s.size - k = d + 1 := ⟨s.size - k - 1, by omega⟩
      have HD := Aside0.mk hd
      clear hd
      go_wp2_with (first | (go_at_call 31; refine (name1_any _ _).mono ?_; rintro e w' ⟨rfl, rfl⟩))
      · have hr : (!runI ↑s[k].toNat) = true := by assumption
        rw [HB.out] at hr
        have e1 := HA.out
        rw [HD.out, allFrom_no s k d (by simpa using hr)] at e1
        go_ret
        exact ⟨by rw [← e1]; rfl, rfl⟩
      · have hr : (!runI ↑s[k].toNat) = false := by assumption
        rw [HB.out] at hr
        have e1 := HA.out
        rw [HD.out, allFrom_yes s k d (by simpa using hr)] at e1
        have e2 : s.size - (k + 1) = d := by have := HD.out; omega
        go_round
        case rel => exact ⟨k + 1, by omega, by go_num, by rw [e2]; exact e1⟩
        case measure => simp [intOf]; omega
    · go_wp2
      go_ret
      exact ⟨by rw [← HA.out]; simp [show s.size - k = 0 by omega, allFrom], rfl⟩

/-- Is a text a name? -/
def nameB (s : ByteArray) : Bool := if 1 ≤ s.size then (if s.size ≤ 16 then allR s else false) else false
def mark_Name.f (a0 : ByteArray) : Option Bool := some (nameB a0)
set_option maxHeartbeats 400000 in
theorem mark_Name.calls (a0 : ByteArray) (r : Bool) (w : World) (h : mark_Name.f a0 = some r) :
    Calls Tryd.prog 24 #[.string a0] w fun e w' => e = .returned (.bool r) ∧ Drawn0 w w' := by
  obtain rfl : nameB a0 = r := Option.some.inj h
  clear h
  by_cases h1 : 1 ≤ a0.size
  · by_cases h2 : a0.size ≤ 16
    · have hs : a0.size ≤ 9223372036854775807 := by omega
      have HN := Aside0.mk (show nameB a0 = allR a0 by simp [nameB, h1, h2])
      go_enter Tryd.func24, Tryd.ntmps24
      go_wp2_with (first | (go_at_call 30; refine (all_any _ _ hs).mono ?_; rintro e w' ⟨rfl, rfl⟩))
      go_ret
      exact ⟨by rw [HN.out]; rfl, Drawn0.refl _⟩
    · have HN := Aside0.mk (show nameB a0 = false by simp [nameB, h2])
      go_enter Tryd.func24, Tryd.ntmps24
      go_wp2_with fail
      go_ret
      exact ⟨by rw [HN.out]; rfl, Drawn0.refl _⟩
  · have HN := Aside0.mk (show nameB a0 = false by simp [nameB, h1])
    go_enter Tryd.func24, Tryd.ntmps24
    go_wp2_with fail
    go_ret
    exact ⟨by rw [HN.out]; rfl, Drawn0.refl _⟩
/-- A small number's digits. -/
def strconv_Itoa.f (a0 : Int) : Option ByteArray := if 0 ≤ a0 ∧ a0 < 100 then some ⟨(Lib.decDigits a0.toNat).toArray⟩ else none
theorem strconv_Itoa.calls (a0 : Int) (r : ByteArray) (w : World) (h : strconv_Itoa.f a0 = some r) :
    Calls Tryd.prog 26 #[.int .i64 a0] w fun e w' => e = .returned (.string r) ∧ Drawn0 w w' := by
  unfold strconv_Itoa.f at h
  split at h
  · rename_i hc
    obtain rfl := Option.some.inj h
    obtain ⟨n, rfl⟩ : ∃ n : Nat, a0 = n := ⟨a0.toNat, by omega⟩
    refine (Tryd.strconv_Itoa_small n (by omega) w).mono ?_
    rintro e w' ⟨rfl, rfl⟩
    exact ⟨by rw [Int.toNat_natCast], Drawn0.refl _⟩
  · cases h
/-- The cells of a row that is read, and what is owned of them. -/
theorem own_R {α : Type} {d : Kd α} (hd : ∀ {w : World} {base : Nat} {ok : Nat → Prop} {x : α} {cs : List Value}, d.K w x cs → d.M w base ok x cs) {e : Nat} {w : World} {base : Nat} {v : Value} {xs : List α} {news : List Value}
    (ho : w.ownsRow base e d.sz v xs.length news) (hr : Reps (d.K w) d.sz xs news) : d.R e w base (fun _ => True) v xs :=
  ⟨fun _ _ => trivial, news, ho, hr.imp_ (fun _ _ hp => hd hp)⟩
/-- A row that is read, as its cells. -/
theorem cells_C {α : Type} {d : Kd α} {w : World} {ad : Addr} : ∀ (n : Nat) {xs : List α}, xs.length = n → d.C w (some ad) n xs → ∃ news : List Value, Reps (d.K w) d.sz xs news ∧ news.length = n * d.sz ∧ (∀ j u, news[j]? = some u → w.cell? (ad.add j) = some u) ∧ (∀ u, u ∈ news → u.oneCell' = true)
  | 0, xs, hx, _ => by
    obtain rfl := List.length_eq_zero_iff.1 hx
    exact ⟨[], ⟨by simp, fun j p hj => by simp at hj⟩, by simp, fun j u hj => by simp at hj, fun u hu => by cases hu⟩
  | n + 1, xs, hx, h => by
    obtain ⟨ad', e, hat⟩ := h.2.2 (by omega)
    cases e
    have hpre : d.C w (some ad) n (xs.take n) := ⟨by rw [List.length_take]; omega, by have := h.2.1; omega, fun _ => ⟨ad, rfl, fun j p hj => hat j p (by
      rw [List.getElem?_take] at hj
      split at hj
      · exact hj
      · cases hj)⟩⟩
    obtain ⟨news, hr, hl, hc, h1⟩ := cells_C n (by rw [List.length_take]; omega) hpre
    obtain ⟨x, hxn⟩ : ∃ x, xs[n]? = some x := ⟨_, List.getElem?_eq_getElem (by omega)⟩
    obtain ⟨cs, hcl, hK, hcc⟩ := hat n x hxn
    have hsplit : xs = xs.take n ++ [x] := by
      have h2 := List.take_append_drop n xs
      rw [List.drop_eq_getElem_cons (by omega), List.drop_eq_nil_of_le (by omega)] at h2
      obtain ⟨_, h3⟩ := List.getElem?_eq_some_iff.1 hxn
      rw [h3] at h2
      exact h2.symm
    refine ⟨news ++ cs, ?_, by rw [List.length_append, hl, hcl, Nat.succ_mul], fun j u hj => ?_, fun u hu => ?_⟩
    · rw [hsplit]
      exact hr.snoc hK hcl
    · rcases Nat.lt_or_ge j news.length with h2 | h2
      · rw [List.getElem?_append_left h2] at hj
        exact hc j u hj
      · rw [List.getElem?_append_right h2] at hj
        have := hcc (j - news.length) u hj
        rwa [hl, show n * d.sz + (j - n * d.sz) = j by omega] at this
    · rcases List.mem_append.1 hu with h2 | h2
      · exact h1 u h2
      · exact d.K_one hK u h2
theorem m32 {w : World} {base : Nat} {ok : Nat → Prop} {x : S32} {cs : List Value} (h : k32.K w x cs) : k32.M w base ok x cs := by
  obtain rfl := k32_open h
  exact k32_mkM w base ok x
theorem m30 {w : World} {base : Nat} {ok : Nat → Prop} {x : S30} {cs : List Value} (h : k30.K w x cs) : k30.M w base ok x cs := by
  obtain rfl := k30_open h
  exact k30_mkM w base ok x
theorem infoC30 : (Tryd.prog.info? 30).map (fun i => (i.zero, i.size, i.bytes)) = some (some (.agg #[.int .i64 0, .int .i64 0, .int .i64 0]), 3, 24) := by kernel_rfl
set_option maxHeartbeats 2000000 in
theorem clone_calls_row (ad : Addr) (n c : Nat) (news : List Value) (w : World) (hl : news.length = n * 4) (hn : n ≤ maxLen) (hbig : n * 40 ≤ 140737488355328)
    (hc : ∀ j u, news[j]? = some u → w.cell? (ad.add j) = some u) (h1 : ∀ u ∈ news, u.oneCell' = true) :
    Calls Tryd.prog 23 #[.slice (some ad) n c] w fun e w' => ∃ v', e = .returned v' ∧ w'.ownsRow w.heap.size 32 4 v' n news ∧ v' ≠ .slice none 0 0 ∧ Below w.heap.size w w' := by
  have q33 : ∀ (w : World) (a : Option Addr) (n c n' c' : Nat), (binOp .eql 33 (.slice a n c) (.slice none n' c')).run Tryd.prog w = .ok (.bool a.isNone) w := fun w a n c n' c' => Lib.run_eql_slice_nil w _ _ a n c n' c' Tryd.underlying33
  have u33 : ∀ w, Sem.run Tryd.prog (underlying 33) w = .ok (TypeDesc.slice 32) w := run_underlying Tryd.underlying33
  obtain ⟨i0, hi, hz0, hz1, hz2⟩ := info_parts info32
  have A := Aside0.mk hc
  clear hc
  go_enter Tryd.func23, Tryd.ntmps23
  go_wp2_with (at_builtin; refine wpList_append_own _ rfl _ _ 33 rfl w.heap.size 32 i0 _ 4 40 Tryd.underlying33 hi hz0 hz1 hz2 rfl (by decide) _ _ _ rfl (World.ownsRow_made w #[] 0 (Nat.le_refl _) (Nat.zero_le _) (by simp)) ad n c news rfl ?qc1 ?qc2 ?qc3 ?qc4 ?qc5 ?qc6 ?_)
  case qc1 => exact hl
  case qc2 =>
    intro j u hj
    exact Lib.cell?_alloc_some _ (A.out j u hj)
  case qc3 => exact h1
  case qc4 => rw [Nat.zero_add]; exact hn
  case qc5 => rw [Nat.zero_add]; exact hbig
  case qc6 => simp
  intro v' w1 hown hgrow hnil
  go_wp2
  go_ret
  refine ⟨v', rfl, by simpa using hown, ?_, ?_⟩
  · exact hnil
  · exact ((Below.refl _ w).alloc (Nat.le_refl _) _).grown hgrow (by simp) (by intro k hk; simp [Value.ownBlock] at hk; omega)
set_option maxHeartbeats 1000000 in
theorem clone_calls_nil (n c : Nat) (w : World) : Calls Tryd.prog 23 #[.slice none n c] w fun e w' => e = .returned (.slice none 0 0) ∧ w' = w := by
  have q33 : ∀ (w : World) (a : Option Addr) (n c n' c' : Nat), (binOp .eql 33 (.slice a n c) (.slice none n' c')).run Tryd.prog w = .ok (.bool a.isNone) w := fun w a n c n' c' => Lib.run_eql_slice_nil w _ _ a n c n' c' Tryd.underlying33
  go_enter Tryd.func23, Tryd.ntmps23
  go_wp2
  go_ret
  exact ⟨rfl, rfl⟩
set_option maxHeartbeats 2000000 in
theorem clone_legs_row (ad : Addr) (n c : Nat) (news : List Value) (w : World) (hl : news.length = n * 3) (hn : n ≤ maxLen) (hbig : n * 24 ≤ 140737488355328)
    (hc : ∀ j u, news[j]? = some u → w.cell? (ad.add j) = some u) (h1 : ∀ u ∈ news, u.oneCell' = true) :
    Calls Tryd.prog 20 #[.slice (some ad) n c] w fun e w' => ∃ v', e = .returned v' ∧ w'.ownsRow w.heap.size 30 3 v' n news ∧ v' ≠ .slice none 0 0 ∧ Below w.heap.size w w' := by
  have q23 : ∀ (w : World) (a : Option Addr) (n c n' c' : Nat), (binOp .eql 23 (.slice a n c) (.slice none n' c')).run Tryd.prog w = .ok (.bool a.isNone) w := fun w a n c n' c' => Lib.run_eql_slice_nil w _ _ a n c n' c' Tryd.underlying23
  have u23 : ∀ w, Sem.run Tryd.prog (underlying 23) w = .ok (TypeDesc.slice 30) w := run_underlying Tryd.underlying23
  obtain ⟨i0, hi, hz0, hz1, hz2⟩ := info_parts infoC30
  have A := Aside0.mk hc
  clear hc
  go_enter Tryd.func20, Tryd.ntmps20
  go_wp2_with (at_builtin; refine wpList_append_own _ rfl _ _ 23 rfl w.heap.size 30 i0 _ 3 24 Tryd.underlying23 hi hz0 hz1 hz2 rfl (by decide) _ _ _ rfl (World.ownsRow_made w #[] 0 (Nat.le_refl _) (Nat.zero_le _) (by simp)) ad n c news rfl ?qc1 ?qc2 ?qc3 ?qc4 ?qc5 ?qc6 ?_)
  case qc1 => exact hl
  case qc2 =>
    intro j u hj
    exact Lib.cell?_alloc_some _ (A.out j u hj)
  case qc3 => exact h1
  case qc4 => rw [Nat.zero_add]; exact hn
  case qc5 => rw [Nat.zero_add]; exact hbig
  case qc6 => simp
  intro v' w1 hown hgrow hnil
  go_wp2
  go_ret
  refine ⟨v', rfl, by simpa using hown, ?_, ?_⟩
  · exact hnil
  · exact ((Below.refl _ w).alloc (Nat.le_refl _) _).grown hgrow (by simp) (by intro k hk; simp [Value.ownBlock] at hk; omega)
set_option maxHeartbeats 1000000 in
theorem clone_legs_nil (n c : Nat) (w : World) : Calls Tryd.prog 20 #[.slice none n c] w fun e w' => e = .returned (.slice none 0 0) ∧ w' = w := by
  have q23 : ∀ (w : World) (a : Option Addr) (n c n' c' : Nat), (binOp .eql 23 (.slice a n c) (.slice none n' c')).run Tryd.prog w = .ok (.bool a.isNone) w := fun w a n c n' c' => Lib.run_eql_slice_nil w _ _ a n c n' c' Tryd.underlying23
  go_enter Tryd.func20, Tryd.ntmps20
  go_wp2
  go_ret
  exact ⟨rfl, rfl⟩
/-- A copy of calls. -/
def clone_Call.f (l0 : List S32) : Option (List S32) := if l0.length ≤ 1000000 then some l0 else none
theorem clone_Call.calls (A0 : Option Addr) (c0 : Nat) (l0 : List S32) (r : List S32) (w : World) (hr0 : Kd.C k32 w A0 l0.length l0) (hc0 : l0.length ≤ c0) (h : clone_Call.f l0 = some r) :
    Calls Tryd.prog 23 #[.slice A0 l0.length c0] w fun e w' => ∃ v0_ : Value, e = .returned (v0_) ∧ Kd.R k32 32 w' w.heap.size (fun _ => True) v0_ r ∧ Below w.heap.size w w' := by
  unfold clone_Call.f at h
  split at h
  · rename_i hlen
    obtain rfl := Option.some.inj h
    cases A0 with
    | none =>
      refine (clone_calls_nil _ _ w).mono ?_
      rintro e w' ⟨rfl, rfl⟩
      have hz : l0 = [] := by
        rcases Nat.eq_zero_or_pos l0.length with h | h
        · exact List.length_eq_zero_iff.1 h
        · obtain ⟨ad, e, _⟩ := hr0.2.2 h
          cases e
      subst hz
      exact ⟨_, rfl, Kd.R_nil _ _ _ _ _, Below.refl _ _⟩
    | some ad =>
      obtain ⟨news, hrep, hl, hc, h1⟩ := cells_C l0.length rfl hr0
      have hz : k32.sz = 4 := rfl
      refine (clone_calls_row ad l0.length c0 news w (by rw [hl, hz]) (by unfold maxLen; omega) (by omega) hc h1).mono ?_
      rintro e w' ⟨v, rfl, hown, _, hb⟩
      exact ⟨v, rfl, own_R m32 hown (hrep.imp_ (fun x cs hk => k32.K_below hb hk)), hb⟩
  · cases h
end Go.Proofs.YtbojieeildhlcaaDoor.Ext
