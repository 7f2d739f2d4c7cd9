/- Contracts of the functions of the seat that take function values or read the package's tables. -/
import Derived.Test.YtamgmceogjgijaaDoorGx0
import Derived.Test.YtamgmceogjgijaaDoorAx1
import Derived.Sort.Walk0
import Derived.Test.YtamgmceogjgijaaDoorShelf
namespace Go.Proofs.YtamgmceogjgijaaDoor.Ext
set_option linter.unusedVariables false
set_option linter.unusedSimpArgs false
open Go.RowKit Go.Proofs.YtamgmceogjgijaaDoorW.PrintWords Go.Proofs.YtamgmceogjgijaaDoorW.PrintLast Go.Proofs.YtamgmceogjgijaaDoorW.PrintMore Go.Proofs.YtamgmceogjgijaaDoor.A

def lowI (c : Int) : Bool := if 97 ≤ c then decide (c ≤ 122) else false
def digI (c : Int) : Bool := if 48 ≤ c then decide (c ≤ 57) else false
def runI (c : Int) : Bool := lowI c || (digI c || c == 45)
set_option maxHeartbeats 400000 in
theorem lower_any (c : Int) (w : World) :
    Calls Tryd.prog 57 #[.int .u8 c] w fun e w' => e = .returned (.bool (lowI c)) ∧ w = w' := by
  by_cases a : 97 ≤ c
  all_goals
    go_enter Tryd.func57, Tryd.ntmps57
    go_wp2
    go_ret
    exact ⟨by simp [lowI]; omega, rfl⟩
set_option maxHeartbeats 400000 in
theorem digit_any (c : Int) (w : World) :
    Calls Tryd.prog 58 #[.int .u8 c] w fun e w' => e = .returned (.bool (digI c)) ∧ w = w' := by
  by_cases a : 48 ≤ c
  all_goals
    go_enter Tryd.func58, Tryd.ntmps58
    go_wp2
    go_ret
    exact ⟨by simp [digI]; omega, rfl⟩
set_option maxHeartbeats 400000 in
theorem name1_any (c : Int) (w : World) :
    Calls Tryd.prog 56 #[.int .u8 c] w fun e w' => e = .returned (.bool (runI c)) ∧ w = w' := by
  unfold runI
  by_cases a : lowI c = true
  · go_enter Tryd.func56, Tryd.ntmps56
    go_wp2_with (first | (go_at_call 57; refine (lower_any _ _).mono ?_; rintro e w' ⟨rfl, rfl⟩) | (go_at_call 58; refine (digit_any _ _).mono ?_; rintro e w' ⟨rfl, rfl⟩))
    go_ret
    exact ⟨by simp [a], rfl⟩
  · replace a := Bool.eq_false_iff.2 a
    by_cases b : digI c = true
    · go_enter Tryd.func56, Tryd.ntmps56
      go_wp2_with (first | (go_at_call 57; refine (lower_any _ _).mono ?_; rintro e w' ⟨rfl, rfl⟩) | (go_at_call 58; refine (digit_any _ _).mono ?_; rintro e w' ⟨rfl, rfl⟩))
      go_ret
      exact ⟨by simp [a, b], rfl⟩
    · replace b := Bool.eq_false_iff.2 b
      go_enter Tryd.func56, Tryd.ntmps56
      go_wp2_with (first | (go_at_call 57; refine (lower_any _ _).mono ?_; rintro e w' ⟨rfl, rfl⟩) | (go_at_call 58; refine (digit_any _ _).mono ?_; rintro e w' ⟨rfl, rfl⟩))
      go_ret
      exact ⟨by simp [a, b], rfl⟩

/-- All bytes of a text from place i on (d of them) are such as a name has. -/
def allFrom (s : ByteArray) : Nat → Nat → Bool
  | _, 0 => true
  | i, d + 1 => if runI (bt s i) = true then allFrom s (i + 1) d else false
def allR (s : ByteArray) : Bool := allFrom s 0 s.size
theorem allFrom_yes (s : ByteArray) (i d : Nat) (h : runI (bt s i) = true) : allFrom s i (d + 1) = allFrom s (i + 1) d := by simp [allFrom, h]
theorem allFrom_no (s : ByteArray) (i d : Nat) (h : runI (bt s i) = false) : allFrom s i (d + 1) = false := by simp [allFrom, h]
set_option maxHeartbeats 400000 in
theorem all_any (s : ByteArray) (w : World) (hs : s.size ≤ 9223372036854775807) :
    Calls Tryd.prog 55 #[.string s, .func (.func 56) #[] #[]] w fun e w' => e = .returned (.bool (allR s)) ∧ w = w' := by
  go_enter Tryd.func55, Tryd.ntmps55
  go_wp2
  go_loop [8] (fun i => ∃ k : Nat, k ≤ s.size ∧ i = .int .i64 k ∧ allFrom s k (s.size - k) = allR s) (fun i => s.size - (intOf i).toNat)
  case atStart => exact ⟨0, Nat.zero_le _, rfl, rfl⟩
  case round =>
    obtain ⟨k, hk, rfl, hall⟩ := hrel
    have HA := Aside0.mk hall
    clear hall
    by_cases hlt : k < s.size
    · have hb : ((s[k]'hlt).toNat : Int) = bt s k := bt_at s k (by simpa using hlt)
      have HB := Aside0.mk hb
      clear hb
      obtain ⟨d, hd⟩ : ∃ d, s.size - k = d + 1 := ⟨s.size - k - 1, by omega⟩
      have HD := Aside0.mk hd
      clear hd
      go_wp2_with (first | (go_at_call 56; refine (name1_any _ _).mono ?_; rintro e w' ⟨rfl, rfl⟩))
      · have hr : (!runI ↑s[k].toNat) = true := by assumption
        rw [HB.out] at hr
        have e1 := HA.out
        rw [HD.out, allFrom_no s k d (by simpa using hr)] at e1
        go_ret
        exact ⟨by rw [← e1]; rfl, rfl⟩
      · have hr : (!runI ↑s[k].toNat) = false := by assumption
        rw [HB.out] at hr
        have e1 := HA.out
        rw [HD.out, allFrom_yes s k d (by simpa using hr)] at e1
        have e2 : s.size - (k + 1) = d := by have := HD.out; omega
        go_round
        case rel => exact ⟨k + 1, by omega, by go_num, by rw [e2]; exact e1⟩
        case measure => simp [intOf]; omega
    · go_wp2
      go_ret
      exact ⟨by rw [← HA.out]; simp [show s.size - k = 0 by omega, allFrom], rfl⟩

/-- Is a text a name? -/
def nameB (s : ByteArray) : Bool := if 1 ≤ s.size then (if s.size ≤ 16 then allR s else false) else false
def mark_Name.f (a0 : ByteArray) : Option Bool := if a0.size ≤ 9223372036854775807 then some (nameB a0) else none
set_option maxHeartbeats 400000 in
theorem mark_Name.calls (a0 : ByteArray) (r : Bool) (w : World) (h : mark_Name.f a0 = some r) :
    Calls Tryd.prog 49 #[.string a0] w fun e w' => e = .returned (.bool r) ∧ Drawn0 w w' := by
  have hs : a0.size ≤ 9223372036854775807 := by
    unfold mark_Name.f at h
    split at h
    · assumption
    · cases h
  obtain rfl : nameB a0 = r := by simpa [mark_Name.f, hs] using h
  clear h
  by_cases h1 : 1 ≤ a0.size
  · by_cases h2 : a0.size ≤ 16
    · have HN := Aside0.mk (show nameB a0 = allR a0 by simp [nameB, h1, h2])
      go_enter Tryd.func49, Tryd.ntmps49
      go_wp2_with (first | (go_at_call 55; refine (all_any _ _ hs).mono ?_; rintro e w' ⟨rfl, rfl⟩))
      go_ret
      exact ⟨by rw [HN.out]; rfl, Drawn0.refl _⟩
    · have HN := Aside0.mk (show nameB a0 = false by simp [nameB, h2])
      go_enter Tryd.func49, Tryd.ntmps49
      go_wp2_with fail
      go_ret
      exact ⟨by rw [HN.out]; rfl, Drawn0.refl _⟩
  · have HN := Aside0.mk (show nameB a0 = false by simp [nameB, h1])
    go_enter Tryd.func49, Tryd.ntmps49
    go_wp2_with fail
    go_ret
    exact ⟨by rw [HN.out]; rfl, Drawn0.refl _⟩
def capI (c : Int) : Bool := if 65 ≤ c then decide (c ≤ 90) else false
def plainI (c : Int) : Bool := if 32 ≤ c then (if c ≤ 126 then c != 34 else false) else false
def blankI (c : Int) : Bool := c == 32 || c == 10
set_option maxHeartbeats 400000 in
theorem p_digit (c : Int) (w : World) : Calls Tryd.prog 46 #[.int .u8 c] w fun e w' => e = .returned (.bool (digI c)) ∧ w = w' := by
  by_cases a : 48 ≤ c
  all_goals
    go_enter Tryd.func46, Tryd.ntmps46
    go_wp2
    go_ret
    exact ⟨by simp [digI]; omega, rfl⟩
set_option maxHeartbeats 400000 in
theorem p_capital (c : Int) (w : World) : Calls Tryd.prog 36 #[.int .u8 c] w fun e w' => e = .returned (.bool (capI c)) ∧ w = w' := by
  by_cases a : 65 ≤ c
  all_goals
    go_enter Tryd.func36, Tryd.ntmps36
    go_wp2
    go_ret
    exact ⟨by simp [capI]; omega, rfl⟩
set_option maxHeartbeats 400000 in
theorem p_blank (c : Int) (w : World) : Calls Tryd.prog 24 #[.int .u8 c] w fun e w' => e = .returned (.bool (blankI c)) ∧ w = w' := by
  by_cases a : c = 32
  all_goals
    go_enter Tryd.func24, Tryd.ntmps24
    go_wp2
    go_ret
    exact ⟨by simp [blankI, a], rfl⟩
set_option maxHeartbeats 400000 in
theorem p_plain (c : Int) (w : World) : Calls Tryd.prog 37 #[.int .u8 c] w fun e w' => e = .returned (.bool (plainI c)) ∧ w = w' := by
  by_cases a : 32 ≤ c
  · by_cases b : c ≤ 126
    · go_enter Tryd.func37, Tryd.ntmps37
      go_wp2
      go_ret
      exact ⟨by simp [plainI, a, b], rfl⟩
    · go_enter Tryd.func37, Tryd.ntmps37
      go_wp2
      go_ret
      exact ⟨by simp [plainI]; omega, rfl⟩
  · go_enter Tryd.func37, Tryd.ntmps37
    go_wp2
    go_ret
    exact ⟨by simp [plainI]; omega, rfl⟩
set_option maxHeartbeats 400000 in
theorem p_running (c : Int) (w : World) : Calls Tryd.prog 34 #[.int .u8 c] w fun e w' => e = .returned (.bool (runI c)) ∧ w = w' := by
  by_cases a : lowI c = true
  · have HR := Aside0.mk (show runI c = true by simp [runI, a])
    have a' : 97 ≤ c ∧ c ≤ 122 := by
      unfold lowI at a
      split at a
      · exact ⟨by assumption, of_decide_eq_true a⟩
      · cases a
    obtain ⟨a1, a2⟩ := a'
    clear a
    go_enter Tryd.func34, Tryd.ntmps34
    go_wp2_with (first | (go_at_call 46; refine (p_digit _ _).mono ?_; rintro e w' ⟨rfl, rfl⟩))
    go_ret
    exact ⟨by rw [HR.out]; rfl, rfl⟩
  · have a' : ¬ (97 ≤ c ∧ c ≤ 122) := by
      rintro ⟨h1, h2⟩
      exact a (by simp [lowI, h1, h2])
    have ha := Bool.eq_false_iff.2 a
    by_cases b : digI c = true
    · have HR := Aside0.mk (show runI c = true by simp [runI, b])
      clear a ha
      by_cases a1 : 97 ≤ c
      · have a2 : ¬ c ≤ 122 := fun h => a' ⟨a1, h⟩
        clear a'
        go_enter Tryd.func34, Tryd.ntmps34
        go_wp2_with (first | (go_at_call 46; refine (p_digit _ _).mono ?_; rintro e w' ⟨rfl, rfl⟩))
        go_ret
        exact ⟨by rw [HR.out]; rfl, rfl⟩
      · clear a'
        go_enter Tryd.func34, Tryd.ntmps34
        go_wp2_with (first | (go_at_call 46; refine (p_digit _ _).mono ?_; rintro e w' ⟨rfl, rfl⟩))
        go_ret
        exact ⟨by rw [HR.out]; rfl, rfl⟩
    · have HR := Aside0.mk (show runI c = (c == 45) by simp [runI, ha, Bool.eq_false_iff.2 b])
      replace b := Bool.eq_false_iff.2 b
      clear a ha
      by_cases a1 : 97 ≤ c
      · have a2 : ¬ c ≤ 122 := fun h => a' ⟨a1, h⟩
        clear a'
        go_enter Tryd.func34, Tryd.ntmps34
        go_wp2_with (first | (go_at_call 46; refine (p_digit _ _).mono ?_; rintro e w' ⟨rfl, rfl⟩))
        go_ret
        exact ⟨by rw [HR.out]; rfl, rfl⟩
      · clear a'
        go_enter Tryd.func34, Tryd.ntmps34
        go_wp2_with (first | (go_at_call 46; refine (p_digit _ _).mono ?_; rintro e w' ⟨rfl, rfl⟩))
        go_ret
        exact ⟨by rw [HR.out]; rfl, rfl⟩
/-- How many bytes from the front on are such; from place i on, d are left. -/
def spanN (p : Int → Bool) (s : ByteArray) : Nat → Nat → Nat
  | i, 0 => i
  | i, d + 1 => if p (bt s i) = true then spanN p s (i + 1) d else i
theorem spanN_yes {p : Int → Bool} {s : ByteArray} {i d : Nat} (h : p (bt s i) = true) : spanN p s i (d + 1) = spanN p s (i + 1) d := by simp [spanN, h]
theorem spanN_no {p : Int → Bool} {s : ByteArray} {i d : Nat} (h : p (bt s i) = false) : spanN p s i (d + 1) = i := by simp [spanN, h]
theorem ret_int {k : IntKind} {a b : Int} (h : a = b) : Ending.returned (.int k a) = .returned (.int k b) := by rw [h]
set_option maxHeartbeats 400000 in
theorem span_digit (s : ByteArray) (w : World) (hs : s.size ≤ 9223372036854775806) :
    Calls Tryd.prog 23 #[.string s, .func (.func 46) #[] #[]] w fun e w' => e = .returned (.int .i64 (spanN digI s 0 s.size)) ∧ w = w' := by
  go_enter Tryd.func23, Tryd.ntmps23
  go_wp2
  go_loop [5] (fun i => ∃ k : Nat, k ≤ s.size ∧ i = .int .i64 k ∧ spanN digI s k (s.size - k) = spanN digI s 0 s.size) (fun i => s.size - (intOf i).toNat)
  case atStart => exact ⟨0, Nat.zero_le _, rfl, rfl⟩
  case round =>
    obtain ⟨k, hk, rfl, hall⟩ := hrel
    have HA := Aside0.mk hall
    clear hall
    by_cases hlt : k < s.size
    · have hb : ((s[k]'hlt).toNat : Int) = bt s k := bt_at s k (by simpa using hlt)
      have HB := Aside0.mk hb
      clear hb
      obtain ⟨d, hd⟩ : ∃ d, s.size - k = d + 1 := ⟨s.size - k - 1, by omega⟩
      have HD := Aside0.mk hd
      clear hd
      go_wp2_with (first | (go_at_call 46; refine (p_digit _ _).mono ?_; rintro e w' ⟨rfl, rfl⟩))
      · have hr : digI ↑s[k].toNat = true := by assumption
        rw [HB.out] at hr
        have e1 := HA.out
        rw [HD.out, spanN_yes hr] at e1
        have e2 : s.size - (k + 1) = d := by have := HD.out; omega
        go_round
        case rel => exact ⟨k + 1, by omega, by go_num, by rw [e2]; exact e1⟩
        case measure => simp [intOf]; omega
      · have hr : digI ↑s[k].toNat = false := by assumption
        rw [HB.out] at hr
        have e1 := HA.out
        rw [HD.out, spanN_no hr] at e1
        go_ret
        exact ⟨ret_int (by rw [← e1]), rfl⟩
    · go_wp2
      go_ret
      exact ⟨ret_int (by rw [← HA.out, show s.size - k = 0 by omega]; rfl), rfl⟩
def token_span_digit.f (a0 : ByteArray) : Option Int := if a0.size ≤ 9223372036854775806 then some (spanN digI a0 0 a0.size) else none
theorem token_span_digit.calls (a0 : ByteArray) (r : Int) (w : World) (h : token_span_digit.f a0 = some r) :
    Calls Tryd.prog 23 #[.string a0, .func (.func 46) #[] #[]] w fun e w' => e = .returned (.int .i64 r) ∧ Drawn0 w w' := by
  unfold token_span_digit.f at h
  split at h
  · obtain rfl := Option.some.inj h
    refine (span_digit a0 w (by assumption)).mono ?_
    rintro e w' ⟨rfl, rfl⟩
    exact ⟨rfl, Drawn0.refl _⟩
  · cases h
set_option maxHeartbeats 400000 in
theorem span_running (s : ByteArray) (w : World) (hs : s.size ≤ 9223372036854775806) :
    Calls Tryd.prog 23 #[.string s, .func (.func 34) #[] #[]] w fun e w' => e = .returned (.int .i64 (spanN runI s 0 s.size)) ∧ w = w' := by
  go_enter Tryd.func23, Tryd.ntmps23
  go_wp2
  go_loop [5] (fun i => ∃ k : Nat, k ≤ s.size ∧ i = .int .i64 k ∧ spanN runI s k (s.size - k) = spanN runI s 0 s.size) (fun i => s.size - (intOf i).toNat)
  case atStart => exact ⟨0, Nat.zero_le _, rfl, rfl⟩
  case round =>
    obtain ⟨k, hk, rfl, hall⟩ := hrel
    have HA := Aside0.mk hall
    clear hall
    by_cases hlt : k < s.size
    · have hb : ((s[k]'hlt).toNat : Int) = bt s k := bt_at s k (by simpa using hlt)
      have HB := Aside0.mk hb
      clear hb
      obtain ⟨d, hd⟩ : ∃ d, s.size - k = d + 1 := ⟨s.size - k - 1, by omega⟩
      have HD := Aside0.mk hd
      clear hd
      go_wp2_with (first | (go_at_call 34; refine (p_running _ _).mono ?_; rintro e w' ⟨rfl, rfl⟩))
      · have hr : runI ↑s[k].toNat = true := by assumption
        rw [HB.out] at hr
        have e1 := HA.out
        rw [HD.out, spanN_yes hr] at e1
        have e2 : s.size - (k + 1) = d := by have := HD.out; omega
        go_round
        case rel => exact ⟨k + 1, by omega, by go_num, by rw [e2]; exact e1⟩
        case measure => simp [intOf]; omega
      · have hr : runI ↑s[k].toNat = false := by assumption
        rw [HB.out] at hr
        have e1 := HA.out
        rw [HD.out, spanN_no hr] at e1
        go_ret
        exact ⟨ret_int (by rw [← e1]), rfl⟩
    · go_wp2
      go_ret
      exact ⟨ret_int (by rw [← HA.out, show s.size - k = 0 by omega]; rfl), rfl⟩
def token_span_running.f (a0 : ByteArray) : Option Int := if a0.size ≤ 9223372036854775806 then some (spanN runI a0 0 a0.size) else none
theorem token_span_running.calls (a0 : ByteArray) (r : Int) (w : World) (h : token_span_running.f a0 = some r) :
    Calls Tryd.prog 23 #[.string a0, .func (.func 34) #[] #[]] w fun e w' => e = .returned (.int .i64 r) ∧ Drawn0 w w' := by
  unfold token_span_running.f at h
  split at h
  · obtain rfl := Option.some.inj h
    refine (span_running a0 w (by assumption)).mono ?_
    rintro e w' ⟨rfl, rfl⟩
    exact ⟨rfl, Drawn0.refl _⟩
  · cases h
set_option maxHeartbeats 400000 in
theorem span_capital (s : ByteArray) (w : World) (hs : s.size ≤ 9223372036854775806) :
    Calls Tryd.prog 23 #[.string s, .func (.func 36) #[] #[]] w fun e w' => e = .returned (.int .i64 (spanN capI s 0 s.size)) ∧ w = w' := by
  go_enter Tryd.func23, Tryd.ntmps23
  go_wp2
  go_loop [5] (fun i => ∃ k : Nat, k ≤ s.size ∧ i = .int .i64 k ∧ spanN capI s k (s.size - k) = spanN capI s 0 s.size) (fun i => s.size - (intOf i).toNat)
  case atStart => exact ⟨0, Nat.zero_le _, rfl, rfl⟩
  case round =>
    obtain ⟨k, hk, rfl, hall⟩ := hrel
    have HA := Aside0.mk hall
    clear hall
    by_cases hlt : k < s.size
    · have hb : ((s[k]'hlt).toNat : Int) = bt s k := bt_at s k (by simpa using hlt)
      have HB := Aside0.mk hb
      clear hb
      obtain ⟨d, hd⟩ : ∃ d, s.size - k = d + 1 := ⟨s.size - k - 1, by omega⟩
      have HD := Aside0.mk hd
      clear hd
      go_wp2_with (first | (go_at_call 36; refine (p_capital _ _).mono ?_; rintro e w' ⟨rfl, rfl⟩))
      · have hr : capI ↑s[k].toNat = true := by assumption
        rw [HB.out] at hr
        have e1 := HA.out
        rw [HD.out, spanN_yes hr] at e1
        have e2 : s.size - (k + 1) = d := by have := HD.out; omega
        go_round
        case rel => exact ⟨k + 1, by omega, by go_num, by rw [e2]; exact e1⟩
        case measure => simp [intOf]; omega
      · have hr : capI ↑s[k].toNat = false := by assumption
        rw [HB.out] at hr
        have e1 := HA.out
        rw [HD.out, spanN_no hr] at e1
        go_ret
        exact ⟨ret_int (by rw [← e1]), rfl⟩
    · go_wp2
      go_ret
      exact ⟨ret_int (by rw [← HA.out, show s.size - k = 0 by omega]; rfl), rfl⟩
def token_span_capital.f (a0 : ByteArray) : Option Int := if a0.size ≤ 9223372036854775806 then some (spanN capI a0 0 a0.size) else none
theorem token_span_capital.calls (a0 : ByteArray) (r : Int) (w : World) (h : token_span_capital.f a0 = some r) :
    Calls Tryd.prog 23 #[.string a0, .func (.func 36) #[] #[]] w fun e w' => e = .returned (.int .i64 r) ∧ Drawn0 w w' := by
  unfold token_span_capital.f at h
  split at h
  · obtain rfl := Option.some.inj h
    refine (span_capital a0 w (by assumption)).mono ?_
    rintro e w' ⟨rfl, rfl⟩
    exact ⟨rfl, Drawn0.refl _⟩
  · cases h
set_option maxHeartbeats 400000 in
theorem span_plain (s : ByteArray) (w : World) (hs : s.size ≤ 9223372036854775806) :
    Calls Tryd.prog 23 #[.string s, .func (.func 37) #[] #[]] w fun e w' => e = .returned (.int .i64 (spanN plainI s 0 s.size)) ∧ w = w' := by
  go_enter Tryd.func23, Tryd.ntmps23
  go_wp2
  go_loop [5] (fun i => ∃ k : Nat, k ≤ s.size ∧ i = .int .i64 k ∧ spanN plainI s k (s.size - k) = spanN plainI s 0 s.size) (fun i => s.size - (intOf i).toNat)
  case atStart => exact ⟨0, Nat.zero_le _, rfl, rfl⟩
  case round =>
    obtain ⟨k, hk, rfl, hall⟩ := hrel
    have HA := Aside0.mk hall
    clear hall
    by_cases hlt : k < s.size
    · have hb : ((s[k]'hlt).toNat : Int) = bt s k := bt_at s k (by simpa using hlt)
      have HB := Aside0.mk hb
      clear hb
      obtain ⟨d, hd⟩ : ∃ d, s.size - k = d + 1 := ⟨s.size - k - 1, by omega⟩
      have HD := Aside0.mk hd
      clear hd
      go_wp2_with (first | (go_at_call 37; refine (p_plain _ _).mono ?_; rintro e w' ⟨rfl, rfl⟩))
      · have hr : plainI ↑s[k].toNat = true := by assumption
        rw [HB.out] at hr
        have e1 := HA.out
        rw [HD.out, spanN_yes hr] at e1
        have e2 : s.size - (k + 1) = d := by have := HD.out; omega
        go_round
        case rel => exact ⟨k + 1, by omega, by go_num, by rw [e2]; exact e1⟩
        case measure => simp [intOf]; omega
      · have hr : plainI ↑s[k].toNat = false := by assumption
        rw [HB.out] at hr
        have e1 := HA.out
        rw [HD.out, spanN_no hr] at e1
        go_ret
        exact ⟨ret_int (by rw [← e1]), rfl⟩
    · go_wp2
      go_ret
      exact ⟨ret_int (by rw [← HA.out, show s.size - k = 0 by omega]; rfl), rfl⟩
def token_span_plain.f (a0 : ByteArray) : Option Int := if a0.size ≤ 9223372036854775806 then some (spanN plainI a0 0 a0.size) else none
theorem token_span_plain.calls (a0 : ByteArray) (r : Int) (w : World) (h : token_span_plain.f a0 = some r) :
    Calls Tryd.prog 23 #[.string a0, .func (.func 37) #[] #[]] w fun e w' => e = .returned (.int .i64 r) ∧ Drawn0 w w' := by
  unfold token_span_plain.f at h
  split at h
  · obtain rfl := Option.some.inj h
    refine (span_plain a0 w (by assumption)).mono ?_
    rintro e w' ⟨rfl, rfl⟩
    exact ⟨rfl, Drawn0.refl _⟩
  · cases h
set_option maxHeartbeats 400000 in
theorem span_blank (s : ByteArray) (w : World) (hs : s.size ≤ 9223372036854775806) :
    Calls Tryd.prog 23 #[.string s, .func (.func 24) #[] #[]] w fun e w' => e = .returned (.int .i64 (spanN blankI s 0 s.size)) ∧ w = w' := by
  go_enter Tryd.func23, Tryd.ntmps23
  go_wp2
  go_loop [5] (fun i => ∃ k : Nat, k ≤ s.size ∧ i = .int .i64 k ∧ spanN blankI s k (s.size - k) = spanN blankI s 0 s.size) (fun i => s.size - (intOf i).toNat)
  case atStart => exact ⟨0, Nat.zero_le _, rfl, rfl⟩
  case round =>
    obtain ⟨k, hk, rfl, hall⟩ := hrel
    have HA := Aside0.mk hall
    clear hall
    by_cases hlt : k < s.size
    · have hb : ((s[k]'hlt).toNat : Int) = bt s k := bt_at s k (by simpa using hlt)
      have HB := Aside0.mk hb
      clear hb
      obtain ⟨d, hd⟩ : ∃ d, s.size - k = d + 1 := ⟨s.size - k - 1, by omega⟩
      have HD := Aside0.mk hd
      clear hd
      go_wp2_with (first | (go_at_call 24; refine (p_blank _ _).mono ?_; rintro e w' ⟨rfl, rfl⟩))
      · have hr : blankI ↑s[k].toNat = true := by assumption
        rw [HB.out] at hr
        have e1 := HA.out
        rw [HD.out, spanN_yes hr] at e1
        have e2 : s.size - (k + 1) = d := by have := HD.out; omega
        go_round
        case rel => exact ⟨k + 1, by omega, by go_num, by rw [e2]; exact e1⟩
        case measure => simp [intOf]; omega
      · have hr : blankI ↑s[k].toNat = false := by assumption
        rw [HB.out] at hr
        have e1 := HA.out
        rw [HD.out, spanN_no hr] at e1
        go_ret
        exact ⟨ret_int (by rw [← e1]), rfl⟩
    · go_wp2
      go_ret
      exact ⟨ret_int (by rw [← HA.out, show s.size - k = 0 by omega]; rfl), rfl⟩
def token_span_blank.f (a0 : ByteArray) : Option Int := if a0.size ≤ 9223372036854775806 then some (spanN blankI a0 0 a0.size) else none
theorem token_span_blank.calls (a0 : ByteArray) (r : Int) (w : World) (h : token_span_blank.f a0 = some r) :
    Calls Tryd.prog 23 #[.string a0, .func (.func 24) #[] #[]] w fun e w' => e = .returned (.int .i64 r) ∧ Drawn0 w w' := by
  unfold token_span_blank.f at h
  split at h
  · obtain rfl := Option.some.inj h
    refine (span_blank a0 w (by assumption)).mono ?_
    rintro e w' ⟨rfl, rfl⟩
    exact ⟨rfl, Drawn0.refl _⟩
  · cases h
def token_running.f (a0 : Int) : Option Bool := some (runI a0)
theorem token_running.calls (a0 : Int) (r : Bool) (w : World) (h : token_running.f a0 = some r) : Calls Tryd.prog 34 #[.int .u8 a0] w fun e w' => e = .returned (.bool r) ∧ Drawn0 w w' := by
  obtain rfl := Option.some.inj h
  refine (p_running a0 w).mono ?_
  rintro e w' ⟨rfl, rfl⟩
  exact ⟨rfl, Drawn0.refl _⟩
def token_capital.f (a0 : Int) : Option Bool := some (capI a0)
theorem token_capital.calls (a0 : Int) (r : Bool) (w : World) (h : token_capital.f a0 = some r) : Calls Tryd.prog 36 #[.int .u8 a0] w fun e w' => e = .returned (.bool r) ∧ Drawn0 w w' := by
  obtain rfl := Option.some.inj h
  refine (p_capital a0 w).mono ?_
  rintro e w' ⟨rfl, rfl⟩
  exact ⟨rfl, Drawn0.refl _⟩

/-! ### the package's table -/
/-- The words, rising. -/
def wordsL : List ByteArray := [⟨#[97, 98, 111, 118, 101]⟩, ⟨#[97, 108, 108]⟩, ⟨#[97, 110, 100]⟩, ⟨#[97, 110, 121]⟩, ⟨#[97, 112, 112, 108, 105, 99, 97, 110, 116]⟩, ⟨#[98, 101, 108, 111, 119]⟩, ⟨#[98, 101, 110, 101, 102, 105, 99, 105, 97, 114, 121]⟩, ⟨#[99, 104, 97, 110, 103, 101]⟩, ⟨#[99, 111, 110, 102, 105, 114, 109, 101, 114]⟩, ⟨#[99, 111, 112, 105, 101, 115]⟩, ⟨#[99, 114, 101, 100, 105, 116]⟩, ⟨#[100, 97, 121, 115]⟩, ⟨#[100, 114, 97, 102, 116]⟩, ⟨#[101, 120, 112, 105, 114, 121]⟩, ⟨#[102, 114, 111, 109]⟩, ⟨#[105, 110, 115, 117, 114, 97, 110, 99, 101]⟩, ⟨#[105, 110, 118, 111, 105, 99, 101]⟩, ⟨#[105, 115, 115, 117, 101, 114]⟩, ⟨#[108, 97, 100, 105, 110, 103]⟩, ⟨#[108, 97, 116, 101, 115, 116]⟩, ⟨#[110, 111]⟩, ⟨#[110, 111, 116]⟩, ⟨#[111, 102]⟩, ⟨#[111, 114]⟩, ⟨#[111, 114, 105, 103, 105, 110]⟩, ⟨#[112, 97, 99, 107, 105, 110, 103]⟩, ⟨#[112, 97, 114, 116, 105, 97, 108]⟩, ⟨#[115, 105, 103, 104, 116]⟩, ⟨#[115, 117, 109]⟩, ⟨#[116, 101, 110, 111, 114]⟩, ⟨#[116, 111]⟩, ⟨#[119, 97, 110, 116, 115]⟩, ⟨#[119, 105, 116, 104]⟩, ⟨#[119, 105, 116, 104, 105, 110]⟩, ⟨#[121, 101, 115]⟩]
/-- The package's table of words lies as its initialiser lays it. -/
structure Gl (W : World) : Prop where mk :: (out : ∃ (A : Option Addr) (c : Nat), W.cell? ⟨0, 0, none⟩ = some (.slice A wordsL.length c) ∧ wordsL.length ≤ c ∧ Kd.C Kd.string W A wordsL.length wordsL)
theorem Gl.below {w W : World} (h : Gl w) (hb : Below w.heap.size w W) : Gl W := by
  obtain ⟨A, c, h1, h2, h3⟩ := h
  exact ⟨A, c, pw_cell_below hb h1, h2, Kd.C_below h3 hb⟩

/-! ### numbers -/
theorem succ {α : Type} {g : Nat → Option α} {r : α} (h : Ev (fun k => g (k + 1)) r) : Ev g r := Ev.step (fun _ => rfl) h
theorem wrap_in {x : Int} (h0 : -9223372036854775808 ≤ x) (h1 : x ≤ 9223372036854775807) : wrap64 x = x := by unfold wrap64; omega
theorem now {α : Type} {r q : α} (h : r = q) : Ev (fun _ => some r) q := by rw [h]; exact Ev.now _
theorem ev_pos {α : Type} {c : Prop} [Decidable c] {a b : Nat → Option α} {r : α} (h : c) (k : Ev a r) : Ev (fun n => if c then a n else b n) r := Ev.congr (fun n => if_pos h) k
theorem ev_neg {α : Type} {c : Prop} [Decidable c] {a b : Nat → Option α} {r : α} (h : ¬ c) (k : Ev b r) : Ev (fun n => if c then a n else b n) r := Ev.congr (fun n => if_neg h) k
theorem ev_ite {α : Type} {c : Prop} [Decidable c] {a b : Nat → Option α} {r : α} (h : c → Ev a r) (k : ¬ c → Ev b r) : Ev (fun n => if c then a n else b n) r := by
  by_cases hc : c
  · exact ev_pos hc (h hc)
  · exact ev_neg hc (k hc)
theorem ev_some {α β : Type} {o : Option α} {f : Nat → α → Option β} {a : α} {r : β} (h : o = some a) (k : Ev (fun n => f n a) r) : Ev (fun n => o.bind (f n)) r := Ev.congr (fun n => by rw [h]; rfl) k
/-- Digits from place i on (d are left), n ahead of them: 0, or 3 where they pass the greatest amount. -/
def amtFrom (s : ByteArray) : Int → Nat → Nat → Int
  | _, _, 0 => 0
  | n, i, d + 1 => if n * 10 + (bt s i - 48) % 256 > 1099511627776 then 3 else amtFrom s (n * 10 + (bt s i - 48) % 256) (i + 1) d
def amountS (s : ByteArray) : Int := if 1 < s.size ∧ bt s 0 = 48 then 2 else amtFrom s 0 0 s.size
theorem amount_l0 (s : ByteArray) (hs : s.size ≤ 9223372036854775806) (d : Nat) : ∀ (n : Int) (i : Nat), i + d = s.size → 0 ≤ n → n ≤ 1099511627776 → Ev (fun k => token_amount.l0 k s n i) (amtFrom s n i d) := by
  induction d with
  | zero =>
    intro n i hi h0 h1
    refine succ ?_
    simp only [token_amount.l0]
    exact ev_neg (by omega) (Ev.now _)
  | succ d ih =>
    intro n i hi h0 h1
    refine succ ?_
    simp only [token_amount.l0, amtFrom]
    rw [wrap_in (x := n * 10) (by omega) (by omega), wrap_in (x := n * 10 + (bt s i - 48) % 256) (by omega) (by omega), wrap_in (x := (i : Int) + 1) (by omega) (by omega)]
    refine ev_pos (by omega) (ev_pos (by omega) (ev_ite (fun a => now (by rw [if_pos a])) (fun a => ?_)))
    rw [if_neg a]
    exact ih _ (i + 1) (by omega) (by omega) (by omega)
theorem amount_ev (s : ByteArray) (hs : s.size ≤ 9223372036854775806) : Ev (fun k => token_amount.f k s) (amountS s) := by
  have tail : Ev (fun k => token_amount.j0 k s false) (amtFrom s 0 0 s.size) := by
    refine succ ?_
    simp only [token_amount.j0]
    exact ev_neg (by simp) (amount_l0 s hs s.size 0 0 (by omega) (by omega) (by omega))
  unfold token_amount.f amountS
  refine ev_ite (fun a => ev_pos (by omega) ?_) (fun a => ?_)
  · by_cases b : bt s 0 = 48
    · rw [if_pos ⟨by omega, b⟩, show (bt s 0 == 48) = true by rw [beq_iff_eq]; exact b]
      refine succ ?_
      simp only [token_amount.j0]
      exact ev_pos trivial (Ev.now _)
    · rw [if_neg (fun h => b h.2), show (bt s 0 == 48) = false by rw [beq_eq_false_iff_ne]; exact b]
      exact tail
  · rw [if_neg (fun h => a (by omega))]
    exact tail

/-! ### words -/
def memB (s : ByteArray) : Bool := wordsL.any fun w => w.data.toList == s.data.toList
def wd (i : Nat) : List UInt8 := (wordsL.getD i ByteArray.empty).data.toList
theorem wd_rise : ∀ j, j < 35 → ∀ i, i < j → wd i < wd j := by decide +kernel
theorem less_eq (a b : ByteArray) : cmp_Less_string.f a b = some (decide (a.data.toList < b.data.toList)) := by
  unfold cmp_Less_string.f cmp_isNaN_string.f
  simp only [Option.bind_some, bne_self_eq_false, Bool.false_eq_true, if_false, Go.Proofs.bytesLess_eq, ByteArray.toList_eq]
theorem bs_mid {a b : Int} (h0 : 0 ≤ a) (h1 : a < b) (h2 : b ≤ 35) : wrap64 ((IntKind.u64.wrap (wrap64 (a + b))) / 2) = (a + b) / 2 := by
  rw [wrap_in (x := a + b) (by omega) (by omega), show IntKind.u64.wrap (a + b) = a + b by simp [IntKind.wrap, IntKind.bits, IntKind.signed]; omega, wrap_in (by omega) (by omega)]
theorem memB_at {s : ByteArray} (i : Nat) (hi : i < 35) (h : wd i = s.data.toList) : memB s = true := by
  unfold memB
  rw [List.any_eq_true]
  have hl : i < wordsL.length := hi
  refine ⟨wordsL[i], List.getElem_mem hl, ?_⟩
  have e : wd i = wordsL[i].data.toList := by unfold wd; rw [List.getD_eq_getElem?_getD, List.getElem?_eq_getElem hl]; rfl
  rw [← e, h, beq_self_eq_true]
theorem memB_no {s : ByteArray} (h : ∀ i, i < 35 → wd i ≠ s.data.toList) : memB s = false := by
  rw [Bool.eq_false_iff]
  intro hm
  unfold memB at hm
  rw [List.any_eq_true] at hm
  obtain ⟨x, hx, he⟩ := hm
  obtain ⟨i, hi, rfl⟩ := List.getElem_of_mem hx
  have e : wd i = wordsL[i].data.toList := by unfold wd; rw [List.getD_eq_getElem?_getD, List.getElem?_eq_getElem hi]; rfl
  exact h i hi (by rw [e]; exact beq_iff_eq.1 he)
theorem search_l0 (s : ByteArray) (n : Nat) : ∀ a b : Nat, b ≤ 35 → a ≤ b → b - a ≤ n → (∀ i, i < a → wd i < s.data.toList) → (∀ i, b ≤ i → i < 35 → ¬ wd i < s.data.toList) → ∃ j : Int, Ev (fun k => slices_BinarySearch_string_string.l0 k wordsL s 35 a b) (j, memB s) := by
  induction n with
  | zero =>
    intro a b hb hab hn hlo hhi
    obtain rfl : a = b := by omega
    refine ⟨a, succ ?_⟩
    simp only [slices_BinarySearch_string_string.l0]
    refine ev_neg (by omega) ?_
    by_cases h35 : a < 35
    · refine ev_pos (by omega) (ev_pos (by omega) (ev_pos (by show (a : Int) < ((35 : Nat) : Int); omega) ?_))
      have e : (rdOf ByteArray.empty wordsL (a : Int)).toList = wd a := by unfold rdOf wd; rw [ByteArray.toList_eq, Int.toNat_natCast]
      rw [e, ByteArray.toList_eq]
      refine ev_ite (fun c => now (by rw [memB_at a h35 c])) (fun c => ev_some (a := false) (by unfold slices_isNaN_string.f; simp) (ev_neg (by simp) (now ?_)))
      rw [memB_no]
      intro i hi hc
      rcases Nat.lt_trichotomy i a with h | h | h
      · exact List.lt_irrefl _ (hc ▸ hlo i h)
      · exact c (h ▸ hc)
      · exact hhi a (Nat.le_refl _) h35 (hc ▸ wd_rise i hi a h)
    · refine ev_neg (by omega) (now ?_)
      rw [memB_no]
      intro i hi hc
      exact List.lt_irrefl _ (hc ▸ hlo i (by omega))
  | succ n ih =>
    intro a b hb hab hn hlo hhi
    by_cases h : a < b
    · obtain ⟨m, hm⟩ : ∃ m : Nat, m = (a + b) / 2 := ⟨_, rfl⟩
      have e : (rdOf ByteArray.empty wordsL (m : Int)).data.toList = wd m := by unfold rdOf wd; rw [Int.toNat_natCast]
      by_cases c : wd m < s.data.toList
      · obtain ⟨j, hj⟩ := ih (m + 1) b hb (by omega) (by omega) (fun i hi => by
          rcases Nat.lt_or_ge i m with h1 | h1
          · exact List.lt_trans (wd_rise m (by omega) i h1) c
          · obtain rfl : i = m := by omega
            exact c) hhi
        refine ⟨j, succ ?_⟩
        simp only [slices_BinarySearch_string_string.l0]
        rw [bs_mid (by omega) (by omega) (by omega), show ((a : Int) + b) / 2 = (m : Int) by omega, less_eq, e, decide_eq_true c, wrap_in (by omega) (by omega)]
        exact ev_pos (by omega) (ev_pos (by omega) (ev_pos (by show (m : Int) < ((35 : Nat) : Int); omega) (ev_some rfl (ev_pos rfl hj))))
      · obtain ⟨j, hj⟩ := ih a m (by omega) (by omega) (by omega) hlo (fun i hi h35 hc => by
          rcases Nat.lt_or_ge m i with h1 | h1
          · exact c (List.lt_trans (wd_rise i h35 m h1) hc)
          · obtain rfl : i = m := by omega
            exact c hc)
        refine ⟨j, succ ?_⟩
        simp only [slices_BinarySearch_string_string.l0]
        rw [bs_mid (by omega) (by omega) (by omega), show ((a : Int) + b) / 2 = (m : Int) by omega, less_eq, e, decide_eq_false c]
        exact ev_pos (by omega) (ev_pos (by omega) (ev_pos (by show (m : Int) < ((35 : Nat) : Int); omega) (ev_some rfl (ev_neg (by simp) hj))))
    · exact (ih a b hb hab (by omega) hlo hhi)
theorem search_ev (s : ByteArray) : ∃ j : Int, Ev (fun k => slices_BinarySearch_string_string.f k wordsL s) (j, memB s) :=
  search_l0 s 35 0 35 (by omega) (by omega) (by omega) (fun i hi => by omega) (fun i hi h35 => by omega)

/-! ### a run -/
/-- What a run is: its kind, and the error. -/
def runS (s : ByteArray) : Int × Int :=
  if spanN digI s 0 s.size = s.size then (2, amountS s) else if memB s = true then (0, 0) else if nameB s = true then (1, 0) else (1, 2)
def token_run.f (a0 : ByteArray) : Option (Int × Int) := if a0.size ≤ 9223372036854775806 then some (runS a0) else none
set_option maxHeartbeats 1000000 in
theorem token_run.calls (a0 : ByteArray) (r1 r2 : Int) (w : World) (hG : Gl w) (h : token_run.f a0 = some (r1, r2)) :
    Calls Tryd.prog 35 #[.string a0] w fun e w' => e = .returned (.tuple #[.int .i64 r1, .int .i64 r2]) ∧ Below w.heap.size w w' := by
  have hs : a0.size ≤ 9223372036854775806 := by
    unfold token_run.f at h
    split at h
    · assumption
    · cases h
  have hr : runS a0 = (r1, r2) := by unfold token_run.f at h; rw [if_pos hs] at h; exact Option.some.inj h
  clear h
  by_cases hd : spanN digI a0 0 a0.size = a0.size
  · obtain ⟨k, hk⟩ := amount_ev a0 hs
    have ha := hk k (Nat.le_refl _)
    rw [runS, if_pos hd] at hr
    simp only [Prod.mk.injEq] at hr
    obtain ⟨rfl, rfl⟩ := hr
    have HA := Aside0.mk ha
    have HD := Aside0.mk hd
    clear ha hk hd
    go_enter Tryd.func35, Tryd.ntmps35
    go_wp2_with fail
    (with_reducible refine (span_digit a0 _ hs).mono ?_)
    rintro e w' ⟨rfl, rfl⟩
    rw [HD.out]
    go_wp2_with fail
    (with_reducible refine (token_amount.calls k a0 _ _ HA.out).mono ?_)
    rintro e w' ⟨rfl, hdr⟩
    have hb := hdr.below
    clear hdr
    go_wp2_with fail
    go_ret2
    exact ⟨rfl, hb⟩
  · obtain ⟨j, k, hk⟩ := search_ev a0
    have hse := hk k (Nat.le_refl _)
    obtain ⟨A, c, hg1, hg2, hg3⟩ := hG
    rw [runS, if_neg hd] at hr
    have HS := Aside0.mk hse
    have HG := Aside0.mk hg3
    have HR := Aside0.mk hr
    have hlt : ((spanN digI a0 0 a0.size : Nat) : Int) ≠ (a0.size : Int) := by omega
    have hne : (((spanN digI a0 0 a0.size : Nat) : Int) == (a0.size : Int)) = false := beq_eq_false_iff_ne.2 hlt
    clear hse hk hg3 hr hd hlt
    obtain ⟨q, hq⟩ : ∃ q, spanN digI a0 0 a0.size = q := ⟨_, rfl⟩
    rw [hq] at hne
    have HQ := Aside0.mk hq
    clear hq
    go_enter Tryd.func35, Tryd.ntmps35
    go_wp2_with fail
    (with_reducible refine (span_digit a0 _ hs).mono ?_)
    rintro e w' ⟨rfl, rfl⟩
    rw [HQ.out]
    go_wp2_with fail
    (with_reducible refine (slices_BinarySearch_string_string.calls k A c wordsL a0 j (memB a0) _ HG.out hg2 HS.out).mono ?_)
    rintro e w1 ⟨rfl, hdr⟩
    have hb := hdr.below
    clear hdr
    by_cases hm : memB a0 = true
    · rw [hm]
      have e1 := HR.out
      rw [if_pos hm] at e1
      simp only [Prod.mk.injEq] at e1
      obtain ⟨rfl, rfl⟩ := e1
      clear hm
      go_wp2_with fail
      go_ret2
      exact ⟨rfl, hb⟩
    · rw [Bool.eq_false_iff.2 hm]
      have e1 := HR.out
      rw [if_neg hm] at e1
      have E1 := Aside0.mk e1
      clear e1 hm
      go_wp2_with fail
      (with_reducible refine (mark_Name.calls a0 (nameB a0) _ (by unfold mark_Name.f; rw [if_pos (by omega)])).mono ?_)
      rintro e w2 ⟨rfl, hdr2⟩
      have hb2 := below_then hb hb.size hdr2.below
      clear hdr2
      by_cases hn : nameB a0 = true
      · rw [hn]
        have e1 := E1.out
        rw [if_pos hn] at e1
        simp only [Prod.mk.injEq] at e1
        obtain ⟨rfl, rfl⟩ := e1
        clear hn
        go_wp2_with fail
        go_ret2
        exact ⟨rfl, hb2⟩
      · rw [Bool.eq_false_iff.2 hn]
        have e1 := E1.out
        rw [if_neg hn] at e1
        simp only [Prod.mk.injEq] at e1
        obtain ⟨rfl, rfl⟩ := e1
        clear hn
        go_wp2_with fail
        go_ret2
        exact ⟨rfl, hb2⟩

/-! ### the words, a byte in a text, texts joined -/
def token_Words.f : Option (List ByteArray) := some wordsL
set_option maxHeartbeats 1000000 in
theorem token_Words.calls (r : List ByteArray) (w : World) (hG : Gl w) (h : token_Words.f = some r) :
    Calls Tryd.prog 15 #[] w fun e w' => ∃ v0_ : Value, e = .returned (v0_) ∧ Kd.R Kd.string 9 w' w.heap.size (fun _ => True) v0_ r ∧ Below w.heap.size w w' := by
  obtain rfl : wordsL = r := Option.some.inj h
  obtain ⟨A, c, hg1, hg2, hg3⟩ := hG
  obtain ⟨ad, rfl, hat⟩ := hg3.2.2 (by decide)
  have hcell : ∀ j, j < wordsL.length → w.cell? (ad.add j) = some (.string (wordsL.getD j ByteArray.empty)) := by
    intro j hj
    obtain ⟨cs, _, hcs, hu⟩ := hat j _ (List.getElem?_eq_getElem hj)
    have e : cs = [.string wordsL[j]] := hcs
    have := hu 0 _ (by rw [e]; rfl)
    rw [List.getD_eq_getElem?_getD, List.getElem?_eq_getElem hj]
    simpa [show (Kd.string).sz = 1 from rfl] using this
  have hsp : ad.spot = none := World.cell?_spot (by have := hcell 0 (by decide); simpa [Addr.add] using this)
  obtain ⟨b, o, sp⟩ := ad
  obtain rfl : sp = none := hsp
  have hc2 : ∀ j, j < wordsL.length → w.cell? ⟨b, o + j, none⟩ = some (.string (wordsL.getD j ByteArray.empty)) := by
    intro j hj
    have := hcell j hj
    rwa [show (⟨b, o, none⟩ : Addr).add j = ⟨b, o + j, none⟩ by unfold Addr.add; split <;> simp_all] at this
  have HC := Aside0.mk hc2
  clear hcell hat hc2 hg3
  go_enter Tryd.func15, Tryd.ntmps15
  go_wp2_with fail
  (with_reducible refine (Tryd.slices_Clone_string b o wordsL.length c wordsL _ (Nat.le_refl _) (by decide) HC.out).mono ?_)
  rintro e w1 ⟨v, rfl, hown, _, hb⟩
  rw [List.take_length] at hown
  have HO := Aside0.mk hown
  clear hown
  go_wp2_with fail
  go_ret
  exact ⟨v, rfl, Kd.R_of_own (enc := Value.string) (h1 := fun _ => rfl) HO.out (fun _ _ => trivial), hb⟩
/-- The place of a byte in a text. -/
def strings_IndexByte.f (a0 : ByteArray) (a1 : Int) : Option Int := some (Lib.indexByte a0.data.toList a1.toNat.toUInt8)
theorem strings_IndexByte.calls (a0 : ByteArray) (a1 : Int) (r : Int) (w : World) (h : strings_IndexByte.f a0 a1 = some r) :
    Calls Tryd.prog 38 #[.string a0, .int .u8 a1] w fun e w' => e = .returned (.int .i64 r) ∧ Drawn0 w w' := by
  obtain rfl := Option.some.inj h
  refine (Tryd.strings_IndexByte a0 a1 w).mono ?_
  rintro e w' ⟨rfl, rfl⟩
  exact ⟨rfl, Drawn0.refl _⟩
def joinS (l : List ByteArray) (sep : ByteArray) : List UInt8 := Lib.join (l.map (·.data.toList)) sep.data.toList
def strings_Join.f (l0 : List ByteArray) (a1 : ByteArray) : Option ByteArray := if l0.length ≤ 140737488355328 ∧ (joinS l0 a1).length ≤ 140737488355328 then some ⟨(joinS l0 a1).toArray⟩ else none
theorem strings_Join.calls (A0 : Option Addr) (c0 : Nat) (l0 : List ByteArray) (a1 : ByteArray) (r : ByteArray) (w : World) (hr0 : Kd.C Kd.string w A0 l0.length l0) (hc0 : l0.length ≤ c0) (h : strings_Join.f l0 a1 = some r) :
    Calls Tryd.prog 31 #[.slice A0 l0.length c0, .string a1] w fun e w' => e = .returned (.string r) ∧ Below w.heap.size w w' := by
  unfold strings_Join.f at h
  split at h
  · rename_i hb
    obtain rfl := Option.some.inj h
    rcases Nat.eq_zero_or_pos l0.length with h0 | h0
    · rw [h0]
      obtain rfl : l0 = [] := List.eq_nil_of_length_eq_zero h0
      refine (Tryd.strings_Join_none A0 c0 a1 w).mono ?_
      rintro e w' ⟨rfl, rfl⟩
      exact ⟨rfl, Below.refl _ _⟩
    · obtain ⟨ad, rfl, hat⟩ := hr0.2.2 h0
      have hcell : ∀ j x, l0[j]? = some x → w.cell? (ad.add j) = some (.string x) := by
        intro j x hj
        obtain ⟨cs, _, hcs, hu⟩ := hat j _ hj
        have e : cs = [.string x] := hcs
        have := hu 0 _ (by rw [e]; rfl)
        simpa [show (Kd.string).sz = 1 from rfl] using this
      have h1 := hcell 0 _ (List.getElem?_eq_getElem h0)
      have h1' : w.cell? ad = some (.string l0[0]) := by simpa [Addr.add] using h1
      have hsp : ad.spot = none := World.cell?_spot h1'
      have hlt := World.block_lt_of_cell? _ _ h1'
      obtain ⟨b, o, sp⟩ := ad
      obtain rfl : sp = none := hsp
      refine Tryd.strings_Join b o c0 l0 a1 w (fun j x hj => ?_) hlt hb.1 hc0 hb.2
      have := hcell j x hj
      rwa [show (⟨b, o, none⟩ : Addr).add j = ⟨b, o + j, none⟩ by unfold Addr.add; split <;> simp_all] at this
  · cases h
end Go.Proofs.YtamgmceogjgijaaDoor.Ext
