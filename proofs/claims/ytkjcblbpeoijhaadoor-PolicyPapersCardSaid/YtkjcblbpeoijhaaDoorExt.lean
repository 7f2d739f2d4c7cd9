/- Contracts of the functions of the seat that take function values, and of the library's. -/
import Derived.Test.YtkjcblbpeoijhaaDoorGx0
import Derived.Sort.Walk0
import Derived.Lib.LaidTab
import Derived.Lib.AppendIntMem
import Derived.Test.YtkjcblbpeoijhaaDoorShelf
namespace Go.Proofs.YtkjcblbpeoijhaaDoor.Ext
set_option linter.unusedVariables false
set_option linter.unusedSimpArgs false
open Go.RowKit Go.Proofs.YtkjcblbpeoijhaaDoorW.PrintWords Go.Proofs.YtkjcblbpeoijhaaDoorW.PrintLast Go.Proofs.YtkjcblbpeoijhaaDoorW.PrintMore Go.Proofs.YtkjcblbpeoijhaaDoor.G

def lowI (c : Int) : Bool := if 97 ≤ c then decide (c ≤ 122) else false
def digI (c : Int) : Bool := if 48 ≤ c then decide (c ≤ 57) else false
def runI (c : Int) : Bool := lowI c || (digI c || c == 45)
set_option maxHeartbeats 400000 in
theorem lower_any (c : Int) (w : World) :
    Calls Tryd.prog 28 #[.int .u8 c] w fun e w' => e = .returned (.bool (lowI c)) ∧ w = w' := by
  by_cases a : 97 ≤ c
  all_goals
    go_enter Tryd.func28, Tryd.ntmps28
    go_wp2
    go_ret
    exact ⟨by simp [lowI]; omega, rfl⟩
set_option maxHeartbeats 400000 in
theorem digit_any (c : Int) (w : World) :
    Calls Tryd.prog 29 #[.int .u8 c] w fun e w' => e = .returned (.bool (digI c)) ∧ w = w' := by
  by_cases a : 48 ≤ c
  all_goals
    go_enter Tryd.func29, Tryd.ntmps29
    go_wp2
    go_ret
    exact ⟨by simp [digI]; omega, rfl⟩
set_option maxHeartbeats 400000 in
theorem name1_any (c : Int) (w : World) :
    Calls Tryd.prog 27 #[.int .u8 c] w fun e w' => e = .returned (.bool (runI c)) ∧ w = w' := by
  unfold runI
  by_cases a : lowI c = true
  · go_enter Tryd.func27, Tryd.ntmps27
    go_wp2_with (first | (go_at_call 28; refine (lower_any _ _).mono ?_; rintro e w' ⟨rfl, rfl⟩) | (go_at_call 29; refine (digit_any _ _).mono ?_; rintro e w' ⟨rfl, rfl⟩))
    go_ret
    exact ⟨by simp [a], rfl⟩
  · replace a := Bool.eq_false_iff.2 a
    by_cases b : digI c = true
    · go_enter Tryd.func27, Tryd.ntmps27
      go_wp2_with (first | (go_at_call 28; refine (lower_any _ _).mono ?_; rintro e w' ⟨rfl, rfl⟩) | (go_at_call 29; refine (digit_any _ _).mono ?_; rintro e w' ⟨rfl, rfl⟩))
      go_ret
      exact ⟨by simp [a, b], rfl⟩
    · replace b := Bool.eq_false_iff.2 b
      go_enter Tryd.func27, Tryd.ntmps27
      go_wp2_with (first | (go_at_call 28; refine (lower_any _ _).mono ?_; rintro e w' ⟨rfl, rfl⟩) | (go_at_call 29; refine (digit_any _ _).mono ?_; rintro e w' ⟨rfl, rfl⟩))
      go_ret
      exact ⟨by simp [a, b], rfl⟩

/-- All bytes of a text from place i on (d of them) are such as a name has. -/
def allFrom (s : ByteArray) : Nat → Nat → Bool
  | _, 0 => true
  | i, d + 1 => if runI (bt s i) = true then allFrom s (i + 1) d else false
def allR (s : ByteArray) : Bool := allFrom s 0 s.size
theorem allFrom_yes (s : ByteArray) (i d : Nat) (h : runI (bt s i) = true) : allFrom s i (d + 1) = allFrom s (i + 1) d := by simp [allFrom, h]
theorem allFrom_no (s : ByteArray) (i d : Nat) (h : runI (bt s i) = false) : allFrom s i (d + 1) = false := by simp [allFrom, h]
set_option maxHeartbeats 400000 in
theorem all_any (s : ByteArray) (w : World) (hs : s.size ≤ 9223372036854775807) :
    Calls Tryd.prog 26 #[.string s, .func (.func 27) #[] #[]] w fun e w' => e = .returned (.bool (allR s)) ∧ w = w' := by
  go_enter Tryd.func26, Tryd.ntmps26
  go_wp2
  go_loop [8] (fun i => ∃ k : Nat, k ≤ s.size ∧ i = .int .i64 k ∧ allFrom s k (s.size - k) = allR s) (fun i => s.size - (intOf i).toNat)
  case atStart => exact ⟨0, Nat.zero_le _, rfl, rfl⟩
  case round =>
    obtain ⟨k, hk, rfl, hall⟩ := hrel
    have HA := Aside0.mk hall
    clear hall
    by_cases hlt : k < s.size
    · have hb : ((s[k]'hlt).toNat : Int) = bt s k := bt_at s k (by simpa using hlt)
      have HB := Aside0.mk hb
      clear hb
      obtain ⟨d, hd⟩ : ∃ d, s.size - k = d + 1 := ⟨s.size - k - 1, by omega⟩
      have HD := Aside0.mk hd
      clear hd
      go_wp2_with (first | (go_at_call 27; refine (name1_any _ _).mono ?_; rintro e w' ⟨rfl, rfl⟩))
      · have hr : (!runI ↑s[k].toNat) = true := by assumption
        rw [HB.out] at hr
        have e1 := HA.out
        rw [HD.out, allFrom_no s k d (by simpa using hr)] at e1
        go_ret
        exact ⟨by rw [← e1]; rfl, rfl⟩
      · have hr : (!runI ↑s[k].toNat) = false := by assumption
        rw [HB.out] at hr
        have e1 := HA.out
        rw [HD.out, allFrom_yes s k d (by simpa using hr)] at e1
        have e2 : s.size - (k + 1) = d := by have := HD.out; omega
        go_round
        case rel => exact ⟨k + 1, by omega, by go_num, by rw [e2]; exact e1⟩
        case measure => simp [intOf]; omega
    · go_wp2
      go_ret
      exact ⟨by rw [← HA.out]; simp [show s.size - k = 0 by omega, allFrom], rfl⟩

/-- Is a text a name? -/
def nameB (s : ByteArray) : Bool := if 1 ≤ s.size then (if s.size ≤ 16 then allR s else false) else false
def mark_Name.f (a0 : ByteArray) : Option Bool := if a0.size ≤ 9223372036854775807 then some (nameB a0) else none
set_option maxHeartbeats 400000 in
theorem mark_Name.calls (a0 : ByteArray) (r : Bool) (w : World) (h : mark_Name.f a0 = some r) :
    Calls Tryd.prog 15 #[.string a0] w fun e w' => e = .returned (.bool r) ∧ Drawn0 w w' := by
  have hs : a0.size ≤ 9223372036854775807 := by
    unfold mark_Name.f at h
    split at h
    · assumption
    · cases h
  obtain rfl : nameB a0 = r := by simpa [mark_Name.f, hs] using h
  clear h
  by_cases h1 : 1 ≤ a0.size
  · by_cases h2 : a0.size ≤ 16
    · have HN := Aside0.mk (show nameB a0 = allR a0 by simp [nameB, h1, h2])
      go_enter Tryd.func15, Tryd.ntmps15
      go_wp2_with (first | (go_at_call 26; refine (all_any _ _ hs).mono ?_; rintro e w' ⟨rfl, rfl⟩))
      go_ret
      exact ⟨by rw [HN.out]; rfl, Drawn0.refl _⟩
    · have HN := Aside0.mk (show nameB a0 = false by simp [nameB, h2])
      go_enter Tryd.func15, Tryd.ntmps15
      go_wp2_with fail
      go_ret
      exact ⟨by rw [HN.out]; rfl, Drawn0.refl _⟩
  · have HN := Aside0.mk (show nameB a0 = false by simp [nameB, h1])
    go_enter Tryd.func15, Tryd.ntmps15
    go_wp2_with fail
    go_ret
    exact ⟨by rw [HN.out]; rfl, Drawn0.refl _⟩
/-- The library's table of powers of ten. -/
structure Gl (W : World) : Prop where mk :: (out : Lib.TabIs Tryd.prog W "internal/strconv.uint64pow10" .u64 Lib.pow10Tab)
theorem gPow : Tryd.prog.globalNamed "internal/strconv.uint64pow10" = some 2 := by kernel_rfl
theorem var_below {P : Program} {w W : World} {s : String} {x : Array Value} {g : Nat} (hg : P.globalNamed s = some g) (h : w.var? P s = some x) (hb : Below w.heap.size w W) : W.var? P s = some x := by
  unfold World.var? at h ⊢
  rw [hg] at h ⊢
  simp only [Option.bind_some] at h ⊢
  have hlt : g < w.heap.size := by
    rcases Nat.lt_or_ge g w.heap.size with c | c
    · exact c
    · rw [Array.getElem?_eq_none c] at h; cases h
  rw [hb.block g hlt]
  exact h
theorem Gl.below {w W : World} (h : Gl w) (hb : Below w.heap.size w W) : Gl W := ⟨var_below gPow h.out hb⟩
def strconv_FormatInt.f (a0 a1 : Int) : Option ByteArray := if a1 = 10 ∧ -9223372036854775808 ≤ a0 ∧ a0 ≤ 9223372036854775807 then some ⟨(Lib.itoa a0).toArray⟩ else none
theorem strconv_FormatInt.calls (a0 : Int) (a1 : Int) (r : ByteArray) (w : World) (hG : Gl w) (h : strconv_FormatInt.f a0 a1 = some r) :
    Calls Tryd.prog 30 #[.int .i64 a0, .int .i64 a1] w fun e w' => e = .returned (.string r) ∧ Below w.heap.size w w' := by
  unfold strconv_FormatInt.f at h
  split at h
  · rename_i hb
    obtain ⟨rfl, h0, h1⟩ := hb
    obtain rfl := Option.some.inj h
    refine (Tryd.strconv_FormatInt_10 a0 h0 h1 w hG.out).mono ?_
    rintro e w' ⟨rfl, k, os, rfl⟩
    exact ⟨rfl, Lib.below_grow _ _ (Nat.le_refl _) _ _⟩
  · cases h
def joinS (l : List ByteArray) (sep : ByteArray) : List UInt8 := Lib.join (l.map (·.data.toList)) sep.data.toList
def strings_Join.f (l0 : List ByteArray) (a1 : ByteArray) : Option ByteArray := if l0.length ≤ 140737488355328 ∧ (joinS l0 a1).length ≤ 140737488355328 then some ⟨(joinS l0 a1).toArray⟩ else none
theorem strings_Join.calls (A0 : Option Addr) (c0 : Nat) (l0 : List ByteArray) (a1 : ByteArray) (r : ByteArray) (w : World) (hr0 : Kd.C Kd.string w A0 l0.length l0) (hc0 : l0.length ≤ c0) (h : strings_Join.f l0 a1 = some r) :
    Calls Tryd.prog 18 #[.slice A0 l0.length c0, .string a1] w fun e w' => e = .returned (.string r) ∧ Below w.heap.size w w' := by
  unfold strings_Join.f at h
  split at h
  · rename_i hb
    obtain rfl := Option.some.inj h
    rcases Nat.eq_zero_or_pos l0.length with h0 | h0
    · rw [h0]
      obtain rfl : l0 = [] := List.eq_nil_of_length_eq_zero h0
      refine (Tryd.strings_Join_none A0 c0 a1 w).mono ?_
      rintro e w' ⟨rfl, rfl⟩
      exact ⟨rfl, Below.refl _ _⟩
    · obtain ⟨ad, rfl, hat⟩ := hr0.2.2 h0
      have hcell : ∀ j x, l0[j]? = some x → w.cell? (ad.add j) = some (.string x) := by
        intro j x hj
        obtain ⟨cs, _, hcs, hu⟩ := hat j _ hj
        have e : cs = [.string x] := hcs
        have := hu 0 _ (by rw [e]; rfl)
        simpa [show (Kd.string).sz = 1 from rfl] using this
      have h1 := hcell 0 _ (List.getElem?_eq_getElem h0)
      have h1' : w.cell? ad = some (.string l0[0]) := by simpa [Addr.add] using h1
      have hsp : ad.spot = none := World.cell?_spot h1'
      have hlt := World.block_lt_of_cell? _ _ h1'
      obtain ⟨b, o, sp⟩ := ad
      obtain rfl : sp = none := hsp
      refine Tryd.strings_Join b o c0 l0 a1 w (fun j x hj => ?_) hlt hb.1 hc0 hb.2
      have := hcell j x hj
      rwa [show (⟨b, o, none⟩ : Addr).add j = ⟨b, o + j, none⟩ by unfold Addr.add; split <;> simp_all] at this
  · cases h
theorem name_yes (s : ByteArray) (w : World) (h : nameB s = true) (hs : s.size ≤ 9223372036854775807) : Calls Tryd.prog 15 #[.string s] w fun e w' => e = .returned (.bool true) ∧ Drawn0 w w' :=
  mark_Name.calls s true w (by unfold mark_Name.f; rw [if_pos hs, h])
def supercargolaw42_awake.f : Option Bool := some true
end Go.Proofs.YtkjcblbpeoijhaaDoor.Ext
