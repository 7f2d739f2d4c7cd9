/- Contracts of the functions of the seat that take function values, read variables of Go's library, or hand closures on: mark.Name, math/bits.Div64, policy.onWay. -/
import Derived.Test.YtkjcblbpeoijhaaGx0
import Derived.Test.YtkjcblbpeoijhaaShelf
namespace Go.Proofs.Ytkjcblbpeoijhaa.Ext
set_option linter.unusedVariables false
open Go.RowKit Go.Proofs.YtkjcblbpeoijhaaW.PrintWords Go.Proofs.YtkjcblbpeoijhaaW.PrintLast Go.Proofs.YtkjcblbpeoijhaaW.PrintMore Go.Proofs.Ytkjcblbpeoijhaa.G

def lowI (c : Int) : Bool := if 97 ≤ c then decide (c ≤ 122) else false
def digI (c : Int) : Bool := if 48 ≤ c then decide (c ≤ 57) else false
def runI (c : Int) : Bool := lowI c || (digI c || c == 45)
set_option maxHeartbeats 400000 in
theorem lower_any (c : Int) (w : World) :
    Calls Try.prog 34 #[.int .u8 c] w fun e w' => e = .returned (.bool (lowI c)) ∧ w = w' := by
  by_cases a : 97 ≤ c
  all_goals
    go_enter Try.func34, Try.ntmps34
    go_wp2
    go_ret
    exact ⟨by simp [lowI]; omega, rfl⟩
set_option maxHeartbeats 400000 in
theorem digit_any (c : Int) (w : World) :
    Calls Try.prog 35 #[.int .u8 c] w fun e w' => e = .returned (.bool (digI c)) ∧ w = w' := by
  by_cases a : 48 ≤ c
  all_goals
    go_enter Try.func35, Try.ntmps35
    go_wp2
    go_ret
    exact ⟨by simp [digI]; omega, rfl⟩
set_option maxHeartbeats 400000 in
theorem name1_any (c : Int) (w : World) :
    Calls Try.prog 33 #[.int .u8 c] w fun e w' => e = .returned (.bool (runI c)) ∧ w = w' := by
  unfold runI
  by_cases a : lowI c = true
  · go_enter Try.func33, Try.ntmps33
    go_wp2_with (first | (go_at_call 34; refine (lower_any _ _).mono ?_; rintro e w' ⟨rfl, rfl⟩) | (go_at_call 35; refine (digit_any _ _).mono ?_; rintro e w' ⟨rfl, rfl⟩))
    go_ret
    exact ⟨by simp [a], rfl⟩
  · replace a := Bool.eq_false_iff.2 a
    by_cases b : digI c = true
    · go_enter Try.func33, Try.ntmps33
      go_wp2_with (first | (go_at_call 34; refine (lower_any _ _).mono ?_; rintro e w' ⟨rfl, rfl⟩) | (go_at_call 35; refine (digit_any _ _).mono ?_; rintro e w' ⟨rfl, rfl⟩))
      go_ret
      exact ⟨by simp [a, b], rfl⟩
    · replace b := Bool.eq_false_iff.2 b
      go_enter Try.func33, Try.ntmps33
      go_wp2_with (first | (go_at_call 34; refine (lower_any _ _).mono ?_; rintro e w' ⟨rfl, rfl⟩) | (go_at_call 35; refine (digit_any _ _).mono ?_; rintro e w' ⟨rfl, rfl⟩))
      go_ret
      exact ⟨by simp [a, b], rfl⟩

/-- All bytes of a text from place i on (d of them) are such as a name has. -/
def allFrom (s : ByteArray) : Nat → Nat → Bool
  | _, 0 => true
  | i, d + 1 => if runI (bt s i) = true then allFrom s (i + 1) d else false
def allR (s : ByteArray) : Bool := allFrom s 0 s.size
theorem allFrom_yes (s : ByteArray) (i d : Nat) (h : runI (bt s i) = true) : allFrom s i (d + 1) = allFrom s (i + 1) d := by simp [allFrom, h]
theorem allFrom_no (s : ByteArray) (i d : Nat) (h : runI (bt s i) = false) : allFrom s i (d + 1) = false := by simp [allFrom, h]
set_option maxHeartbeats 400000 in
theorem all_any (s : ByteArray) (w : World) (hs : s.size ≤ 9223372036854775807) :
    Calls Try.prog 32 #[.string s, .func (.func 33) #[] #[]] w fun e w' => e = .returned (.bool (allR s)) ∧ w = w' := by
  go_enter Try.func32, Try.ntmps32
  go_wp2
  go_loop [8] (fun i => ∃ k : Nat, k ≤ s.size ∧ i = .int .i64 k ∧ allFrom s k (s.size - k) = allR s) (fun i => s.size - (intOf i).toNat)
  case atStart => exact ⟨0, Nat.zero_le _, rfl, rfl⟩
  case round =>
    obtain ⟨k, hk, rfl, hall⟩ := hrel
    have HA := Aside0.mk hall
    clear hall
    by_cases hlt : k < s.size
    · have hb : ((s[k]'hlt).toNat : Int) = bt s k := bt_at s k (by simpa using hlt)
      have HB := Aside0.mk hb
      clear hb
      obtain ⟨d, hd⟩ : ∃ d, s.size - k = d + 1 := ⟨s.size - k - 1, by omega⟩
      have HD := Aside0.mk hd
      clear hd
      go_wp2_with (first | (go_at_call 33; refine (name1_any _ _).mono ?_; rintro e w' ⟨rfl, rfl⟩))
      · have hr : (!runI ↑s[k].toNat) = true := by assumption
        rw [HB.out] at hr
        have e1 := HA.out
        rw [HD.out, allFrom_no s k d (by simpa using hr)] at e1
        go_ret
        exact ⟨by rw [← e1]; rfl, rfl⟩
      · have hr : (!runI ↑s[k].toNat) = false := by assumption
        rw [HB.out] at hr
        have e1 := HA.out
        rw [HD.out, allFrom_yes s k d (by simpa using hr)] at e1
        have e2 : s.size - (k + 1) = d := by have := HD.out; omega
        go_round
        case rel => exact ⟨k + 1, by omega, by go_num, by rw [e2]; exact e1⟩
        case measure => simp [intOf]; omega
    · go_wp2
      go_ret
      exact ⟨by rw [← HA.out]; simp [show s.size - k = 0 by omega, allFrom], rfl⟩

/-- Is a text a name? -/
def nameB (s : ByteArray) : Bool := if 1 ≤ s.size then (if s.size ≤ 16 then allR s else false) else false
def mark_Name.f (a0 : ByteArray) : Option Bool := if a0.size ≤ 9223372036854775807 then some (nameB a0) else none
set_option maxHeartbeats 400000 in
theorem mark_Name.calls (a0 : ByteArray) (r : Bool) (w : World) (h : mark_Name.f a0 = some r) :
    Calls Try.prog 24 #[.string a0] w fun e w' => e = .returned (.bool r) ∧ Drawn0 w w' := by
  have hs : a0.size ≤ 9223372036854775807 := by
    unfold mark_Name.f at h
    split at h
    · assumption
    · cases h
  obtain rfl : nameB a0 = r := by simpa [mark_Name.f, hs] using h
  clear h
  by_cases h1 : 1 ≤ a0.size
  · by_cases h2 : a0.size ≤ 16
    · have HN := Aside0.mk (show nameB a0 = allR a0 by simp [nameB, h1, h2])
      go_enter Try.func24, Try.ntmps24
      go_wp2_with (first | (go_at_call 32; refine (all_any _ _ hs).mono ?_; rintro e w' ⟨rfl, rfl⟩))
      go_ret
      exact ⟨by rw [HN.out]; rfl, Drawn0.refl _⟩
    · have HN := Aside0.mk (show nameB a0 = false by simp [nameB, h2])
      go_enter Try.func24, Try.ntmps24
      go_wp2_with fail
      go_ret
      exact ⟨by rw [HN.out]; rfl, Drawn0.refl _⟩
  · have HN := Aside0.mk (show nameB a0 = false by simp [nameB, h1])
    go_enter Try.func24, Try.ntmps24
    go_wp2_with fail
    go_ret
    exact ⟨by rw [HN.out]; rfl, Drawn0.refl _⟩
set_option maxHeartbeats 400000 in
theorem at1_any (x : S47) (s : ByteArray) (pc : Addr) (w : World) (hcell : w.cell? pc = some (.string s)) :
    Calls Try.prog 40 #[.agg #[.string x.f0, .string x.f1, .string x.f2, .string x.f3, .int .i64 x.f4], .pointer (some pc)] w fun e w' => e = .returned (.bool (x.f3.toList == s.toList)) ∧ Below w.heap.size w w' := by
  have hc2 : ∀ o, (w.alloc o).cell? pc = some (.string s) := fun o => pw_cell_below (below_alloc (Below.refl _ _) o) hcell
  clear hcell
  go_enter Try.func40, Try.ntmps40
  go_wp2
  go_ret
  exact ⟨rfl, (Below.refl _ _).alloc (Nat.le_refl _) _⟩
set_option maxHeartbeats 400000 in
theorem at_any (s : ByteArray) (w : World) :
    Calls Try.prog 38 #[.string s] w fun e w' => e = .returned (.func (.func 40) #[] #[.pointer (some ⟨w.heap.size, 0, none⟩)]) ∧ w' = w.alloc (.cells #[.string s] 9) := by
  go_enter Try.func38, Try.ntmps38
  go_wp2
  go_ret
  exact ⟨rfl, rfl⟩
theorem ret_int {k : IntKind} {a b : Int} (h : a = b) : Ending.returned (.int k a) = .returned (.int k b) := by rw [h]
/-- The place of the first hand from place i on (d are left) that is at s; -1: there is none. -/
def findH (s : ByteArray) (l : List S47) : Nat → Nat → Int
  | _, 0 => -1
  | i, d + 1 => if ((rd_T47 l i).f3.toList == s.toList) = true then i else findH s l (i + 1) d
theorem findH_yes (s : ByteArray) (l : List S47) (i d : Nat) (h : ((rd_T47 l i).f3.toList == s.toList) = true) : findH s l i (d + 1) = i := by simp [findH, h]
theorem findH_no (s : ByteArray) (l : List S47) (i d : Nat) (h : ((rd_T47 l i).f3.toList == s.toList) = false) : findH s l i (d + 1) = findH s l (i + 1) d := by simp [findH, h]
set_option maxHeartbeats 400000 in
theorem index_any (s : ByteArray) (pc : Addr) (A : Option Addr) (c : Nat) (l : List S47) (w : World) (hcell : w.cell? pc = some (.string s)) (hr : Kd.C k47 w A l.length l) (hn : l.length ≤ 9223372036854775807) :
    Calls Try.prog 37 #[.slice A l.length c, .func (.func 40) #[] #[.pointer (some pc)]] w fun e w' => e = .returned (.int .i64 (findH s l 0 l.length)) ∧ Below w.heap.size w w' := by
  have HR := Aside0.mk hr
  have HC := Aside0.mk hcell
  clear hr hcell
  go_enter Try.func37, Try.ntmps37
  go_wp2
  go_loopw [8] (fun i wr => ∃ k : Nat, k ≤ l.length ∧ i = .int .i64 k ∧ findH s l k (l.length - k) = findH s l 0 l.length ∧ Below w.heap.size w wr) (fun i _ => l.length - (intOf i).toNat)
  case atStart => exact ⟨0, Nat.zero_le _, rfl, rfl, Below.refl _ _⟩
  case round =>
    obtain ⟨k, hk, rfl, hall, hb⟩ := hrel
    have HA := Aside0.mk hall
    have HB := Aside0.mk hb
    clear hall hb
    by_cases hlt : k < l.length
    · obtain ⟨d, hd⟩ : ∃ d, l.length - k = d + 1 := ⟨l.length - k - 1, by omega⟩
      have HD := Aside0.mk hd
      clear hd
      obtain ⟨ad, rfl, c0, c1, c2, c3, c4⟩ := at_T47 (Kd.C_below HR.out HB.out) k (by omega) (by omega)
      simp only [Int.toNat_natCast] at c0 c1 c2 c3 c4
      go_wp2_with (first | (go_at_call 40; refine (at1_any (rd_T47 l k) s pc _ (pw_cell_below HB.out HC.out)).mono ?_; rintro e w' ⟨rfl, hb1⟩))
      · have hr : ((rd_T47 l ↑k).f3.toList == s.toList) = true := by assumption
        have e1 := HA.out
        rw [HD.out, findH_yes s l k d hr] at e1
        go_ret
        exact ⟨ret_int (by rw [← e1]), HB.out.trans (hb1.mono HB.out.size)⟩
      · have hr : ((rd_T47 l ↑k).f3.toList == s.toList) = false := by assumption
        have e1 := HA.out
        rw [HD.out, findH_no s l k d hr] at e1
        have e2 : l.length - (k + 1) = d := by have := HD.out; omega
        go_roundw
        case rel => exact ⟨k + 1, by omega, by go_num, by rw [e2]; exact e1, HB.out.trans (hb1.mono HB.out.size)⟩
        case measure => simp [intOf]; omega
    · go_wp2
      go_ret
      exact ⟨ret_int (by rw [← HA.out, show l.length - k = 0 by omega]; rfl), HB.out⟩

theorem findH_range (s : ByteArray) (l : List S47) (d : Nat) : ∀ i, findH s l i d = -1 ∨ ((i : Int) ≤ findH s l i d ∧ findH s l i d < ((i + d : Nat) : Int)) := by
  induction d with
  | zero => intro i; exact .inl rfl
  | succ d ih =>
    intro i
    by_cases h : ((rd_T47 l i).f3.toList == s.toList) = true
    · rw [findH_yes s l i d h]; right; omega
    · rw [findH_no s l i d (Bool.eq_false_iff.2 h)]
      rcases ih (i + 1) with h1 | h1
      · exact .inl h1
      · right; omega
def onWayB (fr too : ByteArray) (l : List S47) (day : Int) : Bool :=
  if findH fr l 0 l.length < 0 then false
  else if day < (rd_T47 l (findH fr l 0 l.length)).f4 then false
  else if findH too (l.drop (findH fr l 0 l.length + 1).toNat) 0 (l.drop (findH fr l 0 l.length + 1).toNat).length < 0 then true
  else decide (day ≤ (rd_T47 (l.drop (findH fr l 0 l.length + 1).toNat) (findH too (l.drop (findH fr l 0 l.length + 1).toNat) 0 (l.drop (findH fr l 0 l.length + 1).toNat).length)).f4)
theorem bl {w W w1 : World} (h : Below w.heap.size w W) (k : Below W.heap.size W w1) : Below w.heap.size w w1 := h.trans (k.mono h.size)
theorem info47 : (Try.prog.info? 47).map (fun i => (i.zero, i.size, i.bytes)) = some (some (.agg #[.string ⟨#[]⟩, .string ⟨#[]⟩, .string ⟨#[]⟩, .string ⟨#[]⟩, .int .i64 0]), 5, 72) := by kernel_rfl
theorem ret_bool {a b : Bool} (h : a = b) : Ending.returned (.bool a) = .returned (.bool b) := by rw [h]
set_option maxHeartbeats 1000000 in
set_option maxRecDepth 100000 in
theorem onway (a0_0 a0_1 a0_2 : ByteArray) (a0_3 a0_4 : Int) (A0_5 : Option Addr) (c0_5 n5 : Nat) (a0_6 a0_7 a0_8 : Int) (A1 : Option Addr) (c1 : Nat) (l1 : List S47) (a2 : Int) (w : World) (hr1 : Kd.C k47 w A1 l1.length l1) (hc1 : l1.length ≤ c1) (hn : l1.length ≤ 9223372036854775806) (b : Int) (hb : findH a0_1 l1 0 l1.length = b) (rest : List S47) (hrest : l1.drop (b + 1).toNat = rest) (q : Int) (hq : findH a0_2 rest 0 rest.length = q) :
    Calls Try.prog 27 #[.agg #[.string a0_0, .string a0_1, .string a0_2, .int .i64 a0_3, .int .i64 a0_4, .slice A0_5 n5 c0_5, .int .i64 a0_6, .int .i64 a0_7, .int .i64 a0_8], .slice A1 l1.length c1, .int .i64 a2] w fun e w' => e = .returned (.bool (onWayB a0_1 a0_2 l1 a2)) ∧ Below w.heap.size w w' := by
  have HR := Aside0.mk hr1
  have HBB := Aside0.mk hb
  have HRE := Aside0.mk hrest
  have HQ := Aside0.mk hq
  have hrg := findH_range a0_1 l1 l1.length 0
  rw [hb] at hrg
  have hrq := findH_range a0_2 rest rest.length 0
  rw [hq] at hrq
  have HP := Aside0.mk (show onWayB a0_1 a0_2 l1 a2 = (if b < 0 then false else if a2 < (rd_T47 l1 b).f4 then false else if q < 0 then true else decide (a2 ≤ (rd_T47 rest q).f4)) by unfold onWayB; rw [hb, hrest, hq])
  clear hr1 hb hq
  have hu24 := Try.underlying24
  rcases hrg with rfl | ⟨h0, h1⟩
  · go_enter Try.func27, Try.ntmps27
    go_wp2_with fail
    refine (at_any _ _).mono ?_
    rintro e w1 ⟨rfl, rfl⟩
    go_wp2_with fail
    refine (index_any a0_1 _ A1 c1 l1 _ (by simp) (Kd.C_below HR.out (below_alloc (below_alloc (Below.refl _ _) _) _)) (by omega)).mono ?_
    rintro e w1 ⟨rfl, hb1⟩
    rw [HBB.out]
    go_wp2_with fail
    go_ret
    exact ⟨ret_bool (by rw [HP.out]; rfl), bl (below_alloc (below_alloc (Below.refl _ _) _) _) hb1⟩
  · have hlen : rest.length = l1.length - (b + 1).toNat := by rw [← hrest, List.length_drop]
    obtain ⟨i0, hi0, hzz⟩ := Option.map_eq_some_iff.1 info47
    simp only [Prod.mk.injEq] at hzz
    obtain ⟨_, hsz, _⟩ := hzz
    have hcut := cut_from (P := Try.prog) 35 47 .i64 Try.underlying35 hi0 5 hsz A1 l1.length c1 (b + 1) (by omega) (by omega)
    obtain ⟨A2, hA2⟩ : ∃ A', A' = (if c1 = (b + 1).toNat then A1 else A1.map (·.add ((b + 1).toNat * 5))) := ⟨_, rfl⟩
    rw [← hA2] at hcut
    have HA2 := Aside0.mk hA2
    clear hA2 hi0 hsz
    have HR2 : Aside0 (∀ W, Kd.C k47 W A1 l1.length l1 → Kd.C k47 W A2 rest.length rest) := ⟨fun W hW => by
      have h := Kd.C_drop (m := (b + 1).toNat) (c := c1) hW (by omega) hc1
      rw [← HRE.out, HA2.out]
      exact h⟩
    clear hrest HA2
    have HLE := Aside0.mk hlen
    clear hlen
    go_enter Try.func27, Try.ntmps27
    go_wp2_with fail
    refine (at_any _ _).mono ?_
    rintro e w1 ⟨rfl, rfl⟩
    go_wp2_with fail
    refine (index_any a0_1 _ A1 c1 l1 _ (by simp) (Kd.C_below HR.out (below_alloc (below_alloc (Below.refl _ _) _) _)) (by omega)).mono ?_
    rintro e w1 ⟨rfl, hb1⟩
    have hW := bl (below_alloc (below_alloc (Below.refl _ _) _) _) hb1
    have hbx := pw_cell_below hb1 (a := ⟨w.heap.size, 2, none⟩) (v := .string a0_2) (by simp)
    have HW := Aside0.mk hW
    clear hW hb1
    rw [HBB.out]
    obtain ⟨ad, rfl, x0, x1, x2, x3, x4⟩ := at_T47 (Kd.C_below HR.out HW.out) b h0 (by omega)
    clear x0 x1 x2 x3
    by_cases hday : a2 < (rd_T47 l1 b).f4
    · go_wp2_with fail
      go_ret
      exact ⟨ret_bool (by rw [HP.out, if_neg (by omega), if_pos hday]), HW.out⟩
    · go_wp2_with fail
      refine (at_any _ _).mono ?_
      rintro e w2 ⟨rfl, rfl⟩
      go_wp2_with fail
      rw [show l1.length - (b + 1).toNat = rest.length from HLE.out.symm]
      refine (index_any a0_2 _ A2 _ rest _ (by simp) (HR2.out _ (Kd.C_below HR.out (below_alloc HW.out _))) (by have := HLE.out; omega)).mono ?_
      rintro e w2 ⟨rfl, hb2⟩
      have hW2 := bl (below_alloc HW.out _) hb2
      have HW2 := Aside0.mk hW2
      clear hW2 hb2 HW
      rw [HQ.out]
      rcases hrq with rfl | ⟨hq0, hq1⟩
      · go_wp2_with fail
        go_ret
        exact ⟨ret_bool (by rw [HP.out, if_neg (by omega), if_neg (Int.not_lt.2 hday)]; rfl), HW2.out⟩
      · obtain ⟨ad2, rfl, x0, x1, x2, x3, x4⟩ := at_T47 (HR2.out _ (Kd.C_below HR.out HW2.out)) q hq0 (by omega)
        clear x0 x1 x2 x3
        by_cases hd2 : a2 ≤ (rd_T47 rest q).f4
        · go_wp2_with fail
          go_ret
          exact ⟨ret_bool (by rw [HP.out, if_neg (by omega), if_neg (Int.not_lt.2 hday), if_neg (by omega)]; exact (decide_eq_true (by omega)).symm), HW2.out⟩
        · go_wp2_with fail
          go_ret
          exact ⟨ret_bool (by rw [HP.out, if_neg (by omega), if_neg (Int.not_lt.2 hday), if_neg (by omega)]; simp; omega), HW2.out⟩
/-- As of a day, by hands: is a box on its way? -/
def policy_onWay.f (a0_0 a0_1 a0_2 : ByteArray) (a0_3 a0_4 : Int) (l0_5 : List Int) (a0_6 a0_7 a0_8 : Int) (l1 : List S47) (a2 : Int) : Option Bool := if l1.length ≤ 9223372036854775806 then some (onWayB a0_1 a0_2 l1 a2) else none
theorem policy_onWay.calls (a0_0 a0_1 a0_2 : ByteArray) (a0_3 a0_4 : Int) (A0_5 : Option Addr) (c0_5 : Nat) (l0_5 : List Int) (a0_6 a0_7 a0_8 : Int) (A1 : Option Addr) (c1 : Nat) (l1 : List S47) (a2 : Int) (r : Bool) (w : World) (hr0_5 : Kd.C (Kd.int .i64) w A0_5 l0_5.length l0_5) (hc0_5 : l0_5.length ≤ c0_5) (hr1 : Kd.C k47 w A1 l1.length l1) (hc1 : l1.length ≤ c1) (h : policy_onWay.f a0_0 a0_1 a0_2 a0_3 a0_4 l0_5 a0_6 a0_7 a0_8 l1 a2 = some r) :
    Calls Try.prog 27 #[.agg #[.string a0_0, .string a0_1, .string a0_2, .int .i64 a0_3, .int .i64 a0_4, .slice A0_5 l0_5.length c0_5, .int .i64 a0_6, .int .i64 a0_7, .int .i64 a0_8], .slice A1 l1.length c1, .int .i64 a2] w fun e w' => e = .returned (.bool r) ∧ Below w.heap.size w w' := by
  unfold policy_onWay.f at h
  split at h
  · obtain rfl := Option.some.inj h
    exact onway a0_0 a0_1 a0_2 a0_3 a0_4 A0_5 c0_5 l0_5.length a0_6 a0_7 a0_8 A1 c1 l1 a2 w hr1 hc1 (by omega) _ rfl _ rfl _ rfl
  · cases h
/-- math/bits.Mul64: both halves of the product. -/
def bits_Mul64.f (a0 a1 : Int) : Option (Int × Int) := if 0 ≤ a0 ∧ a0 < 18446744073709551616 ∧ 0 ≤ a1 ∧ a1 < 18446744073709551616 then some (a0 * a1 / 18446744073709551616, a0 * a1 % 18446744073709551616) else none
theorem bits_Mul64.calls (a0 : Int) (a1 : Int) (r1 : Int) (r2 : Int) (w : World) (h : bits_Mul64.f a0 a1 = some (r1, r2)) :
    Calls Try.prog 30 #[.int .u64 a0, .int .u64 a1] w fun e w' => e = .returned (.tuple #[.int .u64 r1, .int .u64 r2]) ∧ Drawn0 w w' := by
  unfold bits_Mul64.f at h
  split at h
  · rename_i hb
    simp only [Option.some.injEq, Prod.mk.injEq] at h
    obtain ⟨rfl, rfl⟩ := h
    obtain ⟨x, rfl⟩ := Int.eq_ofNat_of_zero_le hb.1
    obtain ⟨y, rfl⟩ := Int.eq_ofNat_of_zero_le hb.2.2.1
    refine (Try.bits_Mul64 x y (by omega) (by omega) w).mono ?_
    rintro e w' ⟨rfl, rfl⟩
    exact ⟨by simp, Drawn0.refl _⟩
  · cases h
/-- math/bits.LeadingZeros64. -/
def bits_LeadingZeros64.f (a0 : Int) : Option Int := if 0 ≤ a0 ∧ a0 ≤ 18446744073709551615 then some (64 - (Lib.bitLen a0.toNat : Int)) else none
theorem bits_LeadingZeros64.calls (a0 : Int) (r : Int) (w : World) (h : bits_LeadingZeros64.f a0 = some r) :
    Calls Try.prog 39 #[.int .u64 a0] w fun e w' => e = .returned (.int .i64 r) ∧ Drawn0 w w' := by
  unfold bits_LeadingZeros64.f at h
  split at h
  · rename_i hb
    obtain rfl := Option.some.inj h
    refine (Try.bits_LeadingZeros64 a0 w hb.1 hb.2).mono ?_
    rintro e w' ⟨rfl, rfl⟩
    exact ⟨rfl, Drawn0.refl _⟩
  · cases h
end Go.Proofs.Ytkjcblbpeoijhaa.Ext
