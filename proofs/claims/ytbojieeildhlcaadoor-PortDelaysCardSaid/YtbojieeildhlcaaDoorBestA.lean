/- The legs of voyages, one behind the other: the iterator's contract. -/
import Derived.RangeFuncNested
import Derived.RangeFuncBound
import Derived.RangeFuncCalls
import Derived.RangeFuncLeaves
import Derived.RangeFuncWrites
import Derived.Shelf.Abstract
import Derived.OwnWalkIn
import Derived.TacticsInMore
import Derived.LoopNIn
import Derived.LoopIn
import Derived.Outline
import Derived.Test.YtbojieeildhlcaaDoorPortMay
namespace Go.Proofs.YtbojieeildhlcaaDoor.Port
open Go.RowKit Go.Shelf Go.Proofs.YtbojieeildhlcaaDoorW.PrintWords Go.Proofs.YtbojieeildhlcaaDoorW.PrintLast Go.Proofs.YtbojieeildhlcaaDoorW.PrintMore Go.Proofs.YtbojieeildhlcaaDoor.G Go.Proofs.YtbojieeildhlcaaDoor.Ext
set_option linter.unusedVariables false
set_option linter.unusedSimpArgs false

/-! ### the legs, plain -/
def vy (l : List S35) (i : Nat) : S35 := rd_T35 l (i : Nat)
abbrev V (l : List S35) := { p : Nat × Nat × Nat // p.1 < l.length ∧ p.2.1 < p.2.2 ∧ p.2.2 < (vy l p.1).f1.length ∧ mayB (vy l p.1) = true }
def ids {l : List S35} (p : V l) : Array Value := #[.agg #[.int .i64 (p.1.1 : Nat), .int .i64 (p.1.2.1 : Nat), .int .i64 (p.1.2.2 : Nat)]]
def vt (i f m : Nat) : List (Nat × Nat × Nat) := (List.range' (f + 1) m).map fun t => (i, f, t)
def vf (i n f : Nat) : List (Nat × Nat × Nat) := (List.range f).flatMap fun g => vt i g (n - (g + 1))
def vg (l : List S35) (i : Nat) : List (Nat × Nat × Nat) := if mayB (vy l i) = true then vf i (vy l i).f1.length (vy l i).f1.length else []
def va (l : List S35) (k : Nat) : List (Nat × Nat × Nat) := (List.range k).flatMap (vg l)
theorem vt_succ (i f m : Nat) : vt i f (m + 1) = vt i f m ++ [(i, f, f + 1 + m)] := by
  unfold vt
  rw [List.range'_concat, List.map_append, Nat.one_mul]; rfl
theorem vf_succ (i n f : Nat) : vf i n (f + 1) = vf i n f ++ vt i f (n - (f + 1)) := by
  unfold vf
  rw [List.range_succ, List.flatMap_append]; simp
theorem va_succ (l : List S35) (k : Nat) : va l (k + 1) = va l k ++ vg l k := by
  unfold va
  rw [List.range_succ, List.flatMap_append]; simp
theorem vt_len (i f m : Nat) : (vt i f m).length = m := by simp [vt]
theorem vf_len (i n f : Nat) : (vf i n f).length ≤ f * n := by
  induction f with
  | zero => simp [vf]
  | succ f ih => rw [vf_succ, List.length_append, vt_len, Nat.succ_mul]; omega
theorem may_len {v : S35} (h : mayB v = true) : 1 ≤ v.f1.length ∧ v.f1.length ≤ 64 := by
  unfold mayB at h
  simp only [Bool.and_eq_true, decide_eq_true_eq] at h
  exact ⟨h.2.1, h.2.2.1⟩
theorem vg_len (l : List S35) (i : Nat) : (vg l i).length ≤ 4096 := by
  unfold vg
  split
  · rename_i h
    have h1 := vf_len i (vy l i).f1.length (vy l i).f1.length
    have h2 := (may_len h).2
    have h3 : (vy l i).f1.length * (vy l i).f1.length ≤ 64 * 64 := Nat.mul_le_mul h2 h2
    omega
  · simp
theorem va_len (l : List S35) (k : Nat) : (va l k).length ≤ 4096 * k := by
  induction k with
  | zero => simp [va]
  | succ k ih =>
    have := vg_len l k
    rw [va_succ, List.length_append]; omega

/-! ### cells that are kept -/
def CK (W W' : World) : Prop := W.heap.size ≤ W'.heap.size ∧ ∀ a v, W.cell? a = some v → W'.cell? a = some v
theorem CK.refl (W : World) : CK W W := ⟨Nat.le_refl _, fun _ _ h => h⟩
theorem CK.trans {A B C : World} (h : CK A B) (k : CK B C) : CK A C := ⟨Nat.le_trans h.1 k.1, fun a v e => k.2 a v (h.2 a v e)⟩
theorem CK.below {W W' : World} (h : Below W.heap.size W W') : CK W W' := ⟨h.size, fun a v e => (h.cell (World.block_lt_of_cell? _ _ e)).trans e⟩
theorem CK.grown {W W' : World} {row : Option Nat} (h : W.grownBy W' row) (hr : ∀ r, row = some r → ∃ o : Obj, W.heap[r]? = some o ∧ o.isCells = false) : CK W W' :=
  ⟨h.size, fun a v e => cell_kept e h hr⟩
theorem below_grown {w w' : World} (hb : Below w.heap.size w w') : w.grownBy w' none := ⟨hb.os, hb.tape, hb.output, hb.size, fun i hi _ => hb.block i hi⟩
theorem ck_alloc (W : World) (o : Obj) : CK W (W.alloc o) := CK.grown (World.grownBy_alloc W o none) (fun r h => by cases h)
theorem ck_b {w : World} (W : World) (l : Nat) (o o' : Obj) (_ : w.heap.size ≤ l) (h : W.heap[l]? = some o) (ho : o.isCells = false) (_ : o.isWalk = false) : CK W (W.putObj l o') :=
  CK.grown (grownBy_putObj' W l o') (fun r e => by cases e; exact ⟨o, h, ho⟩)
theorem C32_ck {W W' : World} {A : Option Addr} {n : Nat} {xs : List S32} (h : Kd.C k32 W A n xs) (hk : CK W W') : Kd.C k32 W' A n xs :=
  ⟨h.1, h.2.1, fun hp => by
    obtain ⟨ad, e, hat⟩ := h.2.2 hp
    refine ⟨ad, e, fun j p hj => ?_⟩
    obtain ⟨cs, hl, hK, hc⟩ := hat j p hj
    exact ⟨cs, hl, by rw [k32_open hK]; exact k32_mk W' p, fun i u hu => hk.2 _ _ (hc i u hu)⟩⟩
theorem C30_ck {W W' : World} {A : Option Addr} {n : Nat} {xs : List S30} (h : Kd.C k30 W A n xs) (hk : CK W W') : Kd.C k30 W' A n xs :=
  ⟨h.1, h.2.1, fun hp => by
    obtain ⟨ad, e, hat⟩ := h.2.2 hp
    refine ⟨ad, e, fun j p hj => ?_⟩
    obtain ⟨cs, hl, hK, hc⟩ := hat j p hj
    exact ⟨cs, hl, by rw [k30_open hK]; exact k30_mk W' p, fun i u hu => hk.2 _ _ (hc i u hu)⟩⟩
theorem C35_ck {W W' : World} {A : Option Addr} {n : Nat} {xs : List S35} (h : Kd.C k35 W A n xs) (hk : CK W W') : Kd.C k35 W' A n xs :=
  ⟨h.1, h.2.1, fun hp => by
    obtain ⟨ad, e, hat⟩ := h.2.2 hp
    refine ⟨ad, e, fun j p hj => ?_⟩
    obtain ⟨cs, hl, hK, hc⟩ := hat j p hj
    obtain ⟨A1, c1, rfl, l1, g1⟩ := k35_open hK
    exact ⟨_, hl, k35_mk W' p l1 (C32_ck g1 hk), fun i u hu => hk.2 _ _ (hc i u hu)⟩⟩

attribute [local go_sem] Oper.semAt_some

set_option maxRecDepth 100000 in
set_option maxHeartbeats 2000000 in
theorem legs1_in (n : Nat) (hn : 1 ≤ n) (l : List S35) (lp Bn c : Nat) (A : Option Addr) (hl : l.length ≤ 1000) (J Jx : List (V l) → World → Prop)
    (hJ : ∀ pre W W', J pre W → W.grownBy W' none → J pre W')
    (hY : ∀ pre x W1, J pre W1 → pre.length < 1000000000 → YieldAt Fence.wide (n - 1) Tryd.prog lp (ids x) W1 fun e W' => (e = .returned (.bool true) ∧ J (pre ++ [x]) W' ∧ CK W1 W') ∨ (e = .returned (.bool false) ∧ Jx (pre ++ [x]) W'))
    (W : World) (hBn : W.cell? ⟨Bn, 0, none⟩ = some (.slice A l.length c)) (hC : Kd.C k35 W A l.length l) (h0 : J [] W) :
    CallsIn Fence.wide n Tryd.prog 35 #[.func (.yield lp) #[] #[], .pointer (some ⟨Bn, 0, none⟩)] W fun e W' => (∃ v, e = .returned v) ∧ ((∃ xs : List (V l), xs.map (·.1) = va l l.length ∧ J xs W') ∨ (∃ pre, True ∧ Jx pre W')) := by
  have hC0 := Aside0.mk hC
  clear hC
  refine callsIn_of_wp Tryd.func35 rfl trivial ?_ rfl
  simp only [Tryd.ntmps35, List.size_toArray, List.length_cons, List.length_nil, Nat.reduceAdd, Nat.reduceSub, Array.replicate_succ, Array.replicate_zero, List.push_toArray, List.append_toArray, List.nil_append, List.cons_append]
  gi_wp2
  gi_loopw [9] (fun i wr => ∃ (k : Nat) (pre : List (V l)), k ≤ l.length ∧ i = .int .i64 k ∧ Aside0 (pre.map (·.1) = va l k) ∧ J pre wr ∧ CK W wr) (fun i _ => l.length - (intOf i).toNat)
  case atStart => exact ⟨0, [], Nat.zero_le _, rfl, ⟨rfl⟩, h0, CK.refl _⟩
  case round =>
    obtain ⟨k, pre, hk, rfl, hpre, hJs, hck⟩ := hrel
    by_cases hlt : k < l.length
    · have hC1 := C35_ck hC0.out hck
      obtain ⟨ad, A1, c1, e, hx0, hx1, hl1, hi1⟩ := at_T35 hC1 (k : Int) (by omega) (by omega)
      cases e
      simp only [Int.toNat_natCast] at hx0 hx1
      obtain ⟨kk, hkk⟩ := may_ev (vy l k)
      have hM := Aside0.mk (hkk kk (Nat.le_refl _))
      have HI := Aside0.mk hi1
      have HL := Aside0.mk hl1
      clear hC1 hkk hi1 hl1
      have hvy : vy l k = rd_T35 l (k : Nat) := rfl
      rw [← hvy] at hx0 hx1 HI HL
      have HV := Aside0.mk hvy
      clear hvy
      obtain ⟨bm, hbm⟩ : ∃ bm, mayB (vy l k) = bm := ⟨_, rfl⟩
      rw [hbm] at hM
      cases bm with
      | false =>
        gi_wp2_with (refine ⟨trivial, (callsIn_wide.2 (port_May.calls kk _ A1 c1 _ false _ (Kd.C_alloc HI.out _) HL.out hM.out)).mono ?_⟩; rintro e w1 ⟨rfl, hb⟩)
        refine ⟨⟨k + 1, pre, hlt, by push_cast; rfl, ⟨?_⟩, hJ pre _ _ (hJ pre _ _ hJs (World.grownBy_alloc _ _ _)) (below_grown hb), (hck.trans (ck_alloc _ _)).trans (CK.below hb)⟩, ?_⟩
        · rw [hpre.out, va_succ, vg, hbm]; simp
        · simp only [intOf]; omega
      | true =>
        have hlen := (may_len hbm).2
        gi_wp2_with (refine ⟨trivial, (callsIn_wide.2 (port_May.calls kk _ A1 c1 _ true _ (Kd.C_alloc HI.out _) HL.out hM.out)).mono ?_⟩; rintro e w1 ⟨rfl, hb⟩; have hbx : w1.cell? ⟨wr.heap.size, 1, none⟩ = some (.slice A1 (vy l k).f1.length c1) := (CK.below hb).2 _ _ (by simp [go_sem]); have hck1 := (hck.trans (ck_alloc _ _)).trans (CK.below hb); have hJ1 := hJ pre _ _ (hJ pre _ _ hJs (World.grownBy_alloc _ _ _)) (below_grown hb); clear hb hJs hck)
        gi_loopw [20] (fun i wx => ∃ (f : Nat) (pre : List (V l)), f ≤ (vy l k).f1.length ∧ i = .int .i64 f ∧ Aside0 (pre.map (·.1) = va l k ++ vf k (vy l k).f1.length f) ∧ J pre wx ∧ CK w1 wx) (fun i _ => (vy l k).f1.length - (intOf i).toNat)
        case atStart => exact ⟨0, pre, Nat.zero_le _, rfl, ⟨by rw [hpre.out]; simp [vf]⟩, hJ1, CK.refl _⟩
        case round =>
          obtain ⟨f, pre2, hf, rfl, hpre2, hJ2, hck2⟩ := hrel
          by_cases hff : f < (vy l k).f1.length
          · gi_wp2
            gi_loopw [6] (fun i wy => ∃ (m : Nat) (pre : List (V l)), f + 1 + m ≤ (vy l k).f1.length ∧ i = .int .i64 ((f : Int) + 1 + m) ∧ Aside0 (pre.map (·.1) = va l k ++ vf k (vy l k).f1.length f ++ vt k f m) ∧ J pre wy ∧ CK w1 wy) (fun i _ => (vy l k).f1.length - (intOf i).toNat)
            case atStart => exact ⟨0, pre2, by omega, by simp, ⟨by rw [hpre2.out]; simp [vt]⟩, hJ2, hck2⟩
            case round =>
              obtain ⟨m, pre3, hm, rfl, hpre3, hJ3, hck3⟩ := hrel
              have hbx3 := hck3.2 _ _ hbx
              by_cases hmm : f + 1 + m < (vy l k).f1.length
              · have hp3 : pre3.length < 1000000000 := by
                  have h1 := congrArg List.length hpre3.out
                  have h2 := va_len l k
                  have h3 := vf_len k (vy l k).f1.length f
                  have h4 : f * (vy l k).f1.length ≤ 64 * 64 := Nat.mul_le_mul (by omega) hlen
                  simp only [List.length_map, List.length_append, vt_len] at h1
                  omega
                obtain ⟨fn, tmps, asg, bod, hrun, hround⟩ := hY pre3 ⟨(k, f, f + 1 + m), hlt, by simp only []; omega, hmm, hbm⟩ _ hJ3 hp3
                simp only [ids, Int.natCast_add, Int.natCast_one] at hrun
                gi_wp2
                refine hround.mono ?_
                rintro e W3 (⟨rfl, hJ4, hk4⟩ | ⟨rfl, hJx4⟩)
                · gi_wp2
                  refine ⟨⟨m + 1, pre3 ++ [_], by omega, by push_cast; congr 1, ⟨?_⟩, hJ4, hck3.trans hk4⟩, ?_⟩
                  · rw [List.map_append, hpre3.out, vt_succ]; simp
                  · simp only [intOf]; omega
                · gi_wp2
                  refine bodyPost_ret (results_none rfl _ _ _) rfl ?_
                  exact ⟨⟨_, rfl⟩, .inr ⟨_, trivial, hJx4⟩⟩
              · gi_wp2
                refine ⟨⟨f + 1, pre3, by omega, by push_cast; rfl, ⟨?_⟩, hJ3, hck3⟩, ?_⟩
                · rw [hpre3.out, vf_succ, List.append_assoc]
                  have hm2 : m = (vy l k).f1.length - (f + 1) := by omega
                  rw [hm2]
                · simp only [intOf]; omega
          · gi_wp2
            refine ⟨⟨k + 1, pre2, hlt, by push_cast; rfl, ⟨?_⟩, hJ2, hck1.trans hck2⟩, ?_⟩
            · have hf2 : f = (vy l k).f1.length := by omega
              rw [hpre2.out, va_succ, vg, if_pos hbm, hf2]
            · simp only [intOf]; omega
    · gi_wp2
      go_end0
      have hk2 : k = l.length := by omega
      exact ⟨⟨_, rfl⟩, .inl ⟨pre, by rw [hpre.out, hk2], hJs⟩⟩

/-- legs: the value that it hands back keeps its word. -/
theorem legs_stops (n : Nat) (hn : 1 ≤ n) (l : List S35) (Bn c : Nat) (A : Option Addr) (hl : l.length ≤ 1000) (w : World) (hBn : w.cell? ⟨Bn, 0, none⟩ = some (.slice A l.length c)) (hC : Kd.C k35 w A l.length l) :
    SeqStopsK Fence.wide n Tryd.prog 35 #[.pointer (some ⟨Bn, 0, none⟩)] (ids (l := l)) CK (fun ys => ys.map (·.1) = va l l.length) (fun _ => True) 1000000000 w := fun lp J Jx W hW aJ _ hY h0 =>
  legs1_in n hn l lp Bn c A hl J Jx (fun pre X Y h hg => aJ pre X Y none h hg (fun r e => by cases e)) hY W ((CK.below hW).2 _ _ hBn) (C35_ck hC (CK.below hW)) h0
end Go.Proofs.YtbojieeildhlcaaDoor.Port
