/- Legs that are a way, as the reference tells: a way of the plain law. -/
import Derived.Test.YtbojieeildhlcaaDoorPortRef
import Derived.Test.YtbojieeildhlcaaDoorPortBest
import Derived.Test.YtbojieeildhlcaaDoorH10
namespace Go.Proofs.YtbojieeildhlcaaDoor.Port
open Go.RowKit Go.Proofs.YtbojieeildhlcaaDoorW.PrintWords Go.Proofs.YtbojieeildhlcaaDoorW.PrintLast Go.Proofs.YtbojieeildhlcaaDoorW.PrintMore Go.Proofs.YtbojieeildhlcaaDoor.G Go.Proofs.YtbojieeildhlcaaDoor.Ext Go.Proofs.YtbojieeildhlcaaDoor.PortMath
set_option linter.unusedVariables false
set_option linter.unusedSimpArgs false

theorem held_v (c : Int) : supercargoref16_Held.f c = some (daysI c) := by
  unfold supercargoref16_Held.f daysI
  by_cases h : c < 0
  · rw [if_pos h]; congr 1; omega
  · rw [if_neg h]
    by_cases h2 : c > 1048576
    · rw [if_pos h2]; congr 1; omega
    · rw [if_neg h2]; congr 1; omega
/-- A leg that may be. -/
def LegOk (l : List S35) (x : S30) (v f t : Nat) : Prop := x.f0 = v ∧ x.f1 = f ∧ x.f2 = t ∧ v < l.length ∧ mayB (vy l v) = true ∧ f < t ∧ t < (vy l v).f1.length
/-- Legs from the i-th on, d of them, go on from a port. -/
def Chain (l : List S35) (legs : List S30) (tt : ByteArray) (H : Int) : Nat → Nat → ByteArray → Int → Prop
  | 0, _, p, _ => p.data.toList = tt.data.toList
  | d + 1, i, p, le => ∃ v f t, LegOk l (rd_T30 legs (i : Nat)) v f t ∧ (cl l v f).f0.data.toList = p.data.toList ∧ le ≤ (cl l v f).f1 ∧ Chain l legs tt H d (i + 1) (cl l v t).f0 ((cl l v t).f2 + H)
theorem right_l0 (l : List S35) (legs : List S30) (tt : ByteArray) (c : Int) (hl : l.length ≤ 8) (hg : legs.length ≤ 8) (hz : ∀ i : Nat, i < l.length → sized (vy l i)) (d : Nat) : ∀ (i : Nat) (p : ByteArray) (le : Int), i + d = legs.length →
    ∃ r, Ev (fun k => supercargoref16_Right.l0 k l legs tt c p le (i : Nat)) r ∧ (r = true → Chain l legs tt (daysI c) d i p le) := by
  induction d with
  | zero =>
    intro i p le hi
    refine ⟨p.toList == tt.toList, succ ?_, fun h => ?_⟩
    · simp only [supercargoref16_Right.l0]
      exact ev_neg (by omega) (now rfl)
    · have := eq_of_beq h
      rw [ByteArray.toList_eq, ByteArray.toList_eq] at this
      exact this
  | succ d ih =>
    intro i p le hi
    obtain ⟨x, hx⟩ : ∃ x, rd_T30 legs (i : Nat) = x := ⟨_, rfl⟩
    have j2t : Ev (fun k => supercargoref16_Right.j2 k l legs tt c p le (i : Nat) true x.f0 x.f1 x.f2) false := by
      refine succ ?_
      simp only [supercargoref16_Right.j2]
      exact ev_pos trivial (now rfl)
    have start : ∀ r, (Ev (fun k => if x.f0 < 0 then supercargoref16_Right.j2 k l legs tt c p le (i : Nat) true x.f0 x.f1 x.f2 else (if x.f0 ≥ (l.length : Int) then supercargoref16_Right.j2 k l legs tt c p le (i : Nat) true x.f0 x.f1 x.f2 else (if 0 ≤ x.f0 then (if x.f0 < (l.length : Int) then ((supercargoref16_May.f k (rd_T35 l x.f0).f0 (rd_T35 l x.f0).f1).bind fun t222 => supercargoref16_Right.j2 k l legs tt c p le (i : Nat) (!t222) x.f0 x.f1 x.f2) else none) else none))) r) → Ev (fun k => supercargoref16_Right.l0 k l legs tt c p le (i : Nat)) r := by
      intro r h
      refine succ ?_
      simp only [supercargoref16_Right.l0]
      rw [hx]
      exact ev_pos (by omega) (ev_pos (by omega) h)
    by_cases h0 : x.f0 < 0
    · exact ⟨false, start _ (ev_pos h0 j2t), fun h => by cases h⟩
    · by_cases h1 : x.f0 ≥ (l.length : Int)
      · exact ⟨false, start _ (ev_neg h0 (ev_pos h1 j2t)), fun h => by cases h⟩
      · obtain ⟨v, hv⟩ : ∃ v : Nat, x.f0 = v := ⟨x.f0.toNat, by omega⟩
        have hvl : v < l.length := by omega
        have hmay := rmay_ev (vy l v) (hz v hvl)
        have go : ∀ r, Ev (fun k => supercargoref16_Right.j2 k l legs tt c p le (i : Nat) (!mayB (vy l v)) x.f0 x.f1 x.f2) r → Ev (fun k => supercargoref16_Right.l0 k l legs tt c p le (i : Nat)) r := by
          intro r h
          refine start r (ev_neg h0 (ev_neg h1 (ev_pos (by omega) (ev_pos (by omega) ?_))))
          rw [show rd_T35 l x.f0 = vy l v by rw [hv]; rfl]
          exact Ev.bind hmay h
        cases hm : mayB (vy l v) with
        | false => rw [hm] at go; exact ⟨false, go _ j2t, fun h => by cases h⟩
        | true =>
          rw [hm] at go
          have j3t : Ev (fun k => supercargoref16_Right.j3 k l legs tt c (i : Nat) (vy l v).f1 true x.f0 x.f1 x.f2) false := by
            refine succ ?_
            simp only [supercargoref16_Right.j3]
            exact ev_pos trivial (now rfl)
          have on : ∀ r, Ev (fun k => if x.f1 < 0 then supercargoref16_Right.j3 k l legs tt c (i : Nat) (vy l v).f1 true x.f0 x.f1 x.f2 else (if x.f1 ≥ x.f2 then supercargoref16_Right.j3 k l legs tt c (i : Nat) (vy l v).f1 true x.f0 x.f1 x.f2 else (if x.f2 ≥ ((vy l v).f1.length : Int) then supercargoref16_Right.j3 k l legs tt c (i : Nat) (vy l v).f1 true x.f0 x.f1 x.f2 else (if 0 ≤ x.f1 then (if x.f1 < ((vy l v).f1.length : Int) then (if (rd_T32 (vy l v).f1 x.f1).f0.toList = p.toList then supercargoref16_Right.j3 k l legs tt c (i : Nat) (vy l v).f1 (decide ((rd_T32 (vy l v).f1 x.f1).f1 < le)) x.f0 x.f1 x.f2 else supercargoref16_Right.j3 k l legs tt c (i : Nat) (vy l v).f1 true x.f0 x.f1 x.f2) else none) else none)))) r → Ev (fun k => supercargoref16_Right.l0 k l legs tt c p le (i : Nat)) r := by
            intro r h
            refine go r (succ ?_)
            simp only [supercargoref16_Right.j2]
            refine ev_neg (by decide) (ev_pos (by omega) (ev_pos (by omega) ?_))
            rw [show rd_T35 l x.f0 = vy l v by rw [hv]; rfl]
            exact h
          by_cases a0 : x.f1 < 0
          · exact ⟨false, on _ (ev_pos a0 j3t), fun h => by cases h⟩
          · by_cases a1 : x.f1 ≥ x.f2
            · exact ⟨false, on _ (ev_neg a0 (ev_pos a1 j3t)), fun h => by cases h⟩
            · by_cases a2 : x.f2 ≥ ((vy l v).f1.length : Int)
              · exact ⟨false, on _ (ev_neg a0 (ev_neg a1 (ev_pos a2 j3t))), fun h => by cases h⟩
              · obtain ⟨f, hf⟩ : ∃ f : Nat, x.f1 = f := ⟨x.f1.toNat, by omega⟩
                obtain ⟨t, ht⟩ : ∃ t : Nat, x.f2 = t := ⟨x.f2.toNat, by omega⟩
                have on2 : ∀ r, Ev (fun k => if (cl l v f).f0.toList = p.toList then supercargoref16_Right.j3 k l legs tt c (i : Nat) (vy l v).f1 (decide ((cl l v f).f1 < le)) x.f0 x.f1 x.f2 else supercargoref16_Right.j3 k l legs tt c (i : Nat) (vy l v).f1 true x.f0 x.f1 x.f2) r → Ev (fun k => supercargoref16_Right.l0 k l legs tt c p le (i : Nat)) r := by
                  intro r h
                  refine on r (ev_neg a0 (ev_neg a1 (ev_neg a2 (ev_pos (by omega) (ev_pos (by omega) ?_)))))
                  rw [show rd_T32 (vy l v).f1 x.f1 = cl l v f by rw [hf]; rfl]
                  exact h
                by_cases b0 : (cl l v f).f0.toList = p.toList
                · by_cases b1 : (cl l v f).f1 < le
                  · exact ⟨false, on2 _ (ev_pos b0 (by rw [decide_eq_true b1]; exact j3t)), fun h => by cases h⟩
                  · obtain ⟨r, hr, hr2⟩ := ih (i + 1) (cl l v t).f0 ((cl l v t).f2 + daysI c) (by omega)
                    have hb := (may_call hm (j := t) (by omega)).2
                    have hd : 0 ≤ daysI c ∧ daysI c ≤ 1048576 := by unfold daysI; omega
                    refine ⟨r, on2 _ (ev_pos b0 ?_), fun h => ⟨v, f, t, ⟨by rw [hx]; exact hv, by rw [hx]; exact hf, by rw [hx]; exact ht, hvl, hm, by omega, by omega⟩, ?_, by omega, hr2 h⟩⟩
                    · rw [decide_eq_false b1]
                      refine succ ?_
                      simp only [supercargoref16_Right.j3]
                      refine ev_neg (by decide) (ev_pos (by omega) (ev_pos (by omega) (ev_some (held_v c) ?_)))
                      rw [show rd_T32 (vy l v).f1 x.f2 = cl l v t by rw [ht]; rfl, wrap_in (x := (cl l v t).f2 + daysI c) (by unfold cl; omega) (by unfold cl; omega), wrap_in (by omega) (by omega)]
                      exact hr
                    · rw [ByteArray.toList_eq, ByteArray.toList_eq] at b0; exact b0
                · exact ⟨false, on2 _ (ev_neg b0 j3t), fun h => by cases h⟩
theorem may_in {v : S35} (h : mayB v = true) {j : Nat} (hj : j < v.f1.length) : (rd_T32 v.f1 (j : Nat)).f1 ≤ (rd_T32 v.f1 (j : Nat)).f3 ∧ (rd_T32 v.f1 (j : Nat)).f2 ≤ (rd_T32 v.f1 (j : Nat)).f3 ∧ prevOk v.f1 j = true := by
  unfold mayB at h
  simp only [Bool.and_eq_true, decide_eq_true_eq] at h
  have h1 := callsOk_all v.f1.length 0 j h.2.2.2 (Nat.zero_le _) (by omega)
  unfold callOk at h1
  simp only [Bool.and_eq_true, Bool.not_eq_true', decide_eq_false_iff_not] at h1
  obtain ⟨_, _, _, _, a, b, c⟩ := h1
  exact ⟨by omega, by omega, c⟩
theorem may_step {v : S35} (h : mayB v = true) {j : Nat} (hj : j + 1 < v.f1.length) : (rd_T32 v.f1 (j : Nat)).f3 ≤ (rd_T32 v.f1 ((j + 1 : Nat) : Int)).f2 := by
  have h1 := (may_in h hj).2.2
  unfold prevOk at h1
  rw [if_pos (by omega), show (((j + 1 : Nat) : Int) - 1) = (j : Int) by omega] at h1
  split at h1
  · cases h1
  · simp only [Bool.not_eq_true', decide_eq_false_iff_not] at h1
    omega
theorem may_far {v : S35} (h : mayB v = true) {f : Nat} (d : Nat) (hd : f + d + 1 < v.f1.length) : (rd_T32 v.f1 (f : Nat)).f3 ≤ (rd_T32 v.f1 ((f + d + 1 : Nat) : Int)).f2 := by
  induction d with
  | zero => exact may_step h hd
  | succ d ih =>
    have h1 := ih (by omega)
    have h2 := (may_in h (j := f + d + 1) (by omega)).2.1
    have h3 := may_step h (j := f + d + 1) (by omega)
    exact Int.le_trans h1 (Int.le_trans h2 h3)
theorem leg_le {l : List S35} {x : S30} {v f t : Nat} (h : LegOk l x v f t) : (cl l v f).f1 ≤ (cl l v t).f2 := by
  obtain ⟨_, _, _, _, hm, hf, ht⟩ := h
  have h1 := (may_in hm (j := f) (by omega)).1
  have h2 := may_far hm (f := f) (t - f - 1) (by omega)
  rw [show f + (t - f - 1) + 1 = t by omega] at h2
  exact Int.le_trans h1 h2
theorem leg_link {l : List S35} {x : S30} {v f t : Nat} (h : LegOk l x v f t) : lk l (v, f, t) ∈ links l := by
  obtain ⟨_, _, _, hv, hm, hf, ht⟩ := h
  exact List.mem_map.2 ⟨(v, f, t), mem_va hv hf ht hm, rfl⟩
theorem link_le {l : List S35} {x : Lk Nm S30} (h : x ∈ links l) : x.cut ≤ x.arr := by
  unfold links at h
  obtain ⟨⟨v, f, t⟩, hp, rfl⟩ := List.mem_map.1 h
  obtain ⟨h1, h2, h3, h4⟩ := va_mem _ hp
  exact leg_le (x := ⟨v, f, t⟩) ⟨rfl, rfl, rfl, h1, h4, h2, h3⟩
theorem way_ready {l : List S35} {F : Nm} {ready H : Int} (hH : 0 ≤ H) {j : Nat} {q : Nm} {D : Int} (h : PortMath.Way (links l) F ready H j q D) : ready ≤ D := by
  induction h with
  | one h1 _ h3 _ => have := link_le h1; omega
  | more _ h1 h2 _ ih => have := link_le h1; omega
def WInv (l : List S35) (legs : List S30) (fr : ByteArray) (ready H : Int) (n : Nat) (p : ByteArray) (le : Int) : Prop :=
  (p.data.toList = fr.data.toList ∧ ready ≤ le) ∨ ∃ j v f t, 1 ≤ n ∧ j ≤ n ∧ LegOk l (rd_T30 legs ((n - 1 : Nat) : Int)) v f t ∧ p.data.toList = (cl l v t).f0.data.toList ∧ le = (cl l v t).f2 + H ∧ PortMath.Way (links l) fr.data.toList ready H j p.data.toList (cl l v t).f2
theorem chain_way {l : List S35} {legs : List S30} {fr tt : ByteArray} {ready H : Int} (hH : 0 ≤ H) (hft : fr.data.toList ≠ tt.data.toList) (d : Nat) : ∀ (i : Nat) (p : ByteArray) (le : Int), i + d = legs.length → WInv l legs fr ready H i p le → Chain l legs tt H d i p le →
    ∃ j v f t, 1 ≤ legs.length ∧ j ≤ legs.length ∧ LegOk l (rd_T30 legs ((legs.length - 1 : Nat) : Int)) v f t ∧ PortMath.Way (links l) fr.data.toList ready H j tt.data.toList (cl l v t).f2 := by
  induction d with
  | zero =>
    intro i p le hi hw hc
    have hc : p.data.toList = tt.data.toList := hc
    rcases hw with ⟨h1, _⟩ | ⟨j, v, f, t, h1, h2, h3, h4, h5, h6⟩
    · exact absurd (h1.symm.trans hc) hft
    · obtain rfl : i = legs.length := by omega
      rw [hc] at h6
      exact ⟨j, v, f, t, h1, h2, h3, h6⟩
  | succ d ih =>
    intro i p le hi hw hc
    obtain ⟨v, f, t, hok, ha, hle, hc2⟩ := hc
    refine ih (i + 1) _ _ (by omega) ?_ hc2
    have hcut := leg_le hok
    have hlk := leg_link hok
    by_cases hb : (cl l v t).f0.data.toList = fr.data.toList
    · refine .inl ⟨hb, ?_⟩
      rcases hw with ⟨_, h1⟩ | ⟨j, v', f', t', h1, h2, h3, h4, h5, h6⟩
      · omega
      · have := way_ready hH h6; omega
    · refine .inr ?_
      rcases hw with ⟨h0, h1⟩ | ⟨j, v', f', t', h1, h2, h3, h4, h5, h6⟩
      · exact ⟨1, v, f, t, by omega, by omega, hok, rfl, rfl, PortMath.Way.one (x := lk l (v, f, t)) hlk (ha.trans h0) (by show ready ≤ (cl l v f).f1; omega) hb⟩
      · refine ⟨j + 1, v, f, t, by omega, by omega, hok, rfl, rfl, PortMath.Way.more (x := lk l (v, f, t)) (d := (cl l v' t').f2) ?_ hlk (by show (cl l v' t').f2 + H ≤ (cl l v f).f1; omega) hb⟩
        rw [show (lk l (v, f, t)).a = p.data.toList from ha]
        exact h6
/-- What the reference calls a way is one. -/
theorem right_ev (l : List S35) (legs : List S30) (fr tt : ByteArray) (ready c : Int) (hl : l.length ≤ 8) (hg : legs.length ≤ 8) (hz : ∀ i : Nat, i < l.length → sized (vy l i)) :
    ∃ r, Ev (fun k => supercargoref16_Right.f k l legs fr tt ready c) r ∧ (r = true → fr.data.toList ≠ tt.data.toList ∧ ∃ j v f t, 1 ≤ legs.length ∧ j ≤ legs.length ∧ LegOk l (rd_T30 legs ((legs.length - 1 : Nat) : Int)) v f t ∧ PortMath.Way (links l) fr.data.toList ready (daysI c) j tt.data.toList (cl l v t).f2) := by
  have no : Ev (fun k => supercargoref16_Right.j0 k l legs fr tt ready c true) false := by
    refine succ ?_
    simp only [supercargoref16_Right.j0]
    exact ev_pos trivial (now rfl)
  unfold supercargoref16_Right.f
  by_cases h0 : fr.toList = tt.toList
  · exact ⟨false, ev_pos h0 no, fun h => by cases h⟩
  · by_cases h1 : (legs.length : Int) < 1
    · exact ⟨false, ev_neg h0 (ev_pos h1 no), fun h => by cases h⟩
    · obtain ⟨r, hr, hr2⟩ := right_l0 l legs tt c hl hg hz legs.length 0 fr ready (by omega)
      have hft : fr.data.toList ≠ tt.data.toList := fun e => h0 (by rw [ByteArray.toList_eq, ByteArray.toList_eq]; exact e)
      refine ⟨r, ev_neg h0 (ev_neg h1 ?_), fun h => ⟨hft, ?_⟩⟩
      · rw [decide_eq_false (show ¬ (legs.length : Int) > 8 by omega)]
        refine succ ?_
        simp only [supercargoref16_Right.j0]
        exact ev_neg (by decide) hr
      · exact chain_way (by unfold daysI; omega) hft legs.length 0 fr ready (by omega) (.inl ⟨rfl, Int.le_refl _⟩) (hr2 h)
end Go.Proofs.YtbojieeildhlcaaDoor.Port
