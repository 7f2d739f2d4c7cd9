/- Whether a voyage may be: the program's answer, as a plain function. -/
import Derived.Test.YtbojieeildhlcaaDoorH15
namespace Go.Proofs.YtbojieeildhlcaaDoor.Port
open Go.RowKit Go.Proofs.YtbojieeildhlcaaDoorW.PrintWords Go.Proofs.YtbojieeildhlcaaDoorW.PrintLast Go.Proofs.YtbojieeildhlcaaDoorW.PrintMore Go.Proofs.YtbojieeildhlcaaDoor.G Go.Proofs.YtbojieeildhlcaaDoor.Ext
set_option linter.unusedVariables false
set_option linter.unusedSimpArgs false

theorem succ {α : Type} {g : Nat → Option α} {r : α} (h : Ev (fun k => g (k + 1)) r) : Ev g r := Ev.step (fun _ => rfl) h
theorem wrap_in {x : Int} (h0 : -9223372036854775808 ≤ x) (h1 : x ≤ 9223372036854775807) : wrap64 x = x := by unfold wrap64; omega
theorem now {α : Type} {r q : α} (h : r = q) : Ev (fun _ => some r) q := by rw [h]; exact Ev.now _
theorem ev_pos {α : Type} {c : Prop} [Decidable c] {a b : Nat → Option α} {r : α} (h : c) (k : Ev a r) : Ev (fun n => if c then a n else b n) r := Ev.congr (fun n => if_pos h) k
theorem ev_neg {α : Type} {c : Prop} [Decidable c] {a b : Nat → Option α} {r : α} (h : ¬ c) (k : Ev b r) : Ev (fun n => if c then a n else b n) r := Ev.congr (fun n => if_neg h) k
theorem ev_ite {α : Type} {c : Prop} [Decidable c] {a b : Nat → Option α} {r : α} (h : c → Ev a r) (k : ¬ c → Ev b r) : Ev (fun n => if c then a n else b n) r := by
  by_cases hc : c
  · exact ev_pos hc (h hc)
  · exact ev_neg hc (k hc)
theorem ev_some {α β : Type} {o : Option α} {f : Nat → α → Option β} {a : α} {r : β} (h : o = some a) (k : Ev (fun n => f n a) r) : Ev (fun n => o.bind (f n)) r := Ev.congr (fun n => by rw [h]; rfl) k

def inD (n : Int) : Bool := if n ≥ 0 then decide (n ≤ 1048576) else false
theorem within_v (a : Int) : port_within.f a = some (inD a) := by
  unfold port_within.f inD
  by_cases h : a ≥ 0
  · rw [if_pos h, if_pos h]
  · rw [if_neg h, if_neg h]
def prevOk (l : List S32) (i : Nat) : Bool := if 0 < i then (if (rd_T32 l (i : Nat)).f0.toList = (rd_T32 l ((i : Int) - 1)).f0.toList then false else !decide ((rd_T32 l (i : Nat)).f2 < (rd_T32 l ((i : Int) - 1)).f3)) else true
def callOk (l : List S32) (i : Nat) : Bool :=
  nameB (rd_T32 l (i : Nat)).f0 && (inD (rd_T32 l (i : Nat)).f1 && (inD (rd_T32 l (i : Nat)).f2 && (inD (rd_T32 l (i : Nat)).f3 && (!decide ((rd_T32 l (i : Nat)).f2 > (rd_T32 l (i : Nat)).f3) && (!decide ((rd_T32 l (i : Nat)).f1 > (rd_T32 l (i : Nat)).f3) && prevOk l i)))))
def callsOk (l : List S32) : Nat → Nat → Bool
  | _, 0 => true
  | i, d + 1 => if callOk l i = true then callsOk l (i + 1) d else false
theorem callsOk_yes {l : List S32} {i d : Nat} (h : callOk l i = true) : callsOk l i (d + 1) = callsOk l (i + 1) d := by simp [callsOk, h]
theorem callsOk_no {l : List S32} {i d : Nat} (h : callOk l i = false) : callsOk l i (d + 1) = false := by simp [callsOk, h]
def mayB (v : S35) : Bool := nameB v.f0 && (decide (1 ≤ v.f1.length) && (decide (v.f1.length ≤ 64) && callsOk v.f1 0 v.f1.length))
theorem may_l0 (s : ByteArray) (l : List S32) (hl : l.length ≤ 64) (d : Nat) : ∀ i : Nat, i + d = l.length → Ev (fun k => port_May.l0 k l (l.length : Int) (i : Nat) s l) (callsOk l i d) := by
  induction d with
  | zero =>
    intro i hi
    refine succ ?_
    simp only [port_May.l0]
    exact ev_neg (by omega) (now (by simp [callsOk]))
  | succ d ih =>
    intro i hi
    have next := ih (i + 1) (by omega)
    have j3 : ∀ b : Bool, (b = true → callOk l i = false) → (b = false → callOk l i = true) → Ev (fun k => port_May.j3 k l (l.length : Int) (i : Nat) b s l) (callsOk l i (d + 1)) := by
      intro b h1 h2
      refine succ ?_
      simp only [port_May.j3]
      cases b with
      | true => exact ev_pos rfl (now (by rw [callsOk_no (h1 rfl)]))
      | false =>
        refine ev_neg (by decide) ?_
        rw [callsOk_yes (h2 rfl), wrap_in (by omega) (by omega)]
        exact next
    have j2 : ∀ b : Bool, (b = true → callOk l i = false) → (b = false → callOk l i = prevOk l i) → Ev (fun k => port_May.j2 k (i : Nat) l (l.length : Int) (i : Nat) b s l (rd_T32 l (i : Nat)).f0 (rd_T32 l (i : Nat)).f1 (rd_T32 l (i : Nat)).f2 (rd_T32 l (i : Nat)).f3) (callsOk l i (d + 1)) := by
      intro b h1 h2
      refine succ ?_
      simp only [port_May.j2]
      cases b with
      | true => exact ev_pos rfl (now (by rw [callsOk_no (h1 rfl)]))
      | false =>
        have h3 := h2 rfl
        refine ev_neg (by decide) ?_
        rcases Nat.eq_zero_or_pos i with h0 | h0
        · refine ev_neg (by omega) (j3 _ (fun h => by cases h) (fun _ => ?_))
          rw [h3]; unfold prevOk; rw [if_neg (by omega)]
        · rw [wrap_in (x := (i : Int) - 1) (by omega) (by omega)]
          refine ev_pos (by omega) (ev_pos (by omega) (ev_pos (by omega) (ev_ite (fun a => ?_) (fun a => ?_))))
          · refine j3 _ (fun _ => ?_) (fun h => by cases h)
            rw [h3]; unfold prevOk; rw [if_pos h0, if_pos a]
          · refine j3 _ (fun h => ?_) (fun h => ?_)
            · rw [h3]; unfold prevOk; rw [if_pos h0, if_neg a, h]; rfl
            · rw [h3]; unfold prevOk; rw [if_pos h0, if_neg a, h]; rfl
    refine succ ?_
    simp only [port_May.l0]
    refine ev_pos (by omega) (ev_pos (by omega) (ev_pos (by omega) ?_))
    have bad : callOk l i = false → Ev (fun k => port_May.j2 k (i : Nat) l (l.length : Int) (i : Nat) true s l (rd_T32 l (i : Nat)).f0 (rd_T32 l (i : Nat)).f1 (rd_T32 l (i : Nat)).f2 (rd_T32 l (i : Nat)).f3) (callsOk l i (d + 1)) := fun h => j2 true (fun _ => h) (fun h => by cases h)
    refine ev_some (show mark_Name.f (rd_T32 l (i : Nat)).f0 = some (nameB (rd_T32 l (i : Nat)).f0) from rfl) (ev_ite (fun a => ev_some (within_v _) (ev_ite (fun b => ev_some (within_v _) (ev_ite (fun c => ev_some (within_v _) (ev_ite (fun e => ev_ite (fun g => ?_) (fun g => ?_)) (fun e => ?_))) (fun c => ?_))) (fun b => ?_))) (fun a => ?_))
    · exact bad (by unfold callOk; rw [a, b, c, e, decide_eq_true g]; rfl)
    · refine j2 _ (fun h => ?_) (fun h => ?_)
      · unfold callOk; rw [a, b, c, e, decide_eq_false g, h]; rfl
      · unfold callOk; rw [a, b, c, e, decide_eq_false g, h]; rfl
    · exact bad (by unfold callOk; rw [a, b, c, Bool.eq_false_iff.2 e]; rfl)
    · exact bad (by unfold callOk; rw [a, b, Bool.eq_false_iff.2 c]; rfl)
    · exact bad (by unfold callOk; rw [a, Bool.eq_false_iff.2 b]; rfl)
    · exact bad (by unfold callOk; rw [Bool.eq_false_iff.2 a]; rfl)
theorem may_ev (v : S35) : Ev (fun k => port_May.f k v.f0 v.f1) (mayB v) := by
  have bad : mayB v = false → Ev (fun k => port_May.j0 k true v.f0 v.f1) (mayB v) := by
    intro h
    refine succ ?_
    simp only [port_May.j0]
    exact ev_pos trivial (now h.symm)
  unfold port_May.f
  refine ev_some (show mark_Name.f v.f0 = some (nameB v.f0) from rfl) (ev_ite (fun a => ev_ite (fun b => ?_) (fun b => ?_)) (fun a => ?_))
  · exact bad (by unfold mayB; rw [decide_eq_false (show ¬ 1 ≤ v.f1.length by omega)]; simp)
  · by_cases c : (v.f1.length : Int) > 64
    · rw [decide_eq_true c]
      exact bad (by unfold mayB; rw [decide_eq_false (show ¬ v.f1.length ≤ 64 by omega)]; simp)
    · rw [decide_eq_false c]
      refine succ ?_
      simp only [port_May.j0]
      refine ev_neg (by decide) ?_
      have e : mayB v = callsOk v.f1 0 v.f1.length := by unfold mayB; rw [a, decide_eq_true (show 1 ≤ v.f1.length by omega), decide_eq_true (show v.f1.length ≤ 64 by omega)]; rfl
      rw [e]
      exact may_l0 v.f0 v.f1 (by omega) v.f1.length 0 (by omega)
  · exact bad (by unfold mayB; rw [Bool.eq_false_iff.2 a]; rfl)
end Go.Proofs.YtbojieeildhlcaaDoor.Port
