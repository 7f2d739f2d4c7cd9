/- What the reference's Delay and 'copied' tell. -/
import Derived.Test.YtbojieeildhlcaaDoorH11
import Derived.Test.YtbojieeildhlcaaDoorH14
import Derived.Test.YtbojieeildhlcaaDoorPortRef
import Derived.Test.YtbojieeildhlcaaDoorPortL3
namespace Go.Proofs.YtbojieeildhlcaaDoor.Port
open Go.RowKit Go.Proofs.YtbojieeildhlcaaDoorW.PrintWords Go.Proofs.YtbojieeildhlcaaDoorW.PrintLast Go.Proofs.YtbojieeildhlcaaDoorW.PrintMore Go.Proofs.YtbojieeildhlcaaDoor.G Go.Proofs.YtbojieeildhlcaaDoor.Ext
set_option linter.unusedVariables false
set_option linter.unusedSimpArgs false

theorem rd_set {l : List S32} {k : Nat} (h : k < l.length) (x : S32) : rd_T32 (l.set k x) (k : Nat) = x := by
  unfold rd_T32
  rw [Int.toNat_natCast]
  exact set_get h x
theorem late_step3 {c k : Nat} {d : Int} {l : List S32} (h : c ≤ k) (hk : k < l.length) (m : List S32) (hm : m = late c k d l) :
    let y1 := m.set k ⟨(rd_T32 m (k : Nat)).f0, (rd_T32 m (k : Nat)).f1, wrap64 ((rd_T32 m (k : Nat)).f2 + d), (rd_T32 m (k : Nat)).f3⟩
    let y2 := y1.set k ⟨(rd_T32 y1 (k : Nat)).f0, (rd_T32 y1 (k : Nat)).f1, (rd_T32 y1 (k : Nat)).f2, wrap64 ((rd_T32 y1 (k : Nat)).f3 + d)⟩
    y2.set k ⟨(rd_T32 y2 (k : Nat)).f0, wrap64 ((rd_T32 y2 (k : Nat)).f1 + d), (rd_T32 y2 (k : Nat)).f2, (rd_T32 y2 (k : Nat)).f3⟩ = late c (k + 1) d l := by
  have hl : k < m.length := by rw [hm, late_len]; exact hk
  intro y1 y2
  have e1 : rd_T32 y1 (k : Nat) = _ := rd_set hl _
  have hl1 : k < y1.length := by simp [y1]; exact hl
  have e2 : rd_T32 y2 (k : Nat) = _ := rd_set hl1 _
  rw [e2, e1]
  simp only [y2, y1, List.set_set]
  rw [← late_step h hk, ← hm]
  congr 1
theorem rdel_l0 (s : ByteArray) (l : List S32) (c : Nat) (d : Int) (hl : l.length ≤ 1000000) (hz : sized ⟨s, late c l.length d l⟩) (n : Nat) : ∀ i : Nat, c ≤ i → i + n = l.length →
    Ev (fun k => supercargoref16_Delay.l0 k d (i : Nat) s l s (late c i d l)) (s, if mayB ⟨s, late c l.length d l⟩ = true then late c l.length d l else l) := by
  induction n with
  | zero =>
    intro i hc hi
    obtain rfl : i = l.length := by omega
    refine succ ?_
    simp only [supercargoref16_Delay.l0]
    refine ev_neg (by rw [late_len]; omega) ?_
    have hm := rmay_ev _ hz
    refine Ev.bind hm ?_
    cases hb : mayB ⟨s, late c l.length d l⟩ with
    | true => exact ev_pos rfl (now rfl)
    | false =>
      refine ev_neg (by decide) ?_
      refine ev_some rfl (ev_pos (by simp; omega) (now rfl))
  | succ n ih =>
    intro i hc hi
    refine succ ?_
    simp only [supercargoref16_Delay.l0]
    refine ev_pos (by rw [late_len]; omega) (ev_pos (by omega) ?_)
    have e := late_step3 (d := d) hc (show i < l.length by omega) _ rfl
    simp only at e
    refine ev_some rfl (ev_some rfl ?_)
    simp only [Int.toNat_natCast]
    rw [e, wrap_in (by omega) (by omega)]
    exact ih (i + 1) (by omega) (by omega)
theorem sized_late {s : ByteArray} {l : List S32} {c : Nat} {d : Int} (h : sized ⟨s, l⟩) : sized ⟨s, late c l.length d l⟩ := by
  refine ⟨h.1, fun i hi => ?_⟩
  have hi : i < l.length := by rw [← late_len c l.length d l]; exact hi
  show (rd_T32 (late c l.length d l) (i : Nat)).f0.size ≤ _
  rw [late_rd _ _ _ _ hi]
  have := h.2 i hi
  split
  · exact this
  · exact this
theorem rdel_ev (s : ByteArray) (l : List S32) (call days : Int) (hl : l.length ≤ 1000000) (hz : sized ⟨s, l⟩) : Ev (fun k => supercargoref16_Delay.f k s l call days) (s, delF s l call days) := by
  have bad : badB s l call days = true → Ev (fun k => supercargoref16_Delay.j0 k call days true s l s l) (s, delF s l call days) := fun h => by
    refine succ ?_
    simp only [supercargoref16_Delay.j0]
    refine ev_pos trivial (now ?_)
    unfold delF
    rw [if_pos h]
  unfold supercargoref16_Delay.f
  refine ev_some rfl (ev_pos (by simp; omega) (ev_some rfl ?_))
  refine Ev.bind (rmay_ev _ hz) ?_
  refine ev_ite (fun hm => ev_ite (fun h1 => ?_) (fun h1 => ev_ite (fun h2 => ?_) (fun h2 => ev_ite (fun h3 => ?_) (fun h3 => ?_)))) (fun hm => ?_)
  · exact bad (badB_no (fun h => by omega))
  · exact bad (badB_no (fun h => by omega))
  · refine bad ?_
    unfold badB
    rw [decide_eq_true h3]
    simp
  · by_cases h4 : days > 1048576
    · rw [decide_eq_true h4]
      refine bad ?_
      unfold badB
      rw [decide_eq_true h4]
      simp
    · rw [decide_eq_false h4]
      refine succ ?_
      simp only [supercargoref16_Delay.j0]
      refine ev_neg (by decide) ?_
      have e : delF s l call days = if mayB ⟨s, late call.toNat l.length days l⟩ = true then late call.toNat l.length days l else l := by
        unfold delF
        rw [if_neg (by rw [badB_of ⟨hm, by omega, by omega, by omega, by omega⟩]; decide)]
      rw [e]
      have h := rdel_l0 s l call.toNat days hl (sized_late hz) (l.length - call.toNat) call.toNat (Nat.le_refl _) (by omega)
      rw [late_start, show ((call.toNat : Nat) : Int) = call by omega] at h
      exact h
  · exact bad (badB_no (fun h => hm h.1))
theorem copied_ev (v : S35) (hl : v.f1.length ≤ 1000000) : Ev (fun k => supercargolaw16_copied.f k [v]) [v] := by
  unfold supercargolaw16_copied.f
  refine succ ?_
  simp only [supercargolaw16_copied.l0]
  refine ev_pos (show (0 : Int) < ((1 : Nat) : Int) by decide) (ev_pos (by decide) (ev_some rfl (ev_pos ?_ (ev_pos (by decide) ?_))))
  · show ([] : List S32).length + v.f1.length < 3518437208883
    simp; omega
  · refine succ ?_
    simp only [supercargolaw16_copied.l0]
    exact ev_neg (show ¬ wrap64 (0 + 1) < ((1 : Nat) : Int) by rw [wrap_in (by decide) (by decide)]; decide) (now rfl)
end Go.Proofs.YtbojieeildhlcaaDoor.Port
