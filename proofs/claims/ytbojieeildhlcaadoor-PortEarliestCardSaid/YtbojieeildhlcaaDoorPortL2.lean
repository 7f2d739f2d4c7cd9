/- PortEarliest: the plain law. -/
import Derived.Test.YtbojieeildhlcaaDoorH3
import Derived.Test.YtbojieeildhlcaaDoorPortRight
import Derived.Test.YtbojieeildhlcaaDoorPortL1
namespace Go.Proofs.YtbojieeildhlcaaDoor.Port
open Go.RowKit Go.Proofs.YtbojieeildhlcaaDoorW.PrintWords Go.Proofs.YtbojieeildhlcaaDoorW.PrintLast Go.Proofs.YtbojieeildhlcaaDoorW.PrintMore Go.Proofs.YtbojieeildhlcaaDoor.G Go.Proofs.YtbojieeildhlcaaDoor.Ext Go.Proofs.YtbojieeildhlcaaDoor.PortMath
set_option linter.unusedVariables false
set_option linter.unusedSimpArgs false

theorem best_none {l : List S35} {fr tt : Nm} {ready ch : Int} (h : (bestF l fr tt ready ch).2.2 = false) : (bestF l fr tt ready ch).1 = [] ∧ (bestF l fr tt ready ch).2.1 = 0 := by
  unfold bestF at h ⊢
  cases hy : it l fr ready (daysI ch) 8 tt with
  | none => exact ⟨rfl, rfl⟩
  | some y =>
    rw [hy] at h
    simp only at h ⊢
    by_cases hft : fr = tt
    · rw [if_pos hft]; exact ⟨rfl, rfl⟩
    · rw [if_neg hft] at h; cases h
theorem best_way {l : List S35} {fr tt : Nm} {ready ch : Int} (hft : fr ≠ tt) {j : Nat} {d : Int} (hj : j ≤ 8) (h : PortMath.Way (links l) fr ready (daysI ch) j tt d) :
    (bestF l fr tt ready ch).2.2 = true ∧ ((bestF l fr tt ready ch).2.1 < d ∨ ((bestF l fr tt ready ch).2.1 = d ∧ (bestF l fr tt ready ch).1.length ≤ j)) := by
  obtain ⟨o, ho, hl⟩ := iter_best h hj
  unfold bestF
  rw [show it l fr ready (daysI ch) 8 tt = some o from ho]
  simp only [if_neg hft]
  exact ⟨trivial, hl⟩
theorem earliest_law (l : List S35) (legs : List S30) (a2 a3 : ByteArray) (a4 a5 : Int) (hl : l.length ≤ 9223372036854775807) (hz : ∀ i : Nat, i < l.length → sized (vy l i)) (h2 : a2.size ≤ maxLen) (h3 : a3.size ≤ maxLen) :
    Ev (fun k => supercargolaw16_PortEarliest.f k l legs a2 a3 a4 a5) true := by
  have out : Ev (fun k => supercargolaw16_PortEarliest.j0 k l legs a2 a3 a4 a5 true) true := by
    refine succ ?_
    simp only [supercargolaw16_PortEarliest.j0]
    exact ev_pos trivial (now rfl)
  obtain ⟨b, hb, hb2⟩ := few_ev l hl
  have H2 := Aside0.mk h2
  have H3 := Aside0.mk h3
  clear h2 h3 hl
  unfold supercargolaw16_PortEarliest.f
  refine ev_some (show awake.f = some true from rfl) (ev_pos rfl (Ev.bind hb ?_))
  refine ev_ite (fun hf => ?_) (fun _ => out)
  have hl8 := hb2 hf
  by_cases c4 : (legs.length : Int) > 8
  · rw [decide_eq_true c4]; exact out
  · rw [decide_eq_false c4]
    have b0 := best_f (ready := a4) (ch := a5) hl8 H2.out H3.out
    have hn := best_none (l := l) (fr := a2.data.toList) (tt := a3.data.toList) (ready := a4) (ch := a5)
    have hw := fun (h : a2.data.toList ≠ a3.data.toList) j d => best_way (l := l) (ready := a4) (ch := a5) h (j := j) (d := d)
    generalize bestF l a2.data.toList a3.data.toList a4 a5 = t0 at *
    obtain ⟨r, hr, hr2⟩ := right_ev l legs a2 a3 a4 a5 hl8 (by omega) hz
    refine succ ?_
    simp only [supercargolaw16_PortEarliest.j0]
    refine ev_neg (fun h => by cases h) ?_
    refine ev_some b0 ?_
    refine Ev.bind hr ?_
    refine ev_ite (fun hrt => ?_) (fun _ => ?_)
    · obtain ⟨hft, j, v, f, t, hlen, hj, ⟨e0, e1, e2, hv, hm, hf1, ht⟩, hway⟩ := hr2 hrt
      obtain ⟨p1, p2⟩ := hw hft j _ (by omega) hway
      have ei : wrap64 ((legs.length : Int) - 1) = ((legs.length - 1 : Nat) : Int) := by rw [wrap_in (by omega) (by omega)]; omega
      rw [ei]
      rw [e0, e2]
      rw [show rd_T35 l (v : Nat) = vy l v from rfl]
      rw [show rd_T32 (vy l v).f1 (t : Nat) = cl l v t from rfl]
      refine ev_pos (by omega) (ev_pos (by omega) (ev_pos (by omega) (ev_pos (by omega) (ev_pos (by omega) (ev_pos (by omega) (ev_pos p1 ?_))))))
      refine ev_ite (fun _ => now rfl) (fun q => ?_)
      rcases p2 with p2 | ⟨p2, p3⟩
      · exact absurd p2 q
      · exact ev_pos p2 (now (decide_eq_true (by omega)))
    · refine ev_ite (fun _ => now rfl) (fun q => ?_)
      obtain ⟨n1, n2⟩ := hn (Bool.eq_false_iff.2 q)
      rw [n1, n2]
      exact ev_pos (by simp) (now (by simp))
end Go.Proofs.YtbojieeildhlcaaDoor.Port
