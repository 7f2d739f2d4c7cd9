/- PortSooner: the plain law. -/
import Derived.Test.YtbojieeildhlcaaDoorH4
namespace Go.Proofs.YtbojieeildhlcaaDoor.Port
open Go.RowKit Go.Proofs.YtbojieeildhlcaaDoorW.PrintWords Go.Proofs.YtbojieeildhlcaaDoorW.PrintLast Go.Proofs.YtbojieeildhlcaaDoorW.PrintMore Go.Proofs.YtbojieeildhlcaaDoor.G Go.Proofs.YtbojieeildhlcaaDoor.Ext Go.Proofs.YtbojieeildhlcaaDoor.PortMath
set_option linter.unusedVariables false
set_option linter.unusedSimpArgs false

/-- Whoever is ready earlier, or has more voyages, or needs fewer days for a change, arrives no later. -/
theorem best_mono {l l' : List S35} {fr tt : Nm} {ready ready' ch ch' : Int} (hL : ∀ x, x ∈ links l → x ∈ links l') (hr : ready' ≤ ready) (hc : daysI ch' ≤ daysI ch) (h : (bestF l fr tt ready ch).2.2 = true) :
    (bestF l' fr tt ready' ch').2.2 = true ∧ (bestF l' fr tt ready' ch').2.1 ≤ (bestF l fr tt ready ch).2.1 := by
  unfold bestF at h ⊢
  cases hy : it l fr ready (daysI ch) 8 tt with
  | none => rw [hy] at h; cases h
  | some y =>
    rw [hy] at h
    simp only at h
    by_cases hft : fr = tt
    · rw [if_pos hft] at h; cases h
    · rcases (iter_sound 8 tt y hy).2 with e | ⟨j, hj, hw⟩
      · exact absurd e.symm hft
      · obtain ⟨o, ho, hl⟩ := iter_best (hw.mono hL hr hc) hj
        rw [show it l' fr ready' (daysI ch') 8 tt = some o from ho]
        simp only [if_neg hft]
        exact ⟨trivial, by omega⟩
theorem links_take (l : List S35) (n : Nat) : ∀ x, x ∈ links (l.take n) → x ∈ links l := by
  intro x hx
  unfold links at hx ⊢
  obtain ⟨⟨i, f, t⟩, hp, rfl⟩ := List.mem_map.1 hx
  obtain ⟨h1, h2, h3, h4⟩ := va_mem _ hp
  rw [List.length_take] at h1
  have e : vy (l.take n) i = vy l i := by
    unfold vy rd_T35
    rw [List.getD_eq_getElem?_getD, List.getD_eq_getElem?_getD, Int.toNat_natCast, List.getElem?_take_of_lt (by omega)]
  simp only at h1 h2 h3 h4
  rw [e] at h3 h4
  refine List.mem_map.2 ⟨(i, f, t), mem_va (by omega) h2 h3 h4, ?_⟩
  unfold lk cl
  rw [e]
/-- few: it tells something; and if so there are few. -/
theorem few_l0 (l : List S35) (hl : l.length ≤ 9223372036854775807) (d : Nat) : ∀ i : Nat, i + d = l.length → ∃ b, Ev (fun k => supercargolaw16_few.l0 k l (i : Nat)) b ∧ (b = true → l.length ≤ 8) := by
  induction d with
  | zero =>
    intro i hi
    refine ⟨decide ((l.length : Int) ≤ 8), succ ?_, fun h => by have := of_decide_eq_true h; omega⟩
    simp only [supercargolaw16_few.l0]
    exact ev_neg (by omega) (now rfl)
  | succ d ih =>
    intro i hi
    by_cases hc : (((rd_T35 l (i : Nat)).f1).length : Int) > 8
    · refine ⟨false, succ ?_, fun h => by cases h⟩
      simp only [supercargolaw16_few.l0]
      exact ev_pos (by omega) (ev_pos (by omega) (ev_pos hc (now rfl)))
    · obtain ⟨b, hb, hb2⟩ := ih (i + 1) (by omega)
      refine ⟨b, succ ?_, hb2⟩
      simp only [supercargolaw16_few.l0]
      refine ev_pos (by omega) (ev_pos (by omega) (ev_neg hc ?_))
      rw [wrap_in (by omega) (by omega)]
      exact hb
theorem few_ev (l : List S35) (hl : l.length ≤ 9223372036854775807) : ∃ b, Ev (fun k => supercargolaw16_few.f k l) b ∧ (b = true → l.length ≤ 8) := few_l0 l hl l.length 0 (by omega)
theorem best_f {l : List S35} {fr tt : ByteArray} {ready ch : Int} (hl : l.length ≤ 8) (hf : fr.size ≤ maxLen) (ht : tt.size ≤ maxLen) : port_Best.f l fr tt ready ch = some (bestF l fr.data.toList tt.data.toList ready ch) := if_pos ⟨by omega, hf, ht⟩
theorem sooner_j1 {d d3 : Int} {b b3 : Bool} (h : b3 = true → b = true ∧ d ≤ d3) : Ev (fun k => supercargolaw16_PortSooner.j1 k d b d3 b3 false) true := by
  refine succ ?_
  simp only [supercargolaw16_PortSooner.j1]
  refine ev_neg (by decide) (ev_ite (fun e => ?_) (fun _ => now rfl))
  obtain ⟨h1, h2⟩ := h e
  exact ev_pos h1 (now (decide_eq_true h2))
theorem sooner_law (l : List S35) (a1 : Int) (a2 a3 : ByteArray) (a4 a5 a6 a7 : Int) (hl : l.length ≤ 9223372036854775807) (h2 : a2.size ≤ maxLen) (h3 : a3.size ≤ maxLen) (h1 : 0 ≤ a1 ∧ a1 ≤ 255) (h6 : 0 ≤ a6 ∧ a6 ≤ 255) (h7 : 0 ≤ a7 ∧ a7 ≤ 255) :
    Ev (fun k => supercargolaw16_PortSooner.f k l a1 a2 a3 a4 a5 a6 a7) true := by
  have out : Ev (fun k => supercargolaw16_PortSooner.j0 k l a1 a2 a3 a4 a5 a6 a7 true) true := by
    refine succ ?_
    simp only [supercargolaw16_PortSooner.j0]
    exact ev_pos trivial (now rfl)
  obtain ⟨b, hb, hb2⟩ := few_ev l hl
  have H2 := Aside0.mk h2
  have H3 := Aside0.mk h3
  clear h2 h3 hl
  unfold supercargolaw16_PortSooner.f
  refine ev_some (show awake.f = some true from rfl) (ev_pos rfl (Ev.bind hb ?_))
  refine ev_ite (fun hf => ?_) (fun _ => out)
  have hl8 := hb2 hf
  refine ev_ite (fun _ => out) (fun c1 => ev_ite (fun _ => out) (fun c2 => ev_ite (fun _ => out) (fun c3 => ?_)))
  by_cases c4 : a5 > 1048576
  · rw [decide_eq_true c4]; exact out
  · rw [decide_eq_false c4]
    refine succ ?_
    simp only [supercargolaw16_PortSooner.j0]
    have e1 : wrap64 (a4 - wrap64 a6) = a4 - a6 := by rw [wrap_in (x := a6) (by omega) (by omega), wrap_in (by omega) (by omega)]
    have e2 : wrap64 (a5 - wrap64 a7) = a5 - a7 := by rw [wrap_in (x := a7) (by omega) (by omega), wrap_in (by omega) (by omega)]
    have e3 : wrap64 ((l.length : Int) + 1) = (l.length : Int) + 1 := wrap_in (by omega) (by omega)
    have e4 : wrap64 a1 = a1 := wrap_in (by omega) (by omega)
    rw [e1, e2, e3, e4]
    have t1 : 0 ≤ Int.tmod a1 ((l.length : Int) + 1) := Int.tmod_nonneg _ h1.1
    have t2 : Int.tmod a1 ((l.length : Int) + 1) < (l.length : Int) + 1 := Int.tmod_lt_of_pos _ (by omega)
    obtain ⟨n, hn⟩ : ∃ n, Int.tmod a1 ((l.length : Int) + 1) = n := ⟨_, rfl⟩
    rw [hn] at t1 t2 ⊢
    have m1 := best_mono (l := l) (l' := l) (fr := a2.data.toList) (tt := a3.data.toList) (ready := a4) (ready' := a4 - a6) (ch := a5) (ch' := a5) (fun _ h => h) (by omega) (Int.le_refl _)
    have m2 := best_mono (l := l) (l' := l) (fr := a2.data.toList) (tt := a3.data.toList) (ready := a4) (ready' := a4) (ch := a5) (ch' := mx 0 (a5 - a7)) (fun _ h => h) (Int.le_refl _) (by unfold daysI mx; split <;> omega)
    have m3 := best_mono (l := l.take n.toNat) (l' := l) (fr := a2.data.toList) (tt := a3.data.toList) (ready := a4) (ready' := a4) (ch := a5) (ch' := a5) (links_take l _) (Int.le_refl _) (Int.le_refl _)
    have hlt : (l.take n.toNat).length ≤ 8 := by rw [List.length_take]; omega
    have b0 := best_f (ready := a4) (ch := a5) hl8 H2.out H3.out
    have b1 := best_f (ready := a4 - a6) (ch := a5) hl8 H2.out H3.out
    have b2 := best_f (ready := a4) (ch := mx 0 (a5 - a7)) hl8 H2.out H3.out
    have b3 := best_f (ready := a4) (ch := a5) hlt H2.out H3.out
    generalize bestF l a2.data.toList a3.data.toList a4 a5 = t0 at *
    generalize bestF l a2.data.toList a3.data.toList (a4 - a6) a5 = t1' at *
    generalize bestF l a2.data.toList a3.data.toList a4 (mx 0 (a5 - a7)) = t2' at *
    generalize bestF (l.take n.toNat) a2.data.toList a3.data.toList a4 a5 = t3 at *
    refine ev_neg (fun h => by cases h) ?_
    refine ev_some b0 ?_
    refine ev_some b1 ?_
    refine ev_some b2 ?_
    refine ev_neg (by omega) ?_
    refine ev_pos t1 ?_
    refine ev_pos (by omega) ?_
    refine ev_some b3 ?_
    have fin := sooner_j1 (d := t0.2.1) (b := t0.2.2) m3
    refine ev_ite (fun hb0 => ?_) (fun _ => fin)
    obtain ⟨p1, p2⟩ := m1 hb0
    obtain ⟨q1, q2⟩ := m2 hb0
    refine ev_pos p1 ?_
    refine ev_neg (by omega) ?_
    refine ev_pos q1 ?_
    rw [decide_eq_false (show ¬ t2'.2.1 > t0.2.1 by omega)]
    exact fin
end Go.Proofs.YtbojieeildhlcaaDoor.Port
