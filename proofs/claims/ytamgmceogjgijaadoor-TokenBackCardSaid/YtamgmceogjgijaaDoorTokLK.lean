/- TokenBack, plain. -/
import Derived.Test.YtamgmceogjgijaaDoorTokJ
import Derived.Test.YtamgmceogjgijaaDoorH7
namespace Go.Proofs.YtamgmceogjgijaaDoor.Tok
open Go.RowKit Go.Proofs.YtamgmceogjgijaaDoorW.PrintWords Go.Proofs.YtamgmceogjgijaaDoorW.PrintLast Go.Proofs.YtamgmceogjgijaaDoorW.PrintMore Go.Proofs.YtamgmceogjgijaaDoor.G Go.Proofs.YtamgmceogjgijaaDoor.Ext
set_option linter.unusedVariables false
set_option linter.unusedSimpArgs false

theorem show_key {x y : S31} (h : key x = key y) : showS x = showS y := by
  simp only [key, Prod.mk.injEq] at h
  unfold showS
  rw [h.1, h.2]
theorem good_key {x y : S31} (h : key x = key y) (hg : Good x) : Good y := by
  unfold Good at hg ⊢
  rw [← show_key h]
  simp only [key, Prod.mk.injEq] at h
  rw [← h.1, ← h.2]
  exact hg
theorem shows_key : ∀ {a b : List S31}, a.map key = b.map key → a.map showS = b.map showS
  | [], [], _ => rfl
  | [], _ :: _, h => by simp at h
  | _ :: _, [], h => by simp at h
  | x :: a, y :: b, h => by
    simp only [List.map_cons, List.cons.injEq] at h ⊢
    exact ⟨show_key h.1, shows_key h.2⟩
theorem goods_key {a b : List S31} (h : a.map key = b.map key) (hg : ∀ x, x ∈ a → Good x) : ∀ y, y ∈ b → Good y := by
  intro y hy
  have h1 : key y ∈ a.map key := by rw [h]; exact List.mem_map.2 ⟨y, hy, rfl⟩
  obtain ⟨x, hx, he⟩ := List.mem_map.1 h1
  exact good_key he (hg x hx)
theorem J_pos : ∀ (l : List S31), (∀ x, x ∈ l → Good x) → l ≠ [] → 0 < (J l).size
  | [], _, h => absurd rfl h
  | [x], hg, _ => by rw [J_one]; exact (hg x (List.mem_cons_self ..)).2
  | x :: y :: r, hg, _ => by
    rw [J_cons, ap_size, ap_size]
    have := (hg x (List.mem_cons_self ..)).2
    omega
theorem back_pure (a0 : ByteArray) : Ev (fun k => supercargolaw27_TokenBack.f k a0) true := by
  unfold supercargolaw27_TokenBack.f
  refine Ev.bind awake_ev (ev_pos rfl (ev_ite (fun _ => Ev.now _) (fun a => ?_)))
  have hs : a0.size ≤ 3000 := by omega
  obtain ⟨l, n, e, h, hl, hn⟩ := run_of a0 (by omega)
  refine Ev.bind (scan_ev (by omega) h hl) (ev_ite (fun h0 => ?_) (fun h0 => ?_))
  · have h0' : e = 0 := h0
    subst h0'
    simp only [if_true]
    have hg := run_good (by omega) h (Nat.zero_le _)
    have hsum := run_sum (by omega) h (Nat.zero_le _)
    have hend := run_end h
    obtain ⟨m, hm, hk⟩ := run_J l hg (by omega)
    have hml : m.length = l.length := by simpa using congrArg List.length hk
    have hJ := J_size l
    have hgm := goods_key hk.symm hg
    have hsm := shows_key hk
    have hsum2 : (m.map fun x => (showS x).size) = l.map fun x => (showS x).size := by
      have h1 := congrArg (List.map ByteArray.size) hsm
      rw [List.map_map, List.map_map] at h1
      exact h1
    have hJm : J m = J l := by unfold J; rw [hsm]
    refine Ev.bind (join_ev l hg (by omega) (by omega)) (Ev.bind (scan_ev (by omega) hm (by omega)) ?_)
    simp only [if_true]
    refine ev_pos (by omega) (Ev.bind (alike_ev l m (by omega) hk.symm) (ev_pos rfl (Ev.bind (join_ev m hgm (by rw [hsum2]; omega) (by omega)) (ev_pos (by rw [hJm]) (now ?_)))))
    rw [beq_iff_eq, Bool.eq_iff_iff]
    simp only [beq_iff_eq]
    rw [ByteArray.toList_eq]
    constructor
    · intro h1
      rcases l with _ | ⟨x, r⟩
      · rfl
      · exfalso
        have h2 := J_pos (x :: r) hg (by simp)
        have h3 : (J (x :: r)).size = (J (x :: r)).data.toList.length := rfl
        rw [h1, List.length_nil] at h3
        omega
    · intro h1
      have h2 : l = [] := List.eq_nil_of_length_eq_zero (by omega)
      rw [h2]
      rfl
  · have h0' : ¬ e = 0 := h0
    have hst := run_stop h h0'
    show Ev (fun k => if (((if e = 0 then l else [] : List S31).length : Nat) : Int) = 0 then (if (n : Int) ≥ 0 then some (decide ((n : Int) < (a0.size : Int))) else some false) else some false) true
    rw [if_neg h0']
    exact ev_pos rfl (ev_pos (by omega) (now (by rw [decide_eq_true_eq]; omega)))
end Go.Proofs.YtamgmceogjgijaaDoor.Tok
