/- TokenPlaces, plain. -/
import Derived.Test.YtamgmceogjgijaaDoorTokL
import Derived.Test.YtamgmceogjgijaaDoorGx7
namespace Go.Proofs.YtamgmceogjgijaaDoor.Tok
open Go.RowKit Go.Proofs.YtamgmceogjgijaaDoorW.PrintWords Go.Proofs.YtamgmceogjgijaaDoorW.PrintLast Go.Proofs.YtamgmceogjgijaaDoorW.PrintMore Go.Proofs.YtamgmceogjgijaaDoor.G Go.Proofs.YtamgmceogjgijaaDoor.Ext
set_option linter.unusedVariables false
set_option linter.unusedSimpArgs false

theorem places_l0 {s : ByteArray} (hs : s.size ≤ 1000000) (L : List S31) (hL : L.length ≤ 1000000) {i n : Nat} {l : List S31} {e : Int} (h : Run s i l n e) : e = 0 → i ≤ s.size → ∀ pre, L = pre ++ l → Ev (fun k => supercargolaw27_TokenPlaces.l0 k s L (i : Nat) (pre.length : Nat)) true := by
  induction h with
  | done _ =>
    intro _ hi pre hp
    refine succ ?_
    simp only [supercargolaw27_TokenPlaces.l0]
    refine ev_neg ?_ (Ev.now _)
    rw [hp, List.append_nil]
    omega
  | stop _ _ h => intro h0; exact absurd h0 h
  | @step i j l n e hb hj he hr ih =>
    intro h0 hi pre hp
    obtain ⟨m, hm⟩ : ∃ m, pre.length = m := ⟨_, rfl⟩
    have hml : m < L.length := by rw [hp, List.length_append, List.length_cons]; omega
    have hrd : rd_T31 L (m : Nat) = tkS s j := by
      rw [rd_at L m hml]
      simp only [hp]
      rw [List.getElem_append_right (by omega)]
      simp [hm]
    have hf := fin_range s j hj hs he
    obtain ⟨_, hshow⟩ := tok_alone hj hs he
    have hz := size_ex s j (tokAt s j).fin hf.2
    have hbr := bl_range s i hi
    have next := ih h0 hf.2 (pre ++ [tkS s j]) (by rw [hp, List.append_assoc]; rfl)
    rw [List.length_append, hm, List.length_singleton] at next
    obtain ⟨f, hff⟩ : ∃ f, (tokAt s j).fin = f := ⟨_, rfl⟩
    rw [hff] at hf hshow hz next
    have hj1 : (tkS s j).f1 = (j : Int) := rfl
    have body : ∀ z : Int, z = ((f - j : Nat) : Int) → Ev (fun k => supercargolaw27_TokenPlaces.j1 k s L (i : Nat) (m : Nat) z) true := by
      intro z hzz
      subst hzz
      refine succ ?_
      simp only [supercargolaw27_TokenPlaces.j1]
      rw [hrd, hj1, wrap_in (x := (j : Int) + ((f - j : Nat) : Int)) (by omega) (by omega)]
      refine ev_pos (by omega) (ev_pos (by omega) (ev_neg (by omega) (ev_neg (by omega) (succ ?_))))
      simp only [supercargolaw27_TokenPlaces.j2]
      refine ev_neg (by rw [decide_eq_true_eq]; omega) ?_
      suffices h2 : ∀ d q : Nat, i ≤ q → q + d = j → Ev (fun k => supercargolaw27_TokenPlaces.l1 k s L (m : Nat) ((f - j : Nat) : Int) (q : Nat)) true from h2 (j - i) i (Nat.le_refl _) (by omega)
      intro d
      induction d with
      | zero =>
        intro q hq hqd
        obtain rfl : q = j := by omega
        refine succ ?_
        simp only [supercargolaw27_TokenPlaces.l1]
        rw [hrd, hj1, wrap_in (x := (q : Int) + ((f - q : Nat) : Int)) (by omega) (by omega), wrap_in (x := (m : Int) + 1) (by omega) (by omega), show (q : Int) + ((f - q : Nat) : Int) = (f : Nat) by omega]
        refine ev_pos (by omega) (ev_pos (by omega) (ev_neg (by omega) (ev_pos (by omega) (ev_pos (by omega) (ev_pos (by omega) ?_)))))
        rw [Int.toNat_natCast, Int.toNat_natCast, ← hshow]
        unfold showS
        refine ev_ite (fun a => ?_) (fun a => ?_)
        · have hq1 := quoted_size (tkS s q).f2
          have hzz : (showS (tkS s q)).size = f - q := by rw [hshow]; exact hz
          unfold showS at hzz
          rw [if_pos a] at hzz ⊢
          have hap := ap_size (⟨#[34]⟩ : ByteArray) (tkS s q).f2
          have e1 : (⟨#[34]⟩ : ByteArray).size = 1 := rfl
          exact ev_pos (by omega) (ev_pos (by omega) (ev_pos rfl next))
        · rw [if_neg a]
          exact ev_pos rfl next
      | succ d ihd =>
        intro q hq hqd
        refine succ ?_
        simp only [supercargolaw27_TokenPlaces.l1]
        rw [hrd, hj1, wrap_in (x := (q : Int) + 1) (by omega) (by omega)]
        have hbk : blankI (bt s (q : Nat)) = true := span_in blankI s (s.size - i) i q hq (by unfold bl at hb; omega)
        unfold blankI at hbk
        simp only [Bool.or_eq_true, beq_iff_eq] at hbk
        have nx := ihd (q + 1) (by omega) (by omega)
        refine ev_pos (by omega) (ev_pos (by omega) (ev_pos (by omega) (ev_pos (by omega) (ev_pos (by omega) ?_))))
        refine ev_ite (fun _ => nx) (fun a => ev_pos (by rcases hbk with h | h; exact absurd h a; exact h) nx)
    rw [hm]
    refine succ ?_
    simp only [supercargolaw27_TokenPlaces.l0]
    rw [hrd]
    refine ev_pos (by omega) (ev_pos (by omega) ?_)
    have hzz : (showS (tkS s j)).size = f - j := by rw [hshow]; exact hz
    unfold showS at hzz
    refine ev_ite (fun a => body _ ?_) (fun a => body _ ?_)
    · rw [if_pos a, quoted_size] at hzz
      rw [wrap_in (by omega) (by omega)]
      omega
    · rw [if_neg a] at hzz
      omega
theorem places_pure (a0 : ByteArray) : Ev (fun k => supercargolaw27_TokenPlaces.f k a0) true := by
  unfold supercargolaw27_TokenPlaces.f
  refine Ev.bind awake_ev (ev_pos rfl (ev_ite (fun _ => Ev.now _) (fun a => ?_)))
  have hs : a0.size ≤ 3000 := by omega
  obtain ⟨l, n, e, h, hl, hn⟩ := run_of a0 (by omega)
  refine Ev.bind (scan_ev (by omega) h hl) (ev_ite (fun h0 => ?_) (fun _ => Ev.now _))
  have h0' : e = 0 := h0
  show Ev (fun k => supercargolaw27_TokenPlaces.l0 k a0 (if e = 0 then l else []) 0 0) true
  rw [if_pos h0']
  exact places_l0 (by omega) l (by omega) h h0' (Nat.zero_le _) [] rfl
end Go.Proofs.YtamgmceogjgijaaDoor.Tok
