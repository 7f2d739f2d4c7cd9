/- Texts set one behind the other; a token alone is itself. -/
import Derived.Test.YtamgmceogjgijaaDoorTokD
namespace Go.Proofs.YtamgmceogjgijaaDoor.Tok
open Go.RowKit Go.Proofs.YtamgmceogjgijaaDoorW.PrintWords Go.Proofs.YtamgmceogjgijaaDoorW.PrintLast Go.Proofs.YtamgmceogjgijaaDoorW.PrintMore Go.Proofs.YtamgmceogjgijaaDoor.G Go.Proofs.YtamgmceogjgijaaDoor.Ext
set_option linter.unusedVariables false
set_option linter.unusedSimpArgs false

def shift (p : Nat) (l : List S31) : List S31 := l.map fun x => ⟨x.f0, x.f1 + (p : Nat), x.f2⟩
theorem tk_move {u s : ByteArray} {p j : Nat} (h : Mv p (tokAt s j) (tokAt u (p + j))) : tkS u (p + j) = ⟨(tkS s j).f0, (tkS s j).f1 + (p : Nat), (tkS s j).f2⟩ := by
  unfold tkS
  rw [h.1, h.2.1]
  congr 1
  show ((p + j : Nat) : Int) = (j : Int) + (p : Nat)
  omega
/-- What a text ends with. -/
theorem run_suffix {u s : ByteArray} {p : Nat} (hA : u.size = p + s.size) (hX : u.extract p (p + s.size) = s) (hs : s.size ≤ 1000000) {i n : Nat} {l : List S31} {e : Int} (h : Run s i l n e) : i ≤ s.size → Run u (p + i) (shift p l) (p + n) e := by
  have hB := ext_bt (by omega) hX
  have hbl : ∀ i, i ≤ s.size → bl u (p + i) = p + bl s i := fun i hi => span_move blankI (by omega) hB hi (.inr (.inl hA))
  induction h with
  | done h => intro hi; rw [← hA]; exact .done (by rw [hbl _ hi, h, hA])
  | stop hb hj he =>
    intro hi
    have hm := tok_move (by omega) hX hj (.inl hA)
    rw [← hm.2.2.1]
    exact .stop (by rw [hbl _ hi, hb]) (by omega) (by rw [hm.2.2.1]; exact he)
  | @step i j l n e hb hj he hr ih =>
    intro hi
    have hm := tok_move (by omega) hX hj (.inl hA)
    have hf := fin_range s j hj hs he
    have e1 : shift p (tkS s j :: l) = tkS u (p + j) :: shift p l := by rw [tk_move hm]; rfl
    rw [e1]
    refine .step (by rw [hbl _ hi, hb]) (by omega) (by rw [hm.2.2.1]; exact he) ?_
    rw [hm.2.2.2 he]
    exact ih hf.2
theorem run_bl {u : ByteArray} {i i' n : Nat} {l : List S31} {e : Int} (hb : bl u i' = bl u i) (h : Run u i l n e) : Run u i' l n e := by
  cases h with
  | done h => exact .done (by rw [hb]; exact h)
  | stop h1 h2 h3 => exact .stop (by rw [hb]; exact h1) h2 h3
  | step h1 h2 h3 h4 => exact .step (by rw [hb]; exact h1) h2 h3 h4
/-- Blanks alone from one place to another. -/
theorem bl_skip {u : ByteArray} {i i' : Nat} (h1 : i ≤ i') (h2 : i' ≤ u.size) (h : ∀ k : Nat, i ≤ k → k < i' → blankI (bt u (k : Nat)) = true) : bl u i = bl u i' := by
  have hr := bl_range u i' h2
  unfold bl at hr ⊢
  refine span_eq blankI u _ i _ (by omega) (by omega) (fun k a b => ?_) (fun hh => ?_)
  · rcases Nat.lt_or_ge k i' with c | c
    · exact h k a c
    · exact span_in blankI u (u.size - i') i' k c b
  · exact span_stop blankI u _ i' (by omega)
/-- What a text begins with, where a blank stands behind it. -/
theorem run_prefix {u s : ByteArray} (hA : s.size < u.size) (hX : u.extract 0 (0 + s.size) = s) (hK : blankI (bt u ((0 + s.size : Nat) : Int)) = true) (hs : s.size ≤ 1000000) {c : List S31} {m : Nat} {f : Int} (hc : Run u s.size c m f)
    {i n : Nat} {l : List S31} {e : Int} (h : Run s i l n e) : e = 0 → i ≤ s.size → Run u i (l ++ c) m f := by
  have hB := ext_bt (p := 0) (by omega) hX
  induction h with
  | @done i h =>
    intro _ hi
    refine run_bl (bl_skip hi (by omega) (fun k a b => ?_)) hc
    have e1 := hB k b
    rw [Nat.zero_add] at e1
    rw [e1]
    exact span_in blankI s (s.size - i) i k a (by unfold bl at h; omega)
  | stop _ _ h => intro he; exact absurd he h
  | @step i j l n e hb hj he hr ih =>
    intro h0 hi
    have hbl : bl u (0 + i) = 0 + bl s i := span_move blankI (by omega) hB hi (.inl (by unfold bl at hb; omega))
    rw [Nat.zero_add, Nat.zero_add] at hbl
    have hm := tok_move (u := u) (s := s) (p := 0) (by omega) hX hj (.inr ⟨he, hK⟩)
    have hf := fin_range s j hj hs he
    have ht := tk_move hm
    have hfin := hm.2.2.2 he
    have herr := hm.2.2.1
    rw [Nat.zero_add] at ht hfin herr
    have e1 : tkS u j = tkS s j := by rw [ht]; congr 1
    rw [Nat.zero_add] at hfin
    rw [List.cons_append, ← e1]
    refine .step (by rw [hbl, hb]) (by omega) (by rw [herr]; exact he) ?_
    rw [hfin]
    exact ih h0 hf.2
theorem ap_ex (a b : ByteArray) : (a ++ b).extract 0 (0 + a.size) = a := by
  rw [Nat.zero_add]
  exact ByteArray.extract_append_eq_left rfl
theorem ap_ex2 (a b : ByteArray) : (a ++ b).extract a.size (a.size + b.size) = b := ByteArray.extract_append_eq_right rfl rfl
theorem ap_size (a b : ByteArray) : (a ++ b).size = a.size + b.size := ByteArray.size_append
/-- Two texts with blanks between. -/
theorem run_join {s g t : ByteArray} (hg : 0 < g.size) (hbk : ∀ k : Nat, k < g.size → blankI (bt g (k : Nat)) = true) (hs : s.size ≤ 1000000) (ht : t.size ≤ 1000000) {l c : List S31} {n m : Nat} {f : Int} (h1 : Run s 0 l n 0) (h2 : Run t 0 c m f) :
    Run ((s ++ g) ++ t) 0 (l ++ shift (s.size + g.size) c) (s.size + g.size + m) f := by
  have z1 := ap_size s g
  have z2 := ap_size (s ++ g) t
  have x1 : ((s ++ g) ++ t).extract 0 (0 + s.size) = s := by
    have h3 := ap_ex (s ++ g) t
    have h4 := ext_ex (u := (s ++ g) ++ t) (s := s ++ g) (p := 0) (by omega) h3 0 s.size (by omega)
    rw [Nat.zero_add, Nat.zero_add] at h4
    rw [Nat.zero_add, h4]
    have := ap_ex s g
    rwa [Nat.zero_add] at this
  have x2 : ((s ++ g) ++ t).extract (s.size + g.size) (s.size + g.size + t.size) = t := by rw [← z1]; exact ap_ex2 (s ++ g) t
  have hb : ∀ k : Nat, k < g.size → bt ((s ++ g) ++ t) ((s.size + k : Nat) : Int) = bt g (k : Nat) := by
    intro k hk
    have e1 := ext_bt (u := (s ++ g) ++ t) (s := s ++ g) (p := 0) (by omega) (ap_ex (s ++ g) t) (s.size + k) (by omega)
    rw [Nat.zero_add] at e1
    rw [e1]
    exact ext_bt (u := s ++ g) (s := g) (p := s.size) (by omega) (ap_ex2 s g) k hk
  have h3 := run_suffix (by omega) x2 ht h2 (Nat.zero_le _)
  rw [Nat.add_zero] at h3
  have h4 : Run ((s ++ g) ++ t) s.size (shift (s.size + g.size) c) (s.size + g.size + m) f := by
    refine run_bl (bl_skip (by omega) (by omega) (fun k a b => ?_)) h3
    have e1 := hb (k - s.size) (by omega)
    rw [show s.size + (k - s.size) = k by omega] at e1
    rw [e1]
    exact hbk _ (by omega)
  have h5 := hb 0 hg
  refine run_prefix (by omega) x1 ?_ hs h4 h1 rfl (Nat.zero_le _)
  rw [show 0 + s.size = s.size + 0 by omega, h5]
  exact hbk 0 hg
end Go.Proofs.YtamgmceogjgijaaDoor.Tok
