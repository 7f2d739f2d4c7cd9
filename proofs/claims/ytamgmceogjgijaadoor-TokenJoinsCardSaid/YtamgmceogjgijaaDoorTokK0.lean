/- Tokens alike; blanks. -/
import Derived.Test.YtamgmceogjgijaaDoorTokF
import Derived.Test.YtamgmceogjgijaaDoorH14
namespace Go.Proofs.YtamgmceogjgijaaDoor.Tok
open Go.RowKit Go.Proofs.YtamgmceogjgijaaDoorW.PrintWords Go.Proofs.YtamgmceogjgijaaDoorW.PrintLast Go.Proofs.YtamgmceogjgijaaDoorW.PrintMore Go.Proofs.YtamgmceogjgijaaDoor.G Go.Proofs.YtamgmceogjgijaaDoor.Ext
set_option linter.unusedVariables false
set_option linter.unusedSimpArgs false

/-- Kind and text. -/
def key (x : S31) : Int × ByteArray := (x.f0, x.f2)
theorem rd_at (l : List S31) (i : Nat) (h : i < l.length) : rd_T31 l (i : Nat) = l[i] := by
  unfold rd_T31
  rw [Int.toNat_natCast, List.getD_eq_getElem?_getD, List.getElem?_eq_getElem h]
  rfl
theorem alike_ev (a b : List S31) (hl : a.length ≤ 1000000) (h : a.map key = b.map key) : Ev (fun k => supercargoref27_Alike.f k a b) true := by
  have hlen : a.length = b.length := by simpa using congrArg List.length h
  unfold supercargoref27_Alike.f
  refine ev_pos (by omega) ?_
  suffices h2 : ∀ d i, i + d = a.length → Ev (fun k => supercargoref27_Alike.l0 k a b (i : Nat)) true from h2 a.length 0 (by omega)
  intro d
  induction d with
  | zero =>
    intro i hi
    refine succ ?_
    simp only [supercargoref27_Alike.l0]
    exact ev_neg (by omega) (Ev.now _)
  | succ d ih =>
    intro i hi
    have e : key a[i] = key b[i] := by
      have h3 : (a.map key)[i]'(by rw [List.length_map]; omega) = (b.map key)[i]'(by rw [List.length_map]; omega) := by simp only [h]
      simpa using h3
    simp only [key, Prod.mk.injEq] at e
    refine succ ?_
    simp only [supercargoref27_Alike.l0]
    refine ev_pos (by omega) (ev_pos (by omega) (ev_pos (by omega) ?_))
    rw [rd_at a i (by omega), rd_at b i (by omega)]
    refine ev_pos e.1 (ev_pos (by rw [e.2]) ?_)
    rw [wrap_in (by omega) (by omega)]
    exact ih (i + 1) (by omega)
theorem run_of (s : ByteArray) (hs : s.size ≤ 4000) : ∃ l n e, Run s 0 l n e ∧ l.length < 4096 ∧ n ≤ s.size := by
  obtain ⟨l, n, e, h, hl, hn⟩ := run_ex s (by omega) s.size 0 (by omega) (by omega)
  exact ⟨l, n, e, h, by omega, hn⟩
def Bk (g : ByteArray) : Prop := ∀ k : Nat, k < g.size → blankI (bt g (k : Nat)) = true
theorem bk_app {g h : ByteArray} (h1 : Bk g) (h2 : Bk h) : Bk (g ++ h) := by
  intro k hk
  rw [ap_size] at hk
  rcases Nat.lt_or_ge k g.size with c | c
  · rw [bt_left g h k c]; exact h1 k c
  · obtain ⟨m, rfl⟩ : ∃ m, k = g.size + m := ⟨k - g.size, by omega⟩
    rw [bt_right g h m (by omega)]
    exact h2 m (by omega)
theorem bk32 : Bk ⟨#[32]⟩ := by
  intro k hk
  have : k = 0 := by have : (⟨#[32]⟩ : ByteArray).size = 1 := rfl; omega
  subst this; decide
theorem bk10 : Bk ⟨#[10]⟩ := by
  intro k hk
  have : k = 0 := by have : (⟨#[10]⟩ : ByteArray).size = 1 := rfl; omega
  subst this; decide
theorem bk0 : Bk (strOfNums [32]) := bk32
theorem shift_key (p : Nat) (l : List S31) : (shift p l).map key = l.map key := by
  unfold shift
  rw [List.map_map]
  rfl
theorem ba_list {a b : ByteArray} (h : a.data.toList = b.data.toList) : a = b := ByteArray.ext (Array.toList_inj.1 h)
end Go.Proofs.YtamgmceogjgijaaDoor.Tok
