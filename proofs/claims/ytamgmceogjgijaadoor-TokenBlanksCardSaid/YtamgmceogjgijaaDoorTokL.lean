/- TokenScans, plain. -/
import Derived.Test.YtamgmceogjgijaaDoorTokS
namespace Go.Proofs.YtamgmceogjgijaaDoor.Tok
open Go.RowKit Go.Proofs.YtamgmceogjgijaaDoorW.PrintWords Go.Proofs.YtamgmceogjgijaaDoorW.PrintLast Go.Proofs.YtamgmceogjgijaaDoorW.PrintMore Go.Proofs.YtamgmceogjgijaaDoor.G Go.Proofs.YtamgmceogjgijaaDoor.Ext
set_option linter.unusedVariables false
set_option linter.unusedSimpArgs false

theorem same_self (l : List S31) (hl : l.length ≤ 1000000) : Ev (fun k => supercargoref27_Same.f k l l) true := by
  unfold supercargoref27_Same.f
  refine ev_pos rfl ?_
  suffices h : ∀ d i, i + d = l.length → Ev (fun k => supercargoref27_Same.l0 k l l (i : Nat)) true from h l.length 0 (by omega)
  intro d
  induction d with
  | zero =>
    intro i hi
    refine succ ?_
    simp only [supercargoref27_Same.l0]
    exact ev_neg (by omega) (Ev.now _)
  | succ d ih =>
    intro i hi
    refine succ ?_
    simp only [supercargoref27_Same.l0]
    refine ev_pos (by omega) (ev_pos (by omega) (ev_pos (by omega) (ev_neg (by simp) ?_)))
    rw [wrap_in (by omega) (by omega)]
    exact ih (i + 1) (by omega)
/-- Kind and text. -/
def key (x : S31) : Int × ByteArray := (x.f0, x.f2)
theorem rd_at (l : List S31) (i : Nat) (h : i < l.length) : rd_T31 l (i : Nat) = l[i] := by
  unfold rd_T31
  rw [Int.toNat_natCast, List.getD_eq_getElem?_getD, List.getElem?_eq_getElem h]
  rfl
theorem alike_ev (a b : List S31) (hl : a.length ≤ 1000000) (h : a.map key = b.map key) : Ev (fun k => supercargoref27_Alike.f k a b) true := by
  have hlen : a.length = b.length := by simpa using congrArg List.length h
  unfold supercargoref27_Alike.f
  refine ev_pos (by omega) ?_
  suffices h2 : ∀ d i, i + d = a.length → Ev (fun k => supercargoref27_Alike.l0 k a b (i : Nat)) true from h2 a.length 0 (by omega)
  intro d
  induction d with
  | zero =>
    intro i hi
    refine succ ?_
    simp only [supercargoref27_Alike.l0]
    exact ev_neg (by omega) (Ev.now _)
  | succ d ih =>
    intro i hi
    have e : key a[i] = key b[i] := by
      have h3 : (a.map key)[i]'(by rw [List.length_map]; omega) = (b.map key)[i]'(by rw [List.length_map]; omega) := by simp only [h]
      simpa using h3
    simp only [key, Prod.mk.injEq] at e
    refine succ ?_
    simp only [supercargoref27_Alike.l0]
    refine ev_pos (by omega) (ev_pos (by omega) (ev_pos (by omega) ?_))
    rw [rd_at a i (by omega), rd_at b i (by omega)]
    refine ev_pos e.1 (ev_pos (by rw [e.2]) ?_)
    rw [wrap_in (by omega) (by omega)]
    exact ih (i + 1) (by omega)
theorem run_of (s : ByteArray) (hs : s.size ≤ 4000) : ∃ l n e, Run s 0 l n e ∧ l.length < 4096 ∧ n ≤ s.size := by
  obtain ⟨l, n, e, h, hl, hn⟩ := run_ex s (by omega) s.size 0 (by omega) (by omega)
  exact ⟨l, n, e, h, by omega, hn⟩
theorem scans_pure (a0 : ByteArray) : Ev (fun k => supercargolaw27_TokenScans.f k a0) true := by
  unfold supercargolaw27_TokenScans.f
  refine Ev.bind awake_ev (ev_pos rfl (ev_ite (fun _ => Ev.now _) (fun a => ?_)))
  have hs : a0.size ≤ 3000 := by omega
  obtain ⟨l, n, e, h, hl, hn⟩ := run_of a0 (by omega)
  refine Ev.bind (scan_ev (by omega) h hl) (Ev.bind (ref_scan (by omega) h hl) ?_)
  refine Ev.bind (same_self _ (by
    show (if e = 0 then l else []).length ≤ _
    split
    · omega
    · exact Nat.zero_le _)) ?_
  exact ev_pos rfl (ev_pos rfl (now (by simp)))
end Go.Proofs.YtamgmceogjgijaaDoor.Tok
