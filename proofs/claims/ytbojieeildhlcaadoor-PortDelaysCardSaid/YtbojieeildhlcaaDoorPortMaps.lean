/- What was reached, as a map of the program's memory. -/
import Derived.Maps.OwnIn
import Derived.Lib.SlMapMerge
import Derived.Test.YtbojieeildhlcaaDoorBestA
import Derived.Test.YtbojieeildhlcaaDoorPortMath
namespace Go.Proofs.YtbojieeildhlcaaDoor.Port
open Go.RowKit Go.Shelf Go.Proofs.YtbojieeildhlcaaDoorW.PrintWords Go.Proofs.YtbojieeildhlcaaDoorW.PrintLast Go.Proofs.YtbojieeildhlcaaDoorW.PrintMore Go.Proofs.YtbojieeildhlcaaDoor.G Go.Proofs.YtbojieeildhlcaaDoor.Ext Go.Proofs.YtbojieeildhlcaaDoor.PortMath
set_option linter.unusedVariables false
set_option linter.unusedSimpArgs false

abbrev Nm := List UInt8
abbrev Rg := Rc Nm S30
/-- A stored value is held as it is. -/
def Rw : Value → Option (DataW Value × List MemPlace) := fun v => some (.held v, [])
theorem K9 : Maps.Keyed Tryd.prog 9 := Maps.string_keyed Tryd.underlying9
def wv (d : Int) (A : Option Addr) (n c : Nat) : Value := .agg #[.int .i64 d, .slice A n c]
def EntryOK (W : World) (D : DataW Value) (q : Nm) : Option (Int × List S30) → Prop
  | none => Maps.has D (.string q) = false
  | some y => Maps.has D (.string q) = true ∧ ∃ A c, (∀ z, D.atKey (.string q) z = .held (wv y.1 A y.2.length c)) ∧ Kd.C k30 W A y.2.length y.2 ∧ y.2.length ≤ c
def MapW (W : World) (b n : Nat) (N : Rg) : Prop := ∃ D, W.ownsMap Tryd.prog 9 Rw b n D ∧ ∀ q, EntryOK W D q (N q)

theorem EntryOK.ck {W W' : World} {D : DataW Value} {q : Nm} {o : Option (Int × List S30)} (h : EntryOK W D q o) (hk : CK W W') : EntryOK W' D q o := by
  cases o with
  | none => exact h
  | some y =>
    obtain ⟨h1, A, c, h2, h3, h4⟩ := h
    exact ⟨h1, A, c, h2, C30_ck h3 hk, h4⟩
theorem owns_same {W W' : World} {b n : Nat} {D : DataW Value} (h : W.ownsMap Tryd.prog 9 Rw b n D) (hb : W'.heap[b]? = W.heap[b]?) : W'.ownsMap Tryd.prog 9 Rw b n D := by
  obtain ⟨es, clock, h1, h2⟩ := h
  exact ⟨es, clock, hb.trans h1, h2⟩
theorem MapW.same {W W' : World} {b n : Nat} {N : Rg} (h : MapW W b n N) (hb : W'.heap[b]? = W.heap[b]?) (hk : CK W W') : MapW W' b n N := by
  obtain ⟨D, h1, h2⟩ := h
  exact ⟨D, owns_same h1 hb, fun q => (h2 q).ck hk⟩
theorem MapW.lt {W : World} {b n : Nat} {N : Rg} (h : MapW W b n N) : b < W.heap.size := by
  obtain ⟨D, h1, _⟩ := h
  exact h1.lt
theorem MapW.mono {W : World} {b n n' : Nat} {N : Rg} (h : MapW W b n N) (hn : n ≤ n') : MapW W b n' N := by
  obtain ⟨D, h1, h2⟩ := h
  exact ⟨D, h1.mono hn, h2⟩
theorem MapW.row {W : World} {b n : Nat} {N : Rg} (h : MapW W b n N) : ∃ o : Obj, W.heap[b]? = some o ∧ o.isCells = false := by
  obtain ⟨D, ⟨es, clock, h1, _⟩, _⟩ := h
  exact ⟨_, h1, rfl⟩
theorem mapW_made (w : World) : MapW (w.alloc (.map #[] 0)) w.heap.size 0 (fun _ => none) := ⟨_, World.ownsMap_made w _ _ _, fun q => rfl⟩
theorem key9 {s : ByteArray} (hs : s.size ≤ maxLen) : keyOf Tryd.prog 9 (.string s) = some (.string s.data.toList) := WideMaps.keyOf_string_mk Tryd.underlying9 hs
theorem lit_ne {q q' : Nm} (h : q ≠ q') : Lit.string q ≠ Lit.string q' := fun e => h (by injection e)
/-- A store into a map. -/
theorem mapW_put {W W2 : World} {b n : Nat} {N : Rg} {D : DataW Value} {s : ByteArray} {y : Int × List S30} {A : Option Addr} {c : Nat} (hs : s.size ≤ maxLen) (hm : Maps.IsMap D) (h : ∀ q, EntryOK W D q (N q))
    (h2 : W2.ownsMap Tryd.prog 9 Rw b n (D.put (.string s.data.toList) (.held (wv y.1 A y.2.length c)))) (hk : CK W W2) (hC : Kd.C k30 W2 A y.2.length y.2) (hc : y.2.length ≤ c) : MapW W2 b n (PortMath.put N s.data.toList y) := by
  refine ⟨_, h2, fun q => ?_⟩
  have hkey := K9.key (key9 hs)
  by_cases e : q = s.data.toList
  · subst e
    rw [put_same]
    exact ⟨Maps.has_put_same hm hkey _, A, c, fun z => Maps.atKey_put_same hm hkey _ z, hC, hc⟩
  · rw [put_other _ _ e]
    have h0 := (h q).ck hk
    cases hN : N q with
    | none =>
      rw [hN] at h0
      exact (Maps.has_put_other (lit_ne e) _).trans h0
    | some o =>
      rw [hN] at h0
      obtain ⟨h1, A', c', h3, h4⟩ := h0
      exact ⟨(Maps.has_put_other (lit_ne e) _).trans h1, A', c', fun z => (Maps.atKey_put_other (lit_ne e) _ z).trans (h3 z), h4⟩
/-- What a look-up finds. -/
theorem look_none {W : World} {D : DataW Value} {q : Nm} {v : Value} {ps : List MemPlace} {z : Value} (h : EntryOK W D q none) (hv : Rw v = some (D.atKey (.string q) (.held z), ps)) : v = z ∧ Maps.has D (.string q) = false := by
  rw [Maps.atKey_of_not_has h] at hv
  simp only [Rw, Option.some.injEq, Prod.mk.injEq, DataW.held.injEq] at hv
  exact ⟨hv.1, h⟩
theorem look_some {W : World} {D : DataW Value} {q : Nm} {v : Value} {ps : List MemPlace} {z : Value} {y : Int × List S30} (h : EntryOK W D q (some y)) (hv : Rw v = some (D.atKey (.string q) (.held z), ps)) :
    Maps.has D (.string q) = true ∧ ∃ A c, v = wv y.1 A y.2.length c ∧ Kd.C k30 W A y.2.length y.2 ∧ y.2.length ≤ c := by
  obtain ⟨h1, A, c, h2, h3, h4⟩ := h
  rw [h2] at hv
  simp only [Rw, Option.some.injEq, Prod.mk.injEq, DataW.held.injEq] at hv
  exact ⟨h1, A, c, hv.1, h3, h4⟩
/-- What a look-up finds, either way. -/
def atW (N : Rg) (q : Nm) : Int × List S30 := (N q).getD (0, [])
theorem look_any {W : World} {D : DataW Value} {q : Nm} {v : Value} {ps : List MemPlace} {N : Rg} (h : EntryOK W D q (N q)) (hv : Rw v = some (D.atKey (.string q) (.held (wv 0 none 0 0)), ps)) :
    Maps.has D (.string q) = (N q).isSome ∧ ∃ A c, v = wv (atW N q).1 A (atW N q).2.length c ∧ Kd.C k30 W A (atW N q).2.length (atW N q).2 ∧ (atW N q).2.length ≤ c := by
  unfold atW
  cases hN : N q with
  | none =>
    rw [hN] at h
    obtain ⟨rfl, h2⟩ := look_none h hv
    exact ⟨h2, none, 0, rfl, ⟨rfl, Nat.zero_le _, fun h => absurd h (Nat.lt_irrefl _)⟩, Nat.zero_le _⟩
  | some y =>
    rw [hN] at h
    exact look_some h hv
theorem map_empty {W : World} {b n : Nat} {N : Rg} {D : DataW Value} (h1 : W.ownsMap Tryd.prog 9 Rw b n D) (h2 : ∀ q, EntryOK W D q (N q)) (hz : Maps.size D = 0) : ∀ q, N q = none := by
  obtain ⟨es, hes⟩ := h1.isMap
  subst hes
  have he : es = [] := List.length_eq_zero_iff.1 hz
  subst he
  intro q
  have := h2 q
  cases hN : N q with
  | none => rfl
  | some y => rw [hN] at this; exact absurd this.1 Bool.false_ne_true
end Go.Proofs.YtbojieeildhlcaaDoor.Port
