/- What can be read as data is of the printed kinds. -/
import Derived.Test.YtbojieeildhlcaaDoorWMore
import Derived.Deep.Slices
import Derived.ChangeArms
import Derived.RowKit
namespace Go.Proofs.YtbojieeildhlcaaDoor.Rd
open Go.RowKit Go.Deep Go.Proofs.YtbojieeildhlcaaDoorW.PrintWords Go.Proofs.YtbojieeildhlcaaDoorW.PrintLast
set_option linter.unusedVariables false

/-- Whatever reads as data at type t is of kind k. -/
def Rds {α : Type} (P : Program) (k : Kd α) (t : TypeId) : Prop :=
  ∀ (H : Type) (enc : TypeId × Value → H) (w : World) (base : Nat) (spare : Nat → Bool) (held : Bool) (fuel : Nat) (cs : List Value) (x : DataW H × List MemPlace), DataW.trod enc P w base spare held fuel t cs = some x → ∃ a, k.K w a cs
section
variable {P : Program}
theorem rds_int {k : IntKind} {t : TypeId} (ht : P.underlying t = some (.int k)) : Rds P (Kd.int k) t := fun H enc w base spare held fuel cs x h => by
  obtain ⟨n, rfl, _⟩ := DataW.trod_int ht h
  exact ⟨n, rfl⟩
theorem rds_bool {t : TypeId} (ht : P.underlying t = some .bool) : Rds P Kd.bool t := fun H enc w base spare held fuel cs x h => by
  obtain ⟨n, rfl, _⟩ := DataW.trod_bool ht h
  exact ⟨n, rfl⟩
theorem rds_string {t : TypeId} (ht : P.underlying t = some .string) : Rds P Kd.string t := fun H enc w base spare held fuel cs x h => by
  obtain ⟨n, rfl, _⟩ := DataW.trod_string ht h
  exact ⟨n, rfl⟩
theorem rds_slice {α : Type} {k : Kd α} {t e : TypeId} (ht : P.underlying t = some (.slice e)) (hs : P.cellsOf e = k.sz) (hk : Rds P k e) : Rds P (Kd.slice e k) t := fun H enc w base spare held fuel cs x h => by
  rcases open_slice ht h with ⟨rfl, _⟩ | ⟨a, len, cap, m, n, D, Pl, rfl, hb, hl, hm, hmm, _, hi⟩
  · exact ⟨[], none, 0, rfl, Nat.le_refl _, Kd.C_nil _ _⟩
  · have hle : len ≤ m := by rw [hmm]; split <;> omega
    have each : ∀ i, i < len → ∃ y c, k.K w y c ∧ ∀ j u, c[j]? = some u → w.cell? (a.add (i * k.sz + j)) = some u := by
      intro i hil
      obtain ⟨cs', hc, htr⟩ := hi i (by omega)
      obtain ⟨y, hy⟩ := hk H enc w base spare held n cs' _ htr
      rw [hs] at hc
      obtain ⟨_, hcl, hat⟩ := World.cells?_some hc
      refine ⟨y, cs', hy, fun j u hu => ?_⟩
      have hj : j < k.sz := by
        rcases Nat.lt_or_ge j cs'.length with h | h
        · omega
        · rw [List.getElem?_eq_none h] at hu; cases hu
      rw [← Go.Deep.add_add, hat j hj, hu]
    have build : ∀ q, q ≤ len → ∃ xs : List α, xs.length = q ∧ ∀ i p, xs[i]? = some p → ∃ c, k.K w p c ∧ ∀ j u, c[j]? = some u → w.cell? (a.add (i * k.sz + j)) = some u := by
      intro q
      induction q with
      | zero => intro _; exact ⟨[], rfl, fun i p hp => by simp at hp⟩
      | succ q ih =>
        intro hq
        obtain ⟨xs, hxl, hx⟩ := ih (by omega)
        obtain ⟨y, c, hy, hc⟩ := each q (by omega)
        refine ⟨xs ++ [y], by simp [hxl], fun i p hp => ?_⟩
        rcases Nat.lt_or_ge i xs.length with h | h
        · rw [List.getElem?_append_left h] at hp
          exact hx i p hp
        · rw [List.getElem?_append_right h] at hp
          obtain hz | hz := Nat.eq_zero_or_pos (i - xs.length)
          · rw [hz] at hp
            obtain rfl := Option.some.inj hp
            obtain rfl : i = q := by omega
            exact ⟨c, hy, hc⟩
          · rw [List.getElem?_eq_none (by simp; omega)] at hp; cases hp
    obtain ⟨xs, hxl, hx⟩ := build len (Nat.le_refl _)
    have hlen : len ≤ 9223372036854775807 := by unfold maxLen at hm; omega
    refine ⟨xs, some a, cap, by rw [hxl], by omega, rfl, by omega, fun _ => ⟨a, rfl, fun i p hp => ?_⟩⟩
    obtain ⟨c, hK, hc⟩ := hx i p hp
    exact ⟨c, k.K_len hK, hK, hc⟩
theorem rds_iso {α β : Type} {d : Kd α} {t : TypeId} (f : β → α) (g : α → β) (hfg : ∀ a, f (g a) = a) (h : Rds P d t) : Rds P (Kd.iso d f) t := fun H enc w base spare held fuel cs x hx => by
  obtain ⟨a, ha⟩ := h H enc w base spare held fuel cs x hx
  exact ⟨g a, show d.K w (f (g a)) cs by rw [hfg]; exact ha⟩
/-- The fields from place off on, of total cells. -/
def RdsFrom {α : Type} (P : Program) (fs : Array Field) (total off : Nat) (k : Kd α) : Prop :=
  ∀ (H : Type) (enc : TypeId × Value → H) (w : World) (base : Nat) (spare : Nat → Bool) (held : Bool) (n : Nat) (cs : List Value) (xs : List (DataW H × List MemPlace)), cs.length = total → xs.length = fs.size →
    (∀ (i : Nat) (f : Field), fs[i]? = some f → DataW.trod enc P w base spare held n f.type ((cs.drop f.offset).take (P.cellsOf f.type)) = xs[i]?) → ∃ a, k.K w a (cs.drop off)
theorem from_last {α : Type} {k : Kd α} {fs : Array Field} {total off : Nat} (i : Nat) (f : Field) (hf : fs[i]? = some f) (ho : f.offset = off) (hc : off + P.cellsOf f.type = total) (hk : Rds P k f.type) : RdsFrom P fs total off k := fun H enc w base spare held n cs xs hl hxl h => by
  have h1 := h i f hf
  have hi : i < xs.length := by rw [hxl]; exact (Array.getElem?_eq_some_iff.1 hf).1
  rw [List.getElem?_eq_getElem hi, ho, List.take_of_length_le (by rw [List.length_drop]; omega)] at h1
  exact hk H enc w base spare held n _ _ h1
theorem from_cons {α β : Type} {a : Kd α} {b : Kd β} {fs : Array Field} {total off c : Nat} (i : Nat) (f : Field) (hf : fs[i]? = some f) (ho : f.offset = off) (hc : P.cellsOf f.type = c) (hk : Rds P a f.type) (hr : RdsFrom P fs total (off + c) b) : RdsFrom P fs total off (Kd.pair a b) := fun H enc w base spare held n cs xs hl hxl h => by
  have h1 := h i f hf
  have hi : i < xs.length := by rw [hxl]; exact (Array.getElem?_eq_some_iff.1 hf).1
  rw [List.getElem?_eq_getElem hi, ho, hc] at h1
  obtain ⟨x, hx⟩ := hk H enc w base spare held n _ _ h1
  obtain ⟨y, hy⟩ := hr H enc w base spare held n cs xs hl hxl h
  refine ⟨(x, y), (cs.drop off).take c, cs.drop (off + c), ?_, hx, hy⟩
  rw [← List.drop_drop, List.take_append_drop]
theorem from_iso {α β : Type} {d : Kd α} {fs : Array Field} {total off : Nat} (f : β → α) (g : α → β) (hfg : ∀ a, f (g a) = a) (h : RdsFrom P fs total off d) : RdsFrom P fs total off (Kd.iso d f) := fun H enc w base spare held n cs xs hl hxl hx => by
  obtain ⟨a, ha⟩ := h H enc w base spare held n cs xs hl hxl hx
  exact ⟨g a, show d.K w (f (g a)) _ by rw [hfg]; exact ha⟩
theorem rds_struct {α : Type} {k : Kd α} {t : TypeId} {fs : Array Field} {total : Nat} (ht : P.underlying t = some (.struct fs)) (hc : P.cellsOf t = total) (h : RdsFrom P fs total 0 k) : Rds P k t := fun H enc w base spare held fuel cs x hx => by
  obtain ⟨xs, n, _, _, hl, hxl, hf⟩ := DataW.trod_struct ht hx
  obtain ⟨a, ha⟩ := h H enc w base spare held n cs xs (by rw [hl, hc]) hxl hf
  exact ⟨a, by simpa using ha⟩
end
end Go.Proofs.YtbojieeildhlcaaDoor.Rd
