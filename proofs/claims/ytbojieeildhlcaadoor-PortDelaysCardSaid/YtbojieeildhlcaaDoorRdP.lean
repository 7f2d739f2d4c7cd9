/- What can be read as data is of the printed kinds, and its texts are of a size that a text can have. -/
import Derived.Test.YtbojieeildhlcaaDoorWMore
import Derived.Deep.Slices
import Derived.ChangeArms
import Derived.RowKit
import Derived.Test.YtbojieeildhlcaaDoorRd
namespace Go.Proofs.YtbojieeildhlcaaDoor.Rd
open Go.RowKit Go.Deep Go.Proofs.YtbojieeildhlcaaDoorW.PrintWords Go.Proofs.YtbojieeildhlcaaDoorW.PrintLast
set_option linter.unusedVariables false

/-- Whatever reads as data at type t is of kind k, and has the property p. -/
def RdsP {α : Type} (P : Program) (k : Kd α) (p : α → Prop) (t : TypeId) : Prop :=
  ∀ (H : Type) (enc : TypeId × Value → H) (w : World) (base : Nat) (spare : Nat → Bool) (held : Bool) (fuel : Nat) (cs : List Value) (x : DataW H × List MemPlace), DataW.trod enc P w base spare held fuel t cs = some x → ∃ a, k.K w a cs ∧ p a
section
variable {P : Program}
theorem rdsp_of {α : Type} {k : Kd α} {t : TypeId} (h : Rds P k t) : RdsP P k (fun _ => True) t := fun H enc w base spare held fuel cs x hx => by
  obtain ⟨a, ha⟩ := h H enc w base spare held fuel cs x hx
  exact ⟨a, ha, trivial⟩
theorem rdsp_string {t : TypeId} (ht : P.underlying t = some .string) : RdsP P Kd.string (fun s => s.size ≤ maxLen) t := fun H enc w base spare held fuel cs x h => by
  obtain ⟨n, rfl, _, hn⟩ := DataW.trod_string ht h
  exact ⟨n, rfl, hn⟩
theorem rdsp_slice {α : Type} {k : Kd α} {t e : TypeId} (ht : P.underlying t = some (.slice e)) (hs : P.cellsOf e = k.sz) {p : α → Prop} (hk : RdsP P k p e) : RdsP P (Kd.slice e k) (fun xs => ∀ x, x ∈ xs → p x) t := fun H enc w base spare held fuel cs x h => by
  rcases open_slice ht h with ⟨rfl, _⟩ | ⟨a, len, cap, m, n, D, Pl, rfl, hb, hl, hm, hmm, _, hi⟩
  · exact ⟨[], ⟨none, 0, rfl, Nat.le_refl _, Kd.C_nil _ _⟩, fun x hx => by cases hx⟩
  · have hle : len ≤ m := by rw [hmm]; split <;> omega
    have each : ∀ i, i < len → ∃ y c, (k.K w y c ∧ p y) ∧ ∀ j u, c[j]? = some u → w.cell? (a.add (i * k.sz + j)) = some u := by
      intro i hil
      obtain ⟨cs', hc, htr⟩ := hi i (by omega)
      obtain ⟨y, hy⟩ := hk H enc w base spare held n cs' _ htr
      rw [hs] at hc
      obtain ⟨_, hcl, hat⟩ := World.cells?_some hc
      have hy0 := hy.1
      refine ⟨y, cs', hy, fun j u hu => ?_⟩
      have hj : j < k.sz := by
        rcases Nat.lt_or_ge j cs'.length with h | h
        · omega
        · rw [List.getElem?_eq_none h] at hu; cases hu
      rw [← Go.Deep.add_add, hat j hj, hu]
    have build : ∀ q, q ≤ len → ∃ xs : List α, xs.length = q ∧ ∀ i p', xs[i]? = some p' → ∃ c, (k.K w p' c ∧ p p') ∧ ∀ j u, c[j]? = some u → w.cell? (a.add (i * k.sz + j)) = some u := by
      intro q
      induction q with
      | zero => intro _; exact ⟨[], rfl, fun i p' hp => by simp at hp⟩
      | succ q ih =>
        intro hq
        obtain ⟨xs, hxl, hx⟩ := ih (by omega)
        obtain ⟨y, c, hy, hc⟩ := each q (by omega)
        refine ⟨xs ++ [y], by simp [hxl], fun i p' hp => ?_⟩
        rcases Nat.lt_or_ge i xs.length with h | h
        · rw [List.getElem?_append_left h] at hp
          exact hx i p' hp
        · rw [List.getElem?_append_right h] at hp
          obtain hz | hz := Nat.eq_zero_or_pos (i - xs.length)
          · rw [hz] at hp
            obtain rfl := Option.some.inj hp
            obtain rfl : i = q := by omega
            exact ⟨c, hy, hc⟩
          · rw [List.getElem?_eq_none (by simp; omega)] at hp; cases hp
    obtain ⟨xs, hxl, hx⟩ := build len (Nat.le_refl _)
    have hlen : len ≤ 9223372036854775807 := by unfold maxLen at hm; omega
    refine ⟨xs, ⟨some a, cap, by rw [hxl], by omega, rfl, by omega, fun _ => ⟨a, rfl, fun i p' hp => ?_⟩⟩, fun x hx0 => ?_⟩
    · obtain ⟨c, hK, hc⟩ := hx i p' hp
      exact ⟨c, k.K_len hK.1, hK.1, hc⟩
    · obtain ⟨i, hi0, rfl⟩ := List.getElem_of_mem hx0
      obtain ⟨c, hK, _⟩ := hx i _ (List.getElem?_eq_getElem hi0)
      exact hK.2
/-- The fields from place off on, of total cells. -/
def RdsFromP {α : Type} (P : Program) (fs : Array Field) (total off : Nat) (k : Kd α) (p : α → Prop) : Prop :=
  ∀ (H : Type) (enc : TypeId × Value → H) (w : World) (base : Nat) (spare : Nat → Bool) (held : Bool) (n : Nat) (cs : List Value) (xs : List (DataW H × List MemPlace)), cs.length = total → xs.length = fs.size →
    (∀ (i : Nat) (f : Field), fs[i]? = some f → DataW.trod enc P w base spare held n f.type ((cs.drop f.offset).take (P.cellsOf f.type)) = xs[i]?) → ∃ a, k.K w a (cs.drop off) ∧ p a
theorem fromp_last {α : Type} {k : Kd α} {p : α → Prop} {fs : Array Field} {total off : Nat} (i : Nat) (f : Field) (hf : fs[i]? = some f) (ho : f.offset = off) (hc : off + P.cellsOf f.type = total) (hk : RdsP P k p f.type) : RdsFromP P fs total off k p := fun H enc w base spare held n cs xs hl hxl h => by
  have h1 := h i f hf
  have hi : i < xs.length := by rw [hxl]; exact (Array.getElem?_eq_some_iff.1 hf).1
  rw [List.getElem?_eq_getElem hi, ho, List.take_of_length_le (by rw [List.length_drop]; omega)] at h1
  exact hk H enc w base spare held n _ _ h1
theorem fromp_cons {α β : Type} {a : Kd α} {b : Kd β} {p : α → Prop} {q : β → Prop} {fs : Array Field} {total off c : Nat} (i : Nat) (f : Field) (hf : fs[i]? = some f) (ho : f.offset = off) (hc : P.cellsOf f.type = c) (hk : RdsP P a p f.type) (hr : RdsFromP P fs total (off + c) b q) : RdsFromP P fs total off (Kd.pair a b) (fun z => p z.1 ∧ q z.2) := fun H enc w base spare held n cs xs hl hxl h => by
  have h1 := h i f hf
  have hi : i < xs.length := by rw [hxl]; exact (Array.getElem?_eq_some_iff.1 hf).1
  rw [List.getElem?_eq_getElem hi, ho, hc] at h1
  obtain ⟨x, hx, px⟩ := hk H enc w base spare held n _ _ h1
  obtain ⟨y, hy, py⟩ := hr H enc w base spare held n cs xs hl hxl h
  refine ⟨(x, y), ⟨(cs.drop off).take c, cs.drop (off + c), ?_, hx, hy⟩, px, py⟩
  rw [← List.drop_drop, List.take_append_drop]
theorem fromp_iso {α β : Type} {d : Kd α} {p : α → Prop} {fs : Array Field} {total off : Nat} (f : β → α) (g : α → β) (hfg : ∀ a, f (g a) = a) (h : RdsFromP P fs total off d p) : RdsFromP P fs total off (Kd.iso d f) (fun b => p (f b)) := fun H enc w base spare held n cs xs hl hxl hx => by
  obtain ⟨a, ha, pa⟩ := h H enc w base spare held n cs xs hl hxl hx
  exact ⟨g a, show d.K w (f (g a)) _ by rw [hfg]; exact ha, show p (f (g a)) by rw [hfg]; exact pa⟩
theorem rdsp_struct {α : Type} {k : Kd α} {p : α → Prop} {t : TypeId} {fs : Array Field} {total : Nat} (ht : P.underlying t = some (.struct fs)) (hc : P.cellsOf t = total) (h : RdsFromP P fs total 0 k p) : RdsP P k p t := fun H enc w base spare held fuel cs x hx => by
  obtain ⟨xs, n, _, _, hl, hxl, hf⟩ := DataW.trod_struct ht hx
  obtain ⟨a, ha, pa⟩ := h H enc w base spare held n cs xs (by rw [hl, hc]) hxl hf
  exact ⟨a, by simpa using ha, pa⟩
end
end Go.Proofs.YtbojieeildhlcaaDoor.Rd
