/- What the listed variables give: a slice of texts holds just these. -/
import Derived.Test.YtamgmceogjgijaaDoorExt
import Derived.Test.YtamgmceogjgijaaDoorRows
import Derived.Deep.Slices
import Derived.ChangeArms
import Derived.LaidLaws
namespace Go.Proofs.YtamgmceogjgijaaDoor.Tab
open Go.RowKit Go.Deep Go.Proofs.YtamgmceogjgijaaDoorW.PrintWords Go.Proofs.YtamgmceogjgijaaDoorW.PrintLast Go.Proofs.YtamgmceogjgijaaDoor.Ext
set_option linter.unusedVariables false
set_option linter.unusedSimpArgs false

theorem gWords : Tryd.prog.globalNamed "supercargo/token.words" = some 0 := by kernel_rfl
theorem gKinds : Tryd.prog.globalNamed "supercargo/token.kinds" = some 1 := by kernel_rfl
theorem tWords : (Tryd.prog.globals[0]?).map (·.type) = some 33 := by kernel_rfl
theorem tKinds : (Tryd.prog.globals[1]?).map (·.type) = some 33 := by kernel_rfl
theorem c9 : Tryd.prog.cellsOf 9 = 1 := by kernel_rfl
/-- Texts as data. -/
def strs {H : Type} (l : List ByteArray) : List (DataW H) := l.map fun s => .lit (.string s.data.toList)
/-- A slice of texts that reads as these texts. -/
theorem strs_of {W : World} {H : Type} {enc : TypeId × Value → H} {base : Nat} {sp : Nat → Bool} {held : Bool} {fuel : Nat} {cs : List Value} {l : List ByteArray} {p : List MemPlace} (hl : 0 < l.length)
    (h : DataW.trod enc Tryd.prog W base sp held fuel 33 cs = some (.slice (strs l) [], p)) :
    ∃ (A : Option Addr) (c : Nat), cs = [.slice A l.length c] ∧ l.length ≤ c ∧ Kd.C Kd.string W A l.length l := by
  rcases open_slice1 Tryd.underlying33 c9 h with ⟨_, hx⟩ | ⟨a, len, cap, m, n, V, D, Pl, rfl, hb, hle, hm, hmm, hx, hi⟩
  · simp at hx
  · have hx1 : (DataW.slice (strs l) [] : DataW H) = .slice ((List.range len).map D) ((List.range (m - len)).map fun j => D (len + j)) := congrArg Prod.fst hx
    simp only [DataW.slice.injEq] at hx1
    have hlen : len = l.length := by simpa [strs] using (congrArg List.length hx1.1).symm
    subst hlen
    have hlm : l.length ≤ m := by rw [hmm]; split <;> omega
    refine ⟨some a, cap, rfl, hle, rfl, by unfold maxLen at hm; omega, fun _ => ⟨a, rfl, fun i x hix => ?_⟩⟩
    have hil : i < l.length := by
      rcases Nat.lt_or_ge i l.length with h | h
      · exact h
      · rw [List.getElem?_eq_none h] at hix; cases hix
    obtain ⟨hc, ht⟩ := hi i (by omega)
    obtain ⟨s, hs, hd, _⟩ := DataW.trod_string Tryd.underlying9 ht
    have hD : D i = .lit (.string s.data.toList) := congrArg Prod.fst hd
    have h1 : (strs l : List (DataW H))[i]? = ((List.range l.length).map D)[i]? := by rw [hx1.1]
    rw [strs, List.getElem?_map, hix, List.getElem?_map, List.getElem?_range hil] at h1
    simp only [Option.map_some, Option.some.injEq] at h1
    rw [hD] at h1
    have h2 : x.data.toList = s.data.toList := by injection h1 with h1; injection h1
    have h3 : x = s := ByteArray.ext (Array.toList_inj.1 h2)
    subst h3
    have hs1 : V i = .string x := by injection hs
    refine ⟨[.string x], rfl, rfl, fun j u hu => ?_⟩
    cases j with
    | zero =>
      obtain rfl := Option.some.inj hu
      rw [show i * (Kd.string).sz + 0 = i from by show i * 1 + 0 = i; omega, ← hs1]
      exact hc
    | succ j => simp at hu
theorem words_data {H : Type} : (Rows.laid_supercargo_token_words : DataW H) = .slice (strs wordsL) [] := rfl
def kindsL : List ByteArray := [⟨#[119, 111, 114, 100]⟩, ⟨#[110, 97, 109, 101]⟩, ⟨#[110, 117, 109, 98, 101, 114]⟩, ⟨#[116, 101, 120, 116]⟩, ⟨#[99, 111, 100, 101]⟩, ⟨#[115, 105, 103, 110]⟩]
theorem kinds_data {H : Type} : (Rows.laid_supercargo_token_kinds : DataW H) = .slice (strs kindsL) [] := rfl
theorem head_of {W : World} {name : String} {l : List ByteArray} {rest : List (String × DataW Unit)} {g : Nat} (hl : 0 < l.length)
    (hg : Tryd.prog.globalNamed name = some g) (hty : (Tryd.prog.globals[g]?).map (·.type) = some 33) {ps : List MemPlace} (h : DataW.LaidVars Tryd.prog W ((name, .slice (strs l) []) :: rest) ps) :
    (∃ (A : Option Addr) (c : Nat), W.cell? ⟨g, 0, none⟩ = some (.slice A l.length c) ∧ l.length ≤ c ∧ Kd.C Kd.string W A l.length l) ∧ ∃ q, DataW.LaidVars Tryd.prog W rest q := by
  obtain ⟨g', t', cs, fuel, p, q, hg', ht', hvar, hd, hrest, _⟩ := h
  obtain rfl := Option.some.inj (hg.symm.trans hg')
  obtain rfl := Option.some.inj (hty.symm.trans ht')
  obtain ⟨A, c, hc, hle, hC⟩ := strs_of hl hd
  refine ⟨⟨A, c, ?_, hle, hC⟩, q, hrest⟩
  have := World.var?_cell hg hvar 0
  rw [this, ← Array.getElem?_toList, hc]
  rfl
/-- The words' table. -/
theorem gl_of {W : World} (h : laidMetH Tryd.prog [("supercargo/token.words", Rows.laid_supercargo_token_words)] W) : Gl W := by
  have h1 : laidMet Tryd.prog [("supercargo/token.words", Rows.laid_supercargo_token_words)] W := h
  obtain ⟨ps, hv, _⟩ := h1
  rw [words_data] at hv
  exact ⟨(head_of (by decide) gWords tWords hv).1⟩
end Go.Proofs.YtamgmceogjgijaaDoor.Tab
