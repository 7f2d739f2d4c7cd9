/- A drawn region whose loads hold until the store that changes their cell: what holds may hang on which operations have come up. -/
import Derived.Test.YtbojieeildhlcaaDoorPortReg
namespace Go.Proofs.YtbojieeildhlcaaDoor.Port
open Go.RowKit
set_option linter.unusedVariables false
section
variable {P : Program} {ops : Array Oper} {Q : Exit → Act → World → Prop} {md : Region.Mode} {S : Array Bool → World → Prop}

def wpAnyL (P : Program) (md : Region.Mode) (ops : Array Oper) (Q : Exit → Act → World → Prop) (S : Array Bool → World → Prop) : Nat → Array Bool → Act → World → Prop
  | 0, listed, a, w => Region.ready md ops listed = [] ∧ Q .normal a w
  | fuel + 1, listed, a, w =>
    (Region.ready md ops listed = [] → Q .normal a w) ∧
    ∀ i ∈ Region.ready md ops listed, wpOp P ops Q i (fun a' w' => S (listed.setIfInBounds i true) w' ∧ wpAnyL P md ops Q S fuel (listed.setIfInBounds i true) a' w') a w
theorem wpAny_of_L : ∀ (fuel : Nat) (listed : Array Bool) (a : Act) (w : World), wpAnyL P md ops Q S fuel listed a w → wpAny P md ops Q fuel listed a w
  | 0, _, _, _, h => h
  | fuel + 1, _, _, _, h => ⟨h.1, fun i hi => wpOp_mono (fun a' w' h' => wpAny_of_L fuel _ a' w' h'.2) (h.2 i hi)⟩
/-- Whoever has come up has what it waits for behind it. -/
def Closed (md : Region.Mode) (ops : Array Oper) (L : Array Bool) : Prop := ∀ j oj, ops[j]? = some oj → L.getD j false = true → ∀ e ∈ oj.after, Region.binds md e = true → L.getD e.on false = true
def Upto (md : Region.Mode) (ops : Array Oper) (S : Array Bool → World → Prop) (i : Nat) (w : World) : Prop := ∃ L, L.getD i true = false ∧ Closed md ops L ∧ S L w
theorem closed_set {L : Array Bool} {j : Nat} (h : Closed md ops L) (hj : j ∈ Region.ready md ops L) : Closed md ops (L.setIfInBounds j true) := by
  obtain ⟨hjun, oj, hoj, hall⟩ := mem_ready.1 hj
  intro k ok hk hl e he hb
  have keep : ∀ m, L.getD m false = true → (L.setIfInBounds j true).getD m false = true := fun m hm => by
    by_cases hjm : j = m
    · subst hjm
      rw [Array.getD_eq_getD_getElem?] at hm ⊢
      rcases Nat.lt_or_ge j L.size with h' | h'
      · simp [h']
      · rw [Array.getElem?_eq_none h'] at hm; cases hm
    · rw [getD_set_ne false hjm]; exact hm
  by_cases hjk : j = k
  · subst hjk
    rw [hoj] at hk; cases hk
    exact keep _ (hall e he hb)
  · rw [getD_set_ne false hjk] at hl
    exact keep _ (h k ok hk hl e he hb)
theorem wpAnyL_first {i : Nat} {oi : Oper} {v : Value} (hi : ops[i]? = some oi) (hsel : ∀ (j : Nat) (o : Oper) cs b, ops[j]? = some o → o.op ≠ .select cs b)
    (hQ : ∀ c a w, Q (.panic c) (a.put oi.dst v) w → Q (.panic c) a w) (hSi : ∀ L w, S (L.setIfInBounds i true) w → S L w) :
    ∀ (fuel : Nat) (listed : Array Bool) (a : Act) (w : World),
      (∀ j oj, ops[j]? = some oj → j ≠ i → listed.getD j true = false → (∀ e ∈ oj.after, Region.binds md e = true → e.on ≠ i) → oi.apart ops oj = true) →
      i ∈ Region.ready md ops listed → Closed md ops listed → YieldsIf P ops (Upto md ops S i) oi v a → S listed w →
      wpAnyL P md ops Q S fuel (listed.setIfInBounds i true) (a.put oi.dst v) w → S (listed.setIfInBounds i true) w → wpAnyL P md ops Q S (fuel + 1) listed a w := by
  intro fuel
  induction fuel with
  | zero =>
    intro listed a w _ hr hc hy hS H hS2
    refine ⟨fun h => (by rw [h] at hr; cases hr), fun j hj => ?_⟩
    by_cases hji : j = i
    · subst hji; exact hy.wpOp hi ⟨listed, (mem_ready.1 hr).1, hc, hS⟩ ⟨hS2, H⟩
    · have := ready_mono hj hji
      rw [H.1] at this
      cases this
  | succ fuel ih =>
    intro listed a w hfree hr hc hy hS H hS2
    refine ⟨fun h => (by rw [h] at hr; cases hr), fun j hj => ?_⟩
    by_cases hji : j = i
    · subst hji; exact hy.wpOp hi ⟨listed, (mem_ready.1 hr).1, hc, hS⟩ ⟨hS2, H⟩
    · have h1 := H.2 j (ready_mono hj hji)
      obtain ⟨hjun, oj, hoj, hall⟩ := mem_ready.1 hj
      have hnot : ∀ e ∈ oj.after, Region.binds md e = true → e.on ≠ i := fun e he hb heq => by
        have h1 := hall e he hb
        have h0 := (mem_ready.1 hr).1
        rw [heq] at h1
        rcases Nat.lt_or_ge i listed.size with h' | h'
        · simp [h'] at h0 h1; rw [h0] at h1; cases h1
        · simp [Array.getElem?_eq_none h'] at h1
      have h2 := wpOp_putIf hoj (hfree j oj hoj hji hjun hnot) (fun cs b => hsel i oi cs b hi) (fun cs b => hsel j oj cs b hoj) hQ hy h1
      have hfree' : ∀ k ok, ops[k]? = some ok → k ≠ i → (listed.setIfInBounds j true).getD k true = false →
          (∀ e ∈ ok.after, Region.binds md e = true → e.on ≠ i) → oi.apart ops ok = true := fun k ok hk hki hun hno => by
        refine hfree k ok hk hki ?_ hno
        by_cases hjk : j = k
        · subst hjk; exact hjun
        · rw [getD_set_ne true hjk] at hun; exact hun
      refine wpOp_mono (fun a' w' h3 => ?_) h2
      have h4 := h3.2
      rw [Array.setIfInBounds_comm _ _ (Ne.symm hji)] at h4
      have hSj := hSi _ _ h4.1
      exact ⟨hSj, ih (listed.setIfInBounds j true) a' w' hfree' (ready_mono hr (Ne.symm hji)) (closed_set hc hj) h3.1 hSj h4.2 h4.1⟩
def closedB (md : Region.Mode) (ops : Array Oper) (L : Array Bool) : Bool := (List.range ops.size).all fun j => !(L.getD j false) || (match ops[j]? with | some o => o.after.all (fun e => !(Region.binds md e) || L.getD e.on false) | none => true)
theorem closed_of {L : Array Bool} (h : closedB md ops L = true) : Closed md ops L := by
  intro j oj hj hl e he hb
  have hlt := (Array.getElem?_eq_some_iff.1 hj).1
  have h1 := List.all_eq_true.1 h j (List.mem_range.2 hlt)
  rw [hl, hj] at h1
  simp only [Bool.not_true, Bool.false_or] at h1
  have h2 := Array.all_eq_true'.1 h1 e he
  rw [hb] at h2
  simpa using h2
theorem wpAnyL_take {i : Nat} {oi : Oper} {v : Value} {fuel : Nat} {listed : Array Bool} {a : Act} {w : World} (hi : ops[i]? = some oi)
    (hs : Region.noSelect ops = true) (hf : Region.free md ops listed i = true) (hr : (Region.ready md ops listed).contains i = true) (hcl : closedB md ops listed = true)
    (hQ : ∀ c a w, Q (.panic c) (a.put oi.dst v) w → Q (.panic c) a w) (hSi : ∀ L w, S (L.setIfInBounds i true) w → S L w) (hy : YieldsIf P ops (Upto md ops S i) oi v a) (hS : S listed w) (hS2 : S (listed.setIfInBounds i true) w)
    (h : wpAnyL P md ops Q S fuel (listed.setIfInBounds i true) (a.put oi.dst v) w) : wpAnyL P md ops Q S (fuel + 1) listed a w :=
  wpAnyL_first hi (Region.noSelect_spec hs) hQ hSi fuel listed a w (Region.free_spec hi hf) (by simpa using hr) (closed_of hcl) hy hS h hS2
theorem wpAnyL_all {rs : List Nat} {fuel : Nat} {listed : Array Bool} {a : Act} {w : World} (hr : Region.ready md ops listed = rs) (hne : rs ≠ [])
    (h : ∀ i ∈ rs, wpOp P ops Q i (fun a' w' => S (listed.setIfInBounds i true) w' ∧ wpAnyL P md ops Q S fuel (listed.setIfInBounds i true) a' w') a w) : wpAnyL P md ops Q S (fuel + 1) listed a w :=
  ⟨fun h0 => absurd (hr ▸ h0) hne, hr ▸ h⟩
theorem wpAnyL_done {listed : Array Bool} {a : Act} {w : World} (hr : Region.ready md ops listed = []) (h : Q .normal a w) : ∀ fuel, wpAnyL P md ops Q S fuel listed a w
  | 0 => ⟨hr, h⟩
  | _ + 1 => ⟨fun _ => h, by rw [hr]; simp⟩
/-- A drawn region, plain, by the walk with listings. -/
theorem region_plainL {id : Nat} {K : Act → World → Prop} {Q : Exit → Act → World → Prop} {a : Act} {w : World} (hm : P.follows .mixedOrders = true) (hQ : ∀ a w, K a w → Q .normal a w)
    (h : wpAnyL P .any ops (onlyK K) S ops.size (Array.replicate ops.size false) a w.drew) : (Code.region id ops true).wp P Q a w :=
  Code.wp_mono (fun e a w hk => by cases e <;> first | exact hQ _ _ hk | exact hk.elim) (wp_region_any hm (wpAny_of_L _ _ _ _ h))
end
end Go.Proofs.YtbojieeildhlcaaDoor.Port
