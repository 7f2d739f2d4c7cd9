/- The kinds' names: what the listed variables give, and the contract of token.Name. -/
import Derived.Test.YtamgmceogjgijaaDoorTab
namespace Go.Proofs.YtamgmceogjgijaaDoor.Ext
set_option linter.unusedVariables false
set_option linter.unusedSimpArgs false
open Go.RowKit Go.Proofs.YtamgmceogjgijaaDoorW.PrintWords Go.Proofs.YtamgmceogjgijaaDoorW.PrintLast Go.Proofs.YtamgmceogjgijaaDoorW.PrintMore Go.Proofs.YtamgmceogjgijaaDoor.A

/-- Both tables. -/
structure Gl2 (W : World) : Prop where
  gl : Gl W
  kinds : ∃ (A : Option Addr) (c : Nat), W.cell? ⟨1, 0, none⟩ = some (.slice A Tab.kindsL.length c) ∧ Tab.kindsL.length ≤ c ∧ Kd.C Kd.string W A Tab.kindsL.length Tab.kindsL
theorem Gl2.below {w W : World} (h : Gl2 w) (hb : Below w.heap.size w W) : Gl2 W := by
  obtain ⟨h0, A, c, h1, h2, h3⟩ := h
  exact ⟨h0.below hb, A, c, pw_cell_below hb h1, h2, Kd.C_below h3 hb⟩
def nameK (a : Int) : ByteArray := if 0 ≤ a ∧ a < 6 then Tab.kindsL.getD a.toNat ByteArray.empty else ⟨#[]⟩
def token_Name.f (a0 : Int) : Option ByteArray := some (nameK a0)
set_option maxHeartbeats 1000000 in
theorem token_Name.calls (a0 : Int) (r : ByteArray) (w : World) (hG : Gl2 w) (h : token_Name.f a0 = some r) :
    Calls Tryd.prog 21 #[.int .i64 a0] w fun e w' => e = .returned (.string r) ∧ Below w.heap.size w w' := by
  obtain rfl : nameK a0 = r := Option.some.inj h
  obtain ⟨_, A, c, hg1, hg2, hg3⟩ := hG
  obtain ⟨ad, rfl, hat⟩ := hg3.2.2 (by decide)
  have hcell : ∀ j, j < Tab.kindsL.length → w.cell? (ad.add j) = some (.string (Tab.kindsL.getD j ByteArray.empty)) := by
    intro j hj
    obtain ⟨cs, _, hcs, hu⟩ := hat j _ (List.getElem?_eq_getElem hj)
    have e : cs = [.string Tab.kindsL[j]] := hcs
    have := hu 0 _ (by rw [e]; rfl)
    rw [List.getD_eq_getElem?_getD, List.getElem?_eq_getElem hj]
    simpa [show (Kd.string).sz = 1 from rfl] using this
  have hsp : ad.spot = none := World.cell?_spot (by have := hcell 0 (by decide); simpa [Addr.add] using this)
  obtain ⟨b, o, sp⟩ := ad
  obtain rfl : sp = none := hsp
  have hc2 : ∀ j, j < Tab.kindsL.length → w.cell? ⟨b, o + j, none⟩ = some (.string (Tab.kindsL.getD j ByteArray.empty)) := by
    intro j hj
    have := hcell j hj
    rwa [show (⟨b, o, none⟩ : Addr).add j = ⟨b, o + j, none⟩ by unfold Addr.add; split <;> simp_all] at this
  have hl : Tab.kindsL.length = 6 := rfl
  rw [hl] at hg1
  clear hcell hat hg3
  by_cases h0 : 0 ≤ a0
  · by_cases h6 : a0 < 6
    · have e : nameK a0 = Tab.kindsL.getD a0.toNat ByteArray.empty := if_pos ⟨h0, h6⟩
      rw [e]
      obtain ⟨n, rfl⟩ : ∃ n : Nat, a0 = n := ⟨a0.toNat, by omega⟩
      have hn := hc2 n (by rw [hl]; omega)
      rw [Int.toNat_natCast]
      obtain ⟨s, hs⟩ : ∃ s, Tab.kindsL.getD n ByteArray.empty = s := ⟨_, rfl⟩
      rw [hs] at hn ⊢
      clear hc2 e hs hl
      go_enter Tryd.func21, Tryd.ntmps21
      go_wp2
      go_ret
      exact ⟨rfl, Below.refl _ _⟩
    · have HN := Aside0.mk (show nameK a0 = (⟨#[]⟩ : ByteArray) from if_neg (by omega))
      clear hc2 hl
      go_enter Tryd.func21, Tryd.ntmps21
      go_wp2
      go_ret
      exact ⟨by rw [HN.out]; rfl, Below.refl _ _⟩
  · have HN := Aside0.mk (show nameK a0 = (⟨#[]⟩ : ByteArray) from if_neg (by omega))
    clear hc2 hl
    go_enter Tryd.func21, Tryd.ntmps21
    go_wp2
    go_ret
    exact ⟨by rw [HN.out]; rfl, Below.refl _ _⟩
end Go.Proofs.YtamgmceogjgijaaDoor.Ext
namespace Go.Proofs.YtamgmceogjgijaaDoor.Tab
open Go.RowKit Go.Proofs.YtamgmceogjgijaaDoor.Ext
theorem gl2_of {W : World} (h : laidMetH Tryd.prog [("supercargo/token.kinds", Rows.laid_supercargo_token_kinds), ("supercargo/token.words", Rows.laid_supercargo_token_words)] W) : Gl2 W := by
  have h1 : laidMet Tryd.prog [("supercargo/token.kinds", Rows.laid_supercargo_token_kinds), ("supercargo/token.words", Rows.laid_supercargo_token_words)] W := h
  obtain ⟨ps, hv, _⟩ := h1
  rw [kinds_data, words_data] at hv
  obtain ⟨hk, q, hv2⟩ := head_of (by decide) gKinds tKinds hv
  exact ⟨⟨(head_of (by decide) gWords tWords hv2).1⟩, hk⟩
end Go.Proofs.YtamgmceogjgijaaDoor.Tab
