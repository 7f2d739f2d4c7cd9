/- maps.Copy: what was reached, and what was reached in one round more. -/
import Derived.Maps.RangeWalk
import Derived.WalkKit
import Derived.Laws.IdiomRangeMap
import Derived.Test.YtbojieeildhlcaaDoorPortMaps
namespace Go.Proofs.YtbojieeildhlcaaDoor.Port
open Go.RowKit Go.Shelf Go.Maps Go.Proofs.YtbojieeildhlcaaDoorW.PrintWords Go.Proofs.YtbojieeildhlcaaDoorW.PrintLast Go.Proofs.YtbojieeildhlcaaDoorW.PrintMore Go.Proofs.YtbojieeildhlcaaDoor.G Go.Proofs.YtbojieeildhlcaaDoor.Ext Go.Proofs.YtbojieeildhlcaaDoor.PortMath
set_option linter.unusedVariables false
set_option linter.unusedSimpArgs false

/-- What lies in the maps is a day and legs. -/
def Shaped (D : DataW Value) : Prop := ∀ q : Nm, Maps.has D (.string q) = true → ∃ d A n c, ∀ z, D.atKey (.string q) z = .held (wv d A n c)
set_option maxHeartbeats 4000000 in
set_option maxRecDepth 100000 in
theorem copy_any (bd bs nd ns : Nat) (Dd Ds : DataW Value) (w : World) (hd : w.ownsMap Tryd.prog 9 Rw bd nd Dd) (hs : w.ownsMap Tryd.prog 9 Rw bs ns Ds) (hne : bd ≠ bs) (hroom : nd + Maps.size Ds ≤ maxLen) (hsh : Shaped Ds) :
    Calls Tryd.prog 19 #[.map (some bd), .map (some bs)] w fun e w' => ∃ Dout, e = .returned (.tuple #[]) ∧ w'.ownsMap Tryd.prog 9 Rw bd (nd + Maps.size Ds) Dout ∧ Merged Dout Dd Ds (fun _ => false) ∧ w.grownBy w' (some bd) := by
  have hbd := hd.lt
  have hbs := hs.lt
  go_enter Tryd.func19, Tryd.ntmps19
  go_wp2_with (first
    | (at_range; refine wpList_range_own _ rfl _ 46 rfl 9 45 K9 Tryd.underlying46 Rw bs ns _ rfl hs ?_; intro w0 hrg0 hg0 hs0))
  go_frame
  have hSh := Aside0.mk hsh
  clear hsh
  go_loopw [8] (fun _ wr => ∃ (left : Lit → Bool) (cnt : Nat) (Dout : DataW Value), wr.ranges Tryd.prog 9 Rw bs w.heap.size ns Ds left cnt ∧ cnt ≤ Maps.size Ds ∧
      wr.ownsMap Tryd.prog 9 Rw bd (nd + (Maps.size Ds - cnt)) Dout ∧ Merged Dout Dd Ds left ∧ w.grownBy wr (some bd))
    (fun _ wr => wr.rangeLeft bs w.heap.size)
  case atStart =>
    exact ⟨_, _, Dd, hrg0, Nat.le_refl _, (hd.kept hg0 (by simp)).mono (by omega), merged_start Dd Ds, hg0.but _⟩
  case round =>
    obtain ⟨left, cnt, Dout, hrg, hcs, hout, hM, hgw⟩ := hrel
    have hM0 := hout.isMap
    go_wp2_with (at_next; refine wpList_next_ranges _ rfl _ rfl 9 K9 Rw id id (fun key _ _ => ⟨key, rfl⟩) (fun v _ _ => ⟨v, rfl⟩) bs w.heap.size ns _ _ _ rfl hrg ?_ ?_)
    · intro hc0 hl0
      go_wp2
      go_end0
      subst hc0
      exact ⟨Dout, rfl, by simpa using hout, ⟨fun k => by rw [hM.1 k, hl0 k], fun k z => by rw [hM.2 k z, hl0 k]⟩, hgw⟩
    · intro x c kl yd yp w1 cnt1 hkey hlx hv hat hrg1 hlt hg1 hs1 hen
      have hout1 := hout.kept hg1 (fun e => by have := Option.some.inj e; omega)
      obtain ⟨sk, rfl, rfl, _⟩ := WideMaps.string_of_keyOf Tryd.underlying9 hkey
      obtain ⟨d, A, nn, cc, hz⟩ := hSh.out _ (has_true_of_atKey hat)
      have hc : c = wv d A nn cc := by
        have h1 := hat (.held .nilFunc)
        rw [hz] at h1
        rw [← h1] at hv
        simp only [Rw, id, Option.some.injEq, Prod.mk.injEq, DataW.held.injEq] at hv
        exact hv.1
      subst hc
      clear hv hrg0 hout
      unfold wv at *
      have hbx := hout1.alloc (.cells #[.int .i64 d, .slice A nn cc] 45)
      have hrgx := hrg1.kept (World.grownBy_alloc w1 (.cells #[.int .i64 d, .slice A nn cc] 45) none) (by simp) (by simp)
      go_wp2_with (at_mapUpdate; refine wpList_mapUpdate_own _ rfl _ _ _ 46 rfl 9 45 K9 Tryd.underlying46 Rw bd _ _ rfl hbx (by omega) _ _ _ rfl rfl hkey (.held (.agg #[.int .i64 d, .slice A nn cc])) [] rfl ?_; intro w2 hout2 hg2; go_frame)
      have hrg2 := hrgx.kept hg2 (fun e => hne (Option.some.inj e).symm) (fun e => by have := Option.some.inj e; omega)
      go_roundw
      case rel =>
        exact ⟨_, cnt1, _, hrg2, by omega, hout2.mono (by omega), merged_step hM hM0 (K9.key hkey) hz, ((hgw.andThen hg1 (fun j hj => .inl (by cases hj; exact Nat.le_refl _))).andThen (World.grownBy_alloc w1 _ none) (fun j hj => by cases hj)).andThen hg2 (fun j hj => .inr hj)⟩
      case measure => rw [hrg2.left_eq, hrg.left_eq]; exact hlt
/-- What was reached, and what was reached in one round more. -/
theorem copy_in (bd bs nd ns : Nat) (R N : Rg) (w : World) (hd : MapW w bd nd R) (hs : MapW w bs ns N) (hne : bd ≠ bs) (hroom : nd + ns ≤ maxLen) :
    Calls Tryd.prog 19 #[.map (some bd), .map (some bs)] w fun e w' => e = .returned (.tuple #[]) ∧ MapW w' bd (nd + ns) (merge R N) ∧ w.grownBy w' (some bd) := by
  obtain ⟨Dd, hDd, hEd⟩ := hd
  obtain ⟨Ds, hDs, hEs⟩ := hs
  have hsz := hDs.size_le
  refine (copy_any bd bs nd ns Dd Ds w hDd hDs hne (by omega) (fun q hq => ?_)).mono ?_
  · have h := hEs q
    cases hN : N q with
    | none => rw [hN] at h; rw [show Maps.has Ds (.string q) = false from h] at hq; cases hq
    | some y =>
      rw [hN] at h
      obtain ⟨_, A, c, h2, _⟩ := h
      exact ⟨_, _, _, _, h2⟩
  · rintro e w' ⟨Dout, rfl, hown, hM, hg⟩
    have hk : CK w w' := CK.grown hg (fun r e => by cases e; exact MapW.row ⟨Dd, hDd, hEd⟩)
    refine ⟨rfl, ⟨Dout, hown.mono (by omega), fun q => ?_⟩, hg⟩
    have h1 := hM.1 (.string q)
    have h2 := hM.2 (.string q)
    unfold merge
    have hs1 := (hEs q).ck hk
    have hd1 := (hEd q).ck hk
    cases hN : N q with
    | some y =>
      rw [hN] at hs1
      obtain ⟨a, A, c, b, d, e⟩ := hs1
      exact ⟨by rw [h1, a]; simp, A, c, fun z => by rw [h2 z, a]; simpa using b z, d, e⟩
    | none =>
      rw [hN] at hs1
      have a : Maps.has Ds (.string q) = false := hs1
      cases hR : R q with
      | none =>
        rw [hR] at hd1
        have b : Maps.has Dd (.string q) = false := hd1
        show Maps.has Dout (.string q) = false
        rw [h1, a, b]; rfl
      | some y =>
        rw [hR] at hd1
        obtain ⟨b, A, c, d, e, f⟩ := hd1
        exact ⟨by rw [h1, b]; rfl, A, c, fun z => by rw [h2 z, a]; simpa using d z, e, f⟩
end Go.Proofs.YtbojieeildhlcaaDoor.Port
