/- Best, Delay, and the document's example: contracts. -/
import Derived.Test.YtbojieeildhlcaaDoorPortBest
namespace Go.Proofs.YtbojieeildhlcaaDoor.Ext
open Go.RowKit Go.Shelf Go.Proofs.YtbojieeildhlcaaDoorW.PrintWords Go.Proofs.YtbojieeildhlcaaDoorW.PrintLast Go.Proofs.YtbojieeildhlcaaDoorW.PrintMore Go.Proofs.YtbojieeildhlcaaDoor.G Go.Proofs.YtbojieeildhlcaaDoor.Port
set_option linter.unusedVariables false
set_option linter.unusedSimpArgs false

/-- The earliest way, as the program tells it. -/
def port_Best.f (l0 : List S35) (a1 : ByteArray) (a2 : ByteArray) (a3 : Int) (a4 : Int) : Option (List S30 × Int × Bool) :=
  if l0.length ≤ 1000 ∧ a1.size ≤ maxLen ∧ a2.size ≤ maxLen then some (bestF l0 a1.data.toList a2.data.toList a3 a4) else none
theorem port_Best.calls (A0 : Option Addr) (c0 : Nat) (l0 : List S35) (a1 : ByteArray) (a2 : ByteArray) (a3 : Int) (a4 : Int) (r0 : List S30) (r1 : Int) (r2 : Bool) (w : World) (hr0 : Kd.C k35 w A0 l0.length l0) (hc0 : l0.length ≤ c0) (h : port_Best.f l0 a1 a2 a3 a4 = some (r0, r1, r2)) :
    Calls Tryd.prog 9 #[.slice A0 l0.length c0, .string a1, .string a2, .int .i64 a3, .int .i64 a4] w fun e w' => ∃ v0_ : Value, e = .returned (.tuple #[v0_, .int .i64 r1, .bool r2]) ∧ Kd.R k30 30 w' w.heap.size (fun _ => True) v0_ r0 ∧ Below w.heap.size w w' := by
  unfold port_Best.f at h
  split at h
  · rename_i hc
    have h := Option.some.inj h
    have hb := best_calls l0 A0 c0 a1 a2 a3 a4 w hc.1 hr0 hc.2.1 hc.2.2
    rw [h] at hb
    exact hb
  · cases h

def c0 : S32 := ⟨⟨#[97]⟩, 1, 1, 2⟩
def c1 : S32 := ⟨⟨#[98]⟩, 5, 5, 6⟩
def vc : S35 := ⟨⟨#[115]⟩, [c0, c1]⟩
def txt : Nat → ByteArray
  | 0 => ⟨#[115]⟩
  | 1 => ⟨#[115, 32, 97, 64, 49, 45, 50, 47, 49]⟩
  | _ => ⟨#[115, 32, 97, 64, 49, 45, 50, 47, 49, 32, 98, 64, 53, 45, 54, 47, 53]⟩
theorem may_vc : mayB vc = true := by decide +kernel

theorem itoa1 (n : Nat) (d : UInt8) (h : Lib.decDigits n = [d]) (hn : n < 100) (w : World) : Calls Tryd.prog 26 #[.int .i64 (n : Nat)] w fun e w' => e = .returned (.string ⟨#[d]⟩) ∧ w' = w := by
  have h2 := Tryd.strconv_Itoa_small n hn w
  rw [h] at h2
  exact h2
set_option maxRecDepth 100000 in
set_option maxHeartbeats 4000000 in
theorem text_const (A : Option Addr) (c : Nat) (w : World) (hC : Kd.C k32 w A 2 [c0, c1]) (hc : 2 ≤ c) :
    Calls Tryd.prog 16 #[.agg #[.string ⟨#[115]⟩, .slice A 2 c]] w fun e w' => e = .returned (.string (txt 2)) ∧ Below w.heap.size w w' := by
  obtain ⟨kk, hkk⟩ := may_ev vc
  have hM := Aside0.mk (hkk kk (Nat.le_refl _))
  rw [may_vc] at hM
  clear hkk
  have hC0 := Aside0.mk hC
  clear hC
  go_enter Tryd.func16, Tryd.ntmps16
  go_wp2_with (go_at_call 15; refine (port_May.calls kk _ A c [c0, c1] true _ (Kd.C_alloc hC0.out _) hc hM.out).mono ?_; rintro e w1 ⟨rfl, hb⟩; have hb0 := Aside0.mk hb; have hx0 : w1.cell? ⟨w.heap.size, 0, none⟩ = some (.string ⟨#[115]⟩) := (CK.below hb).2 _ _ (by simp [go_sem]); have hx1 : w1.cell? ⟨w.heap.size, 1, none⟩ = some (.slice A 2 c) := (CK.below hb).2 _ _ (by simp [go_sem]); have hC1 := Aside0.mk (C32_ck hC0.out ((ck_alloc w (.cells #[.string ⟨#[115]⟩, .slice A 2 c] 35)).trans (CK.below hb))); clear hb)
  go_loopw [14, 3] (fun i s wr => ∃ k : Nat, k ≤ 2 ∧ i = .int .i64 k ∧ s = .string (txt k) ∧ CK w1 wr ∧ Below w.heap.size w wr) (fun i _ _ => 2 - (intOf i).toNat)
  case atStart => exact ⟨0, by omega, rfl, rfl, CK.refl _, (((Below.refl _ w).alloc (Nat.le_refl _) _).trans (hb0.out.mono (by simp)))⟩
  case round =>
    obtain ⟨k, hk, rfl, rfl, hck, hB⟩ := hrel
    rcases (show k = 0 ∨ k = 1 ∨ k = 2 by omega) with hk0 | hk0 | hk0
    · obtain ⟨ad, e, hx0', hx1', hx2', hx3'⟩ := at_T32 (C32_ck hC1.out hck) (k : Int) (by omega) (by omega)
      subst e
      rw [show rd_T32 [c0, c1] (k : Nat) = c0 by rw [hk0]; rfl] at hx0' hx1' hx2' hx3'
      simp only [c0, Int.toNat_natCast] at hx0' hx1' hx2' hx3'
      rw [show txt k = ⟨#[115]⟩ by rw [hk0]; rfl]
      have hk1 := Aside0.mk hk0
      have hk2 : k < 2 := by omega
      clear hk0
      go_wp2
      obtain ⟨W, hW⟩ : ∃ W, wr.alloc (Obj.cells #[.string ⟨#[97]⟩, .int .i64 1, .int .i64 1, .int .i64 2] 32) = W := ⟨_, rfl⟩
      have q0 : W.cell? ⟨wr.heap.size, 0, none⟩ = some (.string ⟨#[97]⟩) := by rw [← hW]; simp [go_sem]
      have q1 : W.cell? ⟨wr.heap.size, 1, none⟩ = some (.int .i64 1) := by rw [← hW]; simp [go_sem]
      have q2 : W.cell? ⟨wr.heap.size, 2, none⟩ = some (.int .i64 1) := by rw [← hW]; simp [go_sem]
      have q3 : W.cell? ⟨wr.heap.size, 3, none⟩ = some (.int .i64 2) := by rw [← hW]; simp [go_sem]
      have hkW : CK w1 W := by rw [← hW]; exact hck.trans (ck_alloc _ _)
      have hBW : Below w.heap.size w W := by rw [← hW]; exact hB.alloc hB.size _
      rw [hW]
      clear hW
      refine region_plain (S := CK W) (K := _) (by kernel_rfl) (fun _ _ h => h) ?_
      have hS : CK W W.drew := ck_drew W
      refine wpAnyH_take (i := 0) (v := ?hv1) rfl (by kernel_rfl) (by kernel_rfl) (by kernel_rfl) (fun _ _ _ h => h) (Or.inl ⟨by rfl, ?hy1⟩) (by assumption) ?rest1
      case hy1 => (intro w' hS'; go_simp; with_reducible rfl)
      refine wpAnyH_take (i := 1) (v := ?hv2) rfl (by kernel_rfl) (by kernel_rfl) (by kernel_rfl) (fun _ _ _ h => h) (Or.inl ⟨by rfl, ?hy2⟩) (by assumption) ?rest2
      case hy2 => (intro w' hS'; go_simp; with_reducible rfl)
      refine wpAnyH_take (i := 2) (v := ?hv3) rfl (by kernel_rfl) (by kernel_rfl) (by kernel_rfl) (fun _ _ _ h => h) (Or.inl ⟨by rfl, ?hy3⟩) (by assumption) ?rest3
      case hy3 => (intro w' hS'; have e0 := hS'.2 _ _ q0; go_simp; with_reducible rfl)
      refine wpAnyH_take (i := 3) (v := ?hv4) rfl (by kernel_rfl) (by kernel_rfl) (by kernel_rfl) (fun _ _ _ h => h) (Or.inl ⟨by rfl, ?hy4⟩) (by assumption) ?rest4
      case hy4 => (intro w' hS'; go_simp; with_reducible rfl)
      refine wpAnyH_take (i := 4) (v := ?hv5) rfl (by kernel_rfl) (by kernel_rfl) (by kernel_rfl) (fun _ _ _ h => h) (Or.inl ⟨by rfl, ?hy5⟩) (by assumption) ?rest5
      case hy5 => (intro w' hS'; go_simp; with_reducible rfl)
      refine wpAnyH_take (i := 5) (v := ?hv6) rfl (by kernel_rfl) (by kernel_rfl) (by kernel_rfl) (fun _ _ _ h => h) (Or.inl ⟨by rfl, ?hy6⟩) (by assumption) ?rest6
      case hy6 => (intro w' hS'; go_simp; with_reducible rfl)
      refine wpAnyH_take (i := 6) (v := ?hv7) rfl (by kernel_rfl) (by kernel_rfl) (by kernel_rfl) (fun _ _ _ h => h) (Or.inl ⟨by rfl, ?hy7⟩) (by assumption) ?rest7
      case hy7 => (intro w' hS'; have e0 := hS'.2 _ _ q2; go_simp; with_reducible rfl)
      refine wpAnyH_take (i := 10) (v := ?hv8) rfl (by kernel_rfl) (by kernel_rfl) (by kernel_rfl) (fun _ _ _ h => h) (Or.inl ⟨by rfl, ?hy8⟩) (by assumption) ?rest8
      case hy8 => (intro w' hS'; go_simp; with_reducible rfl)
      refine wpAnyH_take (i := 11) (v := ?hv9) rfl (by kernel_rfl) (by kernel_rfl) (by kernel_rfl) (fun _ _ _ h => h) (Or.inl ⟨by rfl, ?hy9⟩) (by assumption) ?rest9
      case hy9 => (intro w' hS'; have e0 := hS'.2 _ _ q3; go_simp; with_reducible rfl)
      refine wpAnyH_take (i := 15) (v := ?hv10) rfl (by kernel_rfl) (by kernel_rfl) (by kernel_rfl) (fun _ _ _ h => h) (Or.inl ⟨by rfl, ?hy10⟩) (by assumption) ?rest10
      case hy10 => (intro w' hS'; go_simp; with_reducible rfl)
      refine wpAnyH_take (i := 16) (v := ?hv11) rfl (by kernel_rfl) (by kernel_rfl) (by kernel_rfl) (fun _ _ _ h => h) (Or.inl ⟨by rfl, ?hy11⟩) (by assumption) ?rest11
      case hy11 => (intro w' hS'; have e0 := hS'.2 _ _ q1; go_simp; with_reducible rfl)
      refine wpAnyH_all (rs := [7]) (by kernel_rfl) (by simp) ?_
      intro j hj
      obtain rfl := List.mem_singleton.1 hj
      refine wpOp_step rfl (fun K' hK' => ?_)
      go_simp
      refine (itoa1 1 49 (by decide +kernel) (by omega) _).mono ?_
      rintro e w5 ⟨rfl, rfl⟩
      simp only []
      refine hK' _ _ ⟨hS, ?_⟩
      clear hK' K'
      refine wpAnyH_take (i := 8) (v := ?hv12) rfl (by kernel_rfl) (by kernel_rfl) (by kernel_rfl) (fun _ _ _ h => h) (Or.inl ⟨by rfl, ?hy12⟩) (by assumption) ?rest12
      case hy12 => (intro w' hS'; go_simp; with_reducible rfl)
      refine wpAnyH_take (i := 9) (v := ?hv13) rfl (by kernel_rfl) (by kernel_rfl) (by kernel_rfl) (fun _ _ _ h => h) (Or.inl ⟨by rfl, ?hy13⟩) (by assumption) ?rest13
      case hy13 => (intro w' hS'; go_simp; with_reducible rfl)
      refine wpAnyH_all (rs := [12]) (by kernel_rfl) (by simp) ?_
      intro j hj
      obtain rfl := List.mem_singleton.1 hj
      refine wpOp_step rfl (fun K' hK' => ?_)
      go_simp
      refine (itoa1 2 50 (by decide +kernel) (by omega) _).mono ?_
      rintro e w5 ⟨rfl, rfl⟩
      simp only []
      refine hK' _ _ ⟨hS, ?_⟩
      clear hK' K'
      refine wpAnyH_take (i := 13) (v := ?hv14) rfl (by kernel_rfl) (by kernel_rfl) (by kernel_rfl) (fun _ _ _ h => h) (Or.inl ⟨by rfl, ?hy14⟩) (by assumption) ?rest14
      case hy14 => (intro w' hS'; go_simp; with_reducible rfl)
      refine wpAnyH_take (i := 14) (v := ?hv15) rfl (by kernel_rfl) (by kernel_rfl) (by kernel_rfl) (fun _ _ _ h => h) (Or.inl ⟨by rfl, ?hy15⟩) (by assumption) ?rest15
      case hy15 => (intro w' hS'; go_simp; with_reducible rfl)
      refine wpAnyH_all (rs := [17]) (by kernel_rfl) (by simp) ?_
      intro j hj
      obtain rfl := List.mem_singleton.1 hj
      refine wpOp_step rfl (fun K' hK' => ?_)
      go_simp
      refine (itoa1 1 49 (by decide +kernel) (by omega) _).mono ?_
      rintro e w5 ⟨rfl, rfl⟩
      simp only []
      refine hK' _ _ ⟨hS, ?_⟩
      clear hK' K'
      refine wpAnyH_take (i := 18) (v := ?hv16) rfl (by kernel_rfl) (by kernel_rfl) (by kernel_rfl) (fun _ _ _ h => h) (Or.inl ⟨by rfl, ?hy16⟩) (by assumption) ?rest16
      case hy16 => (intro w' hS'; go_simp; with_reducible rfl)
      refine wpAnyH_take (i := 19) (v := ?hv17) rfl (by kernel_rfl) (by kernel_rfl) (by kernel_rfl) (fun _ _ _ h => h) (Or.inl ⟨by rfl, ?hy17⟩) (by assumption) ?rest17
      case hy17 => (intro w' hS'; go_simp; with_reducible rfl)
      refine wpAnyH_take (i := 20) (v := ?hv18) rfl (by kernel_rfl) (by kernel_rfl) (by kernel_rfl) (fun _ _ _ h => h) (Or.inl ⟨by rfl, ?hy18⟩) (by assumption) ?rest18
      case hy18 => (intro w' hS'; go_simp; with_reducible rfl)
      refine wpAnyH_done (by kernel_rfl) ?_ _
      simp only [onlyK, Exit.then]
      go_simp
      go_wp2
      refine ⟨⟨k + 1, by omega, by push_cast; rfl, ?_, hkW.trans (ck_drew _), hBW.grown (grown_drew W) hBW.size (by simp)⟩, by simp only [intOf]; omega⟩
      rw [show txt (k + 1) = txt 1 by rw [hk1.out]]
      kernel_rfl
    · obtain ⟨ad, e, hx0', hx1', hx2', hx3'⟩ := at_T32 (C32_ck hC1.out hck) (k : Int) (by omega) (by omega)
      subst e
      rw [show rd_T32 [c0, c1] (k : Nat) = c1 by rw [hk0]; rfl] at hx0' hx1' hx2' hx3'
      simp only [c1, Int.toNat_natCast] at hx0' hx1' hx2' hx3'
      rw [show txt k = ⟨#[115, 32, 97, 64, 49, 45, 50, 47, 49]⟩ by rw [hk0]; rfl]
      have hk1 := Aside0.mk hk0
      have hk2 : k < 2 := by omega
      clear hk0
      go_wp2
      obtain ⟨W, hW⟩ : ∃ W, wr.alloc (Obj.cells #[.string ⟨#[98]⟩, .int .i64 5, .int .i64 5, .int .i64 6] 32) = W := ⟨_, rfl⟩
      have q0 : W.cell? ⟨wr.heap.size, 0, none⟩ = some (.string ⟨#[98]⟩) := by rw [← hW]; simp [go_sem]
      have q1 : W.cell? ⟨wr.heap.size, 1, none⟩ = some (.int .i64 5) := by rw [← hW]; simp [go_sem]
      have q2 : W.cell? ⟨wr.heap.size, 2, none⟩ = some (.int .i64 5) := by rw [← hW]; simp [go_sem]
      have q3 : W.cell? ⟨wr.heap.size, 3, none⟩ = some (.int .i64 6) := by rw [← hW]; simp [go_sem]
      have hkW : CK w1 W := by rw [← hW]; exact hck.trans (ck_alloc _ _)
      have hBW : Below w.heap.size w W := by rw [← hW]; exact hB.alloc hB.size _
      rw [hW]
      clear hW
      refine region_plain (S := CK W) (K := _) (by kernel_rfl) (fun _ _ h => h) ?_
      have hS : CK W W.drew := ck_drew W
      refine wpAnyH_take (i := 0) (v := ?hv19) rfl (by kernel_rfl) (by kernel_rfl) (by kernel_rfl) (fun _ _ _ h => h) (Or.inl ⟨by rfl, ?hy19⟩) (by assumption) ?rest19
      case hy19 => (intro w' hS'; go_simp; with_reducible rfl)
      refine wpAnyH_take (i := 1) (v := ?hv20) rfl (by kernel_rfl) (by kernel_rfl) (by kernel_rfl) (fun _ _ _ h => h) (Or.inl ⟨by rfl, ?hy20⟩) (by assumption) ?rest20
      case hy20 => (intro w' hS'; go_simp; with_reducible rfl)
      refine wpAnyH_take (i := 2) (v := ?hv21) rfl (by kernel_rfl) (by kernel_rfl) (by kernel_rfl) (fun _ _ _ h => h) (Or.inl ⟨by rfl, ?hy21⟩) (by assumption) ?rest21
      case hy21 => (intro w' hS'; have e0 := hS'.2 _ _ q0; go_simp; with_reducible rfl)
      refine wpAnyH_take (i := 3) (v := ?hv22) rfl (by kernel_rfl) (by kernel_rfl) (by kernel_rfl) (fun _ _ _ h => h) (Or.inl ⟨by rfl, ?hy22⟩) (by assumption) ?rest22
      case hy22 => (intro w' hS'; go_simp; with_reducible rfl)
      refine wpAnyH_take (i := 4) (v := ?hv23) rfl (by kernel_rfl) (by kernel_rfl) (by kernel_rfl) (fun _ _ _ h => h) (Or.inl ⟨by rfl, ?hy23⟩) (by assumption) ?rest23
      case hy23 => (intro w' hS'; go_simp; with_reducible rfl)
      refine wpAnyH_take (i := 5) (v := ?hv24) rfl (by kernel_rfl) (by kernel_rfl) (by kernel_rfl) (fun _ _ _ h => h) (Or.inl ⟨by rfl, ?hy24⟩) (by assumption) ?rest24
      case hy24 => (intro w' hS'; go_simp; with_reducible rfl)
      refine wpAnyH_take (i := 6) (v := ?hv25) rfl (by kernel_rfl) (by kernel_rfl) (by kernel_rfl) (fun _ _ _ h => h) (Or.inl ⟨by rfl, ?hy25⟩) (by assumption) ?rest25
      case hy25 => (intro w' hS'; have e0 := hS'.2 _ _ q2; go_simp; with_reducible rfl)
      refine wpAnyH_take (i := 10) (v := ?hv26) rfl (by kernel_rfl) (by kernel_rfl) (by kernel_rfl) (fun _ _ _ h => h) (Or.inl ⟨by rfl, ?hy26⟩) (by assumption) ?rest26
      case hy26 => (intro w' hS'; go_simp; with_reducible rfl)
      refine wpAnyH_take (i := 11) (v := ?hv27) rfl (by kernel_rfl) (by kernel_rfl) (by kernel_rfl) (fun _ _ _ h => h) (Or.inl ⟨by rfl, ?hy27⟩) (by assumption) ?rest27
      case hy27 => (intro w' hS'; have e0 := hS'.2 _ _ q3; go_simp; with_reducible rfl)
      refine wpAnyH_take (i := 15) (v := ?hv28) rfl (by kernel_rfl) (by kernel_rfl) (by kernel_rfl) (fun _ _ _ h => h) (Or.inl ⟨by rfl, ?hy28⟩) (by assumption) ?rest28
      case hy28 => (intro w' hS'; go_simp; with_reducible rfl)
      refine wpAnyH_take (i := 16) (v := ?hv29) rfl (by kernel_rfl) (by kernel_rfl) (by kernel_rfl) (fun _ _ _ h => h) (Or.inl ⟨by rfl, ?hy29⟩) (by assumption) ?rest29
      case hy29 => (intro w' hS'; have e0 := hS'.2 _ _ q1; go_simp; with_reducible rfl)
      refine wpAnyH_all (rs := [7]) (by kernel_rfl) (by simp) ?_
      intro j hj
      obtain rfl := List.mem_singleton.1 hj
      refine wpOp_step rfl (fun K' hK' => ?_)
      go_simp
      refine (itoa1 5 53 (by decide +kernel) (by omega) _).mono ?_
      rintro e w5 ⟨rfl, rfl⟩
      simp only []
      refine hK' _ _ ⟨hS, ?_⟩
      clear hK' K'
      refine wpAnyH_take (i := 8) (v := ?hv30) rfl (by kernel_rfl) (by kernel_rfl) (by kernel_rfl) (fun _ _ _ h => h) (Or.inl ⟨by rfl, ?hy30⟩) (by assumption) ?rest30
      case hy30 => (intro w' hS'; go_simp; with_reducible rfl)
      refine wpAnyH_take (i := 9) (v := ?hv31) rfl (by kernel_rfl) (by kernel_rfl) (by kernel_rfl) (fun _ _ _ h => h) (Or.inl ⟨by rfl, ?hy31⟩) (by assumption) ?rest31
      case hy31 => (intro w' hS'; go_simp; with_reducible rfl)
      refine wpAnyH_all (rs := [12]) (by kernel_rfl) (by simp) ?_
      intro j hj
      obtain rfl := List.mem_singleton.1 hj
      refine wpOp_step rfl (fun K' hK' => ?_)
      go_simp
      refine (itoa1 6 54 (by decide +kernel) (by omega) _).mono ?_
      rintro e w5 ⟨rfl, rfl⟩
      simp only []
      refine hK' _ _ ⟨hS, ?_⟩
      clear hK' K'
      refine wpAnyH_take (i := 13) (v := ?hv32) rfl (by kernel_rfl) (by kernel_rfl) (by kernel_rfl) (fun _ _ _ h => h) (Or.inl ⟨by rfl, ?hy32⟩) (by assumption) ?rest32
      case hy32 => (intro w' hS'; go_simp; with_reducible rfl)
      refine wpAnyH_take (i := 14) (v := ?hv33) rfl (by kernel_rfl) (by kernel_rfl) (by kernel_rfl) (fun _ _ _ h => h) (Or.inl ⟨by rfl, ?hy33⟩) (by assumption) ?rest33
      case hy33 => (intro w' hS'; go_simp; with_reducible rfl)
      refine wpAnyH_all (rs := [17]) (by kernel_rfl) (by simp) ?_
      intro j hj
      obtain rfl := List.mem_singleton.1 hj
      refine wpOp_step rfl (fun K' hK' => ?_)
      go_simp
      refine (itoa1 5 53 (by decide +kernel) (by omega) _).mono ?_
      rintro e w5 ⟨rfl, rfl⟩
      simp only []
      refine hK' _ _ ⟨hS, ?_⟩
      clear hK' K'
      refine wpAnyH_take (i := 18) (v := ?hv34) rfl (by kernel_rfl) (by kernel_rfl) (by kernel_rfl) (fun _ _ _ h => h) (Or.inl ⟨by rfl, ?hy34⟩) (by assumption) ?rest34
      case hy34 => (intro w' hS'; go_simp; with_reducible rfl)
      refine wpAnyH_take (i := 19) (v := ?hv35) rfl (by kernel_rfl) (by kernel_rfl) (by kernel_rfl) (fun _ _ _ h => h) (Or.inl ⟨by rfl, ?hy35⟩) (by assumption) ?rest35
      case hy35 => (intro w' hS'; go_simp; with_reducible rfl)
      refine wpAnyH_take (i := 20) (v := ?hv36) rfl (by kernel_rfl) (by kernel_rfl) (by kernel_rfl) (fun _ _ _ h => h) (Or.inl ⟨by rfl, ?hy36⟩) (by assumption) ?rest36
      case hy36 => (intro w' hS'; go_simp; with_reducible rfl)
      refine wpAnyH_done (by kernel_rfl) ?_ _
      simp only [onlyK, Exit.then]
      go_simp
      go_wp2
      refine ⟨⟨k + 1, by omega, by push_cast; rfl, ?_, hkW.trans (ck_drew _), hBW.grown (grown_drew W) hBW.size (by simp)⟩, by simp only [intOf]; omega⟩
      rw [show txt (k + 1) = txt 2 by rw [hk1.out]]
      kernel_rfl
    · subst hk0
      go_wp2
      go_ret
      exact ⟨rfl, hB⟩
open Go.Proofs.YtbojieeildhlcaaDoor.PortMath in
def xl : Lk Nm S30 := ⟨⟨0, 0, 1⟩, [97], 1, [98], 5⟩
open Go.Proofs.YtbojieeildhlcaaDoor.PortMath in
theorem links_vc : links [vc] = [xl] := by kernel_rfl
open Go.Proofs.YtbojieeildhlcaaDoor.PortMath in
theorem it_stop {r : Int} {k : Nat} (hk : k ≤ 8) (h : cand (it [vc] [97] r 0 k) [97] 0 xl = none) : it [vc] [97] r 0 8 = it [vc] [97] r 0 k := by
  have h1 := iter_stops (R := (PortMath.start [97] r : Rg)) (first := [97]) (ch := 0) (L := links [vc]) (k := k) (by
    rw [links_vc]
    exact better_none (by rw [← links_vc]; exact h)) (8 - k)
  rw [show k + (8 - k) = 8 by omega] at h1
  exact h1
theorem best_1 : bestF [vc] [97] [98] 1 0 = ([⟨0, 0, 1⟩], 5, true) := by
  unfold bestF
  rw [show daysI 0 = 0 from rfl, it_stop (k := 1) (by omega) (by kernel_rfl)]
  kernel_rfl
theorem best_2 : bestF [vc] [97] [98] 2 0 = ([], 0, false) := by
  unfold bestF
  rw [show daysI 0 = 0 from rfl, it_stop (k := 0) (by omega) (by kernel_rfl)]
  kernel_rfl
end Go.Proofs.YtbojieeildhlcaaDoor.Ext
