/- Best: the earliest way. -/
import Derived.Test.YtbojieeildhlcaaDoorPortRound
import Derived.Test.YtbojieeildhlcaaDoorPortCopy
namespace Go.Proofs.YtbojieeildhlcaaDoor.Port
open Go.RowKit Go.Shelf Go.Proofs.YtbojieeildhlcaaDoorW.PrintWords Go.Proofs.YtbojieeildhlcaaDoorW.PrintLast Go.Proofs.YtbojieeildhlcaaDoorW.PrintMore Go.Proofs.YtbojieeildhlcaaDoor.G Go.Proofs.YtbojieeildhlcaaDoor.Ext Go.Proofs.YtbojieeildhlcaaDoor.PortMath
attribute [local go_sem] max2_int min2_int max_two min_two max_three min_three max_four min_four
set_option linter.unusedVariables false
set_option linter.unusedSimpArgs false

def daysI (c : Int) : Int := min (max c 0) 1048576
theorem days_calls (c : Int) (w : World) : Calls Tryd.prog 18 #[.int .i64 c] w fun e w' => e = .returned (.int .i64 (daysI c)) ∧ w' = w := by
  have key : ∀ z, z = daysI c → Ending.returned (Value.int .i64 z) = .returned (.int .i64 (daysI c)) := fun z h => by rw [h]
  go_enter Tryd.func18, Tryd.ntmps18
  go_wp2
  all_goals (go_ret; refine ⟨key _ ?_, rfl⟩; unfold daysI)
  all_goals (rename_i h1; split at h1 <;> omega)

theorem va_mem {l : List S35} : ∀ (k : Nat) {p : Nat × Nat × Nat}, p ∈ va l k → p.1 < k ∧ p.2.1 < p.2.2 ∧ p.2.2 < (vy l p.1).f1.length ∧ mayB (vy l p.1) = true := by
  intro k p h
  unfold va at h
  obtain ⟨i, hi, h⟩ := List.mem_flatMap.1 h
  have hi := List.mem_range.1 hi
  unfold vg at h
  split at h
  · rename_i hm
    unfold vf at h
    obtain ⟨f, hf, h⟩ := List.mem_flatMap.1 h
    unfold vt at h
    obtain ⟨t, ht, rfl⟩ := List.mem_map.1 h
    have ht := List.mem_range'_1.1 ht
    exact ⟨hi, by simp only; omega, by simp only; omega, hm⟩
  · cases h
theorem mem_va {l : List S35} {k i f t : Nat} (hi : i < k) (hf : f < t) (ht : t < (vy l i).f1.length) (hm : mayB (vy l i) = true) : (i, f, t) ∈ va l k := by
  unfold va
  refine List.mem_flatMap.2 ⟨i, List.mem_range.2 hi, ?_⟩
  unfold vg
  rw [if_pos hm]
  unfold vf
  refine List.mem_flatMap.2 ⟨f, List.mem_range.2 (by omega), ?_⟩
  unfold vt
  exact List.mem_map.2 ⟨t, List.mem_range'_1.2 ⟨by omega, by omega⟩, rfl⟩
theorem links_arr {l : List S35} {x : Lk Nm S30} (h : x ∈ links l) : 0 ≤ x.arr ∧ x.arr ≤ 1048576 := by
  unfold links at h
  obtain ⟨p, hp, rfl⟩ := List.mem_map.1 h
  obtain ⟨_, _, h3, h4⟩ := va_mem _ hp
  exact (may_call h4 h3).2
theorem way_arr {K ι : Type} {L : List (Lk K ι)} {first : K} {ready ch : Int} {j : Nat} {q : K} {d : Int} (h : PortMath.Way L first ready ch j q d) : ∃ x, x ∈ L ∧ x.arr = d := by
  cases h with
  | one h => exact ⟨_, h, rfl⟩
  | more _ h => exact ⟨_, h, rfl⟩
def it (l : List S35) (F : Nm) (ready ch : Int) (k : Nat) : Rg := iter (PortMath.start F ready) F ch (links l) k
theorem it_ok {l : List S35} {F : Nm} {ready ch : Int} {k : Nat} {q : Nm} {y : Int × List S30} (h : it l F ready ch k q = some y) : y.2.length ≤ k ∧ (q ≠ F → 0 ≤ y.1 ∧ y.1 ≤ 1048576) := by
  obtain ⟨h1, h2⟩ := iter_sound k q y h
  refine ⟨h1, fun hq => ?_⟩
  rcases h2 with h2 | ⟨j, _, h3⟩
  · exact absurd h2 hq
  · obtain ⟨x, hx, e⟩ := way_arr h3
    exact e ▸ links_arr hx
theorem wp_cut {P : Program} {x y : Code} {Q : Exit → Act → World → Prop} {a : Act} {w : World} (M : Act → World → Prop) (h1 : x.wp P (Exit.then M Q) a w) (h2 : ∀ a w, M a w → y.wp P Q a w) : (Code.seq x y).wp P Q a w :=
  wp_seq (Code.wp_mono (fun e a w h => by cases e <;> first | exact h2 _ _ h | exact h) h1)
theorem region_plain {P : Program} {ops : Array Oper} {id : Nat} {K : Act → World → Prop} {Q : Exit → Act → World → Prop} {S : World → Prop} {a : Act} {w : World} (hm : P.follows .mixedOrders = true) (hQ : ∀ a w, K a w → Q .normal a w)
    (h : wpAnyH P .any ops (onlyK K) S ops.size (Array.replicate ops.size false) a w.drew) : (Code.region id ops true).wp P Q a w :=
  Code.wp_mono (fun e a w hk => by cases e <;> first | exact hQ _ _ hk | exact hk.elim) (wp_region_held hm h)
/-- What Best tells. -/
def bestF (l : List S35) (fr tt : Nm) (ready change : Int) : List S30 × Int × Bool :=
  match it l fr ready (daysI change) 8 tt with
  | none => ([], 0, false)
  | some y => if fr = tt then ([], 0, false) else (y.2, y.1, true)
set_option maxRecDepth 100000 in
set_option maxHeartbeats 4000000 in
theorem best_calls (l : List S35) (A : Option Addr) (c : Nat) (fr tt : ByteArray) (ready change : Int) (w : World) (hl : l.length ≤ 1000) (hC : Kd.C k35 w A l.length l) (hfs : fr.size ≤ maxLen) (hts : tt.size ≤ maxLen) :
    Calls Tryd.prog 9 #[.slice A l.length c, .string fr, .string tt, .int .i64 ready, .int .i64 change] w fun e w' =>
      ∃ v0_ : Value, e = .returned (.tuple #[v0_, .int .i64 (bestF l fr.data.toList tt.data.toList ready change).2.1, .bool (bestF l fr.data.toList tt.data.toList ready change).2.2]) ∧ Kd.R k30 30 w' w.heap.size (fun _ => True) v0_ (bestF l fr.data.toList tt.data.toList ready change).1 ∧ Below w.heap.size w w' := by
  have hmm := @run_makeMap Tryd.prog
  have hm1 : ∃ w1, (Instr.mapUpdate 46 (.map (some w.heap.size)) (.string fr) (.agg #[.int .i64 ready, .slice none 0 0])).run Tryd.prog (w.alloc (.map #[] 0)) = .ok () w1 ∧ MapW w1 w.heap.size 1 (PortMath.start fr.data.toList ready) ∧ (w.alloc (.map #[] 0)).grownBy w1 (some w.heap.size) := by
    obtain ⟨w1, h1, h2, h3⟩ := (World.ownsMap_made w Tryd.prog 9 Rw).update K9 Tryd.underlying46 (by unfold maxLen; omega) (key9 hfs) (show Rw (.agg #[.int .i64 ready, .slice none 0 0]) = some (.held (wv ready none 0 0), []) from rfl)
    refine ⟨w1, h1, ?_, h3⟩
    have h4 := mapW_put (W := w.alloc (.map #[] 0)) (W2 := w1) (N := fun _ => none) (y := (ready, [])) hfs ⟨_, rfl⟩ (D := .map []) (fun q => rfl) h2 (CK.grown h3 (fun r e => by cases e; exact (mapW_made w).row)) ⟨rfl, Nat.zero_le _, fun h => absurd h (Nat.lt_irrefl _)⟩ (Nat.zero_le _)
    have e : (PortMath.start fr.data.toList ready : Rg) = PortMath.put (fun _ => none) fr.data.toList (ready, []) := rfl
    rw [e]
    exact h4
  obtain ⟨w1, hrun, hm1, hg1⟩ := hm1
  have hch : 0 ≤ daysI change ∧ daysI change ≤ 1048576 := by unfold daysI; omega
  have hC0 := Aside0.mk hC
  clear hC
  have hB1 : Below w.heap.size w w1 := ((Below.refl _ w).alloc (Nat.le_refl _) _).grown hg1 (by simp) (fun k e => by cases e; exact Nat.le_refl _)
  go_enter Tryd.func9, Tryd.ntmps9
  refine wp_cut (fun a' w' => Aside0 (w = w') ∧ a' = { tmps := #[.slice A l.length c, .string fr, .string tt, .int .i64 ready, .int .i64 change, undef, undef, undef, undef, undef, .slice none 0 0, .int .i64 0, .bool false, undef, undef, undef, undef, undef, undef, undef, undef, undef, undef, undef, undef, undef, undef, undef, undef, undef, undef, undef, undef, undef, undef, undef, undef, undef, undef, undef, undef, undef, undef, undef, undef, undef, undef, undef, undef, undef, undef, undef, undef, undef, undef], defers := [] }) ?b0 ?c0
  case b0 =>
    go_wp2
    first | exact ⟨⟨trivial⟩, rfl⟩ | exact ⟨⟨trivial⟩, trivial⟩
  case c0 =>
  rintro a' w' ⟨⟨rfl⟩, rfl⟩
  refine wp_cut (fun a' w2 => Aside0 (w1 = w2) ∧ ∃ v17 v18 v19 v20 v21, a' = { tmps := #[.slice A l.length c, .string fr, .string tt, .int .i64 ready, .int .i64 change, undef, undef, undef, undef, undef, .slice none 0 0, .int .i64 0, .bool false, .map (some w.heap.size), undef, undef, undef, v17, v18, v19, v20, v21, undef, undef, undef, undef, undef, undef, undef, undef, undef, undef, undef, undef, undef, undef, undef, undef, undef, undef, undef, undef, undef, undef, undef, undef, undef, undef, undef, undef, undef, undef, undef, undef, undef], defers := [] }) ?b1 ?c1
  case b1 =>
    go_wp2
    exact ⟨⟨trivial⟩, _, _, _, _, _, rfl⟩
  case c1 =>
  rintro a' w2 ⟨⟨rfl⟩, v17, v18, v19, v20, v21, rfl⟩
  clear hrun hg1
  refine wp_cut (fun a' w' => ∃ v14 v22 v23 v24 v25 v26 v27 v28 v29 v30 v31 v32 v33 v34 v35 v36, MapW w' w.heap.size 40960001 (it l fr.data.toList ready (daysI change) 8) ∧ Below w.heap.size w w' ∧ a' = { tmps := #[.slice A l.length c, .string fr, .string tt, .int .i64 ready, .int .i64 change, undef, undef, undef, undef, undef, .slice none 0 0, .int .i64 0, .bool false, .map (some w.heap.size), v14, undef, undef, v17, v18, v19, v20, v21, v22, v23, v24, v25, v26, v27, v28, v29, v30, v31, v32, v33, v34, v35, v36, undef, undef, undef, undef, undef, undef, undef, undef, undef, undef, undef, undef, undef, undef, undef, undef, undef, undef], defers := [] }) ?b2 ?c2
  case b2 =>
    go_wp2
    go_loopw [22] (fun i wr => ∃ k : Nat, k ≤ 8 ∧ i = .int .i64 k ∧ MapW wr w.heap.size (1 + 4096000 * k) (it l fr.data.toList ready (daysI change) k) ∧ Below w.heap.size w wr) (fun i _ => 8 - (intOf i).toNat)
    case atStart => exact ⟨0, by omega, rfl, hm1, hB1⟩
    case round =>
      obtain ⟨k, hk, rfl, hM, hB⟩ := hrel
      have hM' := Aside0.mk hM
      have hB' := Aside0.mk hB
      clear hM hB hB1 hm1
      by_cases hlt : k < 8
      · go_wp2_with (first
          | (go_at_call 18; refine (days_calls _ _).mono ?_; rintro e w' ⟨rfl, rfl⟩)
          | (go_at_call 17; refine (callsIn_wide.1 (round_in 3 (by omega) l A c w.heap.size _ _ fr (daysI change) _ hl (Kd.C_below hC0.out hB'.out) hM'.out hfs hch (fun q y h hq => (it_ok h).2 hq) (fun q y h => by have := (it_ok h).1; omega))).mono ?_; rintro e w2 ⟨mn, rfl, hmn, hMn, hb2⟩; obtain ⟨Dn, hDn, hEn⟩ := hMn; have hlen := hDn.len (t := 46) (e := 45) Tryd.underlying46; have hMR := Aside0.mk (hM'.out.same (hb2.block _ hM'.out.lt) (CK.below hb2)); have hMN := Aside0.mk (show MapW w2 mn 4096000 (roundR (it l fr.data.toList ready (daysI change) k) fr.data.toList (daysI change) (links l)) from ⟨Dn, hDn, hEn⟩); have hZ := Aside0.mk (map_empty hDn hEn); have hB2 := Aside0.mk (below_step hB'.out hb2); clear hDn hEn hb2)
          | (go_at_call 19; refine (copy_in w.heap.size mn _ _ _ _ _ hMR.out hMN.out (by have := hM'.out.lt; omega) (by unfold maxLen; omega)).mono ?_; rintro e w3 ⟨rfl, hM3, hg3⟩))
        · have hz := hZ.out (by rename_i h; simpa using h)
          have e8 : it l fr.data.toList ready (daysI change) 8 = it l fr.data.toList ready (daysI change) k := by
            have h := iter_stops (R := (PortMath.start fr.data.toList ready : Rg)) (first := fr.data.toList) (ch := daysI change) (L := links l) (k := k) (funext hz) (8 - k)
            rw [show k + (8 - k) = 8 by omega] at h
            exact h
          rw [e8]
          exact ⟨_, _, _, _, _, _, _, _, _, _, _, _, _, _, _, _, hMR.out.mono (by omega), hB2.out, rfl⟩
        · refine ⟨⟨k + 1, by omega, by push_cast; rfl, hM3.mono (by omega), hB2.out.grown hg3 hB2.out.size (fun j e => by cases e; exact Nat.le_refl _)⟩, ?_⟩
          simp only [intOf]; omega
      · obtain rfl : k = 8 := by omega
        go_wp2
        exact ⟨_, _, _, _, _, _, _, _, _, _, _, _, _, _, _, _, hM'.out.mono (by omega), hB'.out, rfl⟩
  case c2 =>
  rintro a' w3 ⟨v14, v22, v23, v24, v25, v26, v27, v28, v29, v30, v31, v32, v33, v34, v35, v36, hM, hB, rfl⟩
  clear hm1 hB1
  obtain ⟨D, hD, hE⟩ := hM
  have hEt := Aside0.mk (hE tt.data.toList)
  clear hE
  have hkt := key9 hts
  have hBb := Aside0.mk hB
  clear hB
  unfold bestF
  cases hy : it l fr.data.toList ready (daysI change) 8 tt.data.toList with
  | none =>
    have hE1 := hEt.out
    rw [hy] at hE1
    have hE2 := Aside0.mk hE1
    clear hE1
    go_wp2_with (at_lookup; refine wpList_lookup_own_ok _ rfl _ _ 46 rfl 9 45 K9 Tryd.underlying46 Rw (Tryd.zeroValue45 _) (.held (wv 0 none 0 0)) [] rfl w.heap.size _ D rfl hD _ _ rfl hkt ?_; intro v ps hv; obtain ⟨rfl, hhas⟩ := look_none hE2.out hv; rw [hhas]; unfold wv; clear hhas hv)
    refine bodyPost_ret (results_tmp3 rfl _ _ _) rfl ?_
    exact ⟨_, rfl, Kd.R_nil _ _ _ _ _, hBb.out.alloc hBb.out.size _⟩
  | some y =>
    have hE1 := hEt.out
    rw [hy] at hE1
    have hE2 := Aside0.mk hE1
    clear hE1
    have hyl := (it_ok hy).1
    by_cases hft : fr = tt
    · simp only [if_pos (show fr.data.toList = tt.data.toList by rw [hft])]
      go_wp2_with (at_lookup; refine wpList_lookup_own_ok _ rfl _ _ 46 rfl 9 45 K9 Tryd.underlying46 Rw (Tryd.zeroValue45 _) (.held (wv 0 none 0 0)) [] rfl w.heap.size _ D rfl hD _ _ rfl hkt ?_; intro v ps hv; obtain ⟨hhas, Ay, cy, rfl, hCy, hcy⟩ := look_some hE2.out hv; rw [hhas]; unfold wv; clear hhas hv hCy)
      refine bodyPost_ret (results_tmp3 rfl _ _ _) rfl ?_
      exact ⟨_, rfl, Kd.R_nil _ _ _ _ _, hBb.out.alloc hBb.out.size _⟩
    · have hne : (fr.toList == tt.toList) = false := by
        rw [beq_eq_false_iff_ne, ByteArray.toList_eq, ByteArray.toList_eq]; exact fun e => hft (ba_ext e)
      simp only [if_neg (show ¬ fr.data.toList = tt.data.toList from fun e => hft (ba_ext e))]
      go_wp2_with (at_lookup; refine wpList_lookup_own_ok _ rfl _ _ 46 rfl 9 45 K9 Tryd.underlying46 Rw (Tryd.zeroValue45 _) (.held (wv 0 none 0 0)) [] rfl w.heap.size _ D rfl hD _ _ rfl hkt ?_; intro v ps hv; obtain ⟨hhas, Ay, cy, rfl, hCy, hcy⟩ := look_some hE2.out hv; rw [hhas]; unfold wv; have hCy' := Aside0.mk hCy; clear hhas hv hCy)
      obtain ⟨W, hW⟩ : ∃ W, w3.alloc (Obj.cells #[.int .i64 y.1, .slice Ay y.2.length cy] 45) = W := ⟨_, rfl⟩
      have hq0 : W.cell? ⟨w3.heap.size, 0, none⟩ = some (.int .i64 y.1) := by rw [← hW]; simp [go_sem]
      have hq1 : W.cell? ⟨w3.heap.size, 1, none⟩ = some (.slice Ay y.2.length cy) := by rw [← hW]; simp [go_sem]
      have hBW : Below w.heap.size w W := by rw [← hW]; exact hBb.out.alloc hBb.out.size _
      have hCW := C30_ck hCy'.out (show CK w3 W by rw [← hW]; exact ck_alloc _ _)
      rw [hW]
      clear hW
      refine region_plain (S := CK W) (K := _) (by kernel_rfl) (fun _ _ h => h) ?_
      have hS : CK W W.drew := ck_drew W
      refine wpAnyH_take (i := 0) (v := ?hv1) rfl (by kernel_rfl) (by kernel_rfl) (by kernel_rfl) (fun _ _ _ h => h) (Or.inl ⟨by rfl, ?hy1⟩) (by assumption) ?rest1
      case hy1 => (intro w' hS'; go_simp; with_reducible rfl)
      refine wpAnyH_take (i := 1) (v := ?hv2) rfl (by kernel_rfl) (by kernel_rfl) (by kernel_rfl) (fun _ _ _ h => h) (Or.inl ⟨by rfl, ?hy2⟩) (by assumption) ?rest2
      case hy2 => (intro w' hS'; have e0 := hS'.2 _ _ hq1; go_simp; with_reducible rfl)
      refine wpAnyH_take (i := 3) (v := ?hv3) rfl (by kernel_rfl) (by kernel_rfl) (by kernel_rfl) (fun _ _ _ h => h) (Or.inl ⟨by rfl, ?hy3⟩) (by assumption) ?rest3
      case hy3 => (intro w' hS'; go_simp; with_reducible rfl)
      refine wpAnyH_take (i := 4) (v := ?hv4) rfl (by kernel_rfl) (by kernel_rfl) (by kernel_rfl) (fun _ _ _ h => h) (Or.inl ⟨by rfl, ?hy4⟩) (by assumption) ?rest4
      case hy4 => (intro w' hS'; have e0 := hS'.2 _ _ hq0; go_simp; with_reducible rfl)
      refine wpAnyH_all (rs := [2]) (by kernel_rfl) (by simp) ?_
      intro j hj
      obtain rfl := List.mem_singleton.1 hj
      refine wpOp_step rfl (fun K' hK' => ?_)
      go_simp
      refine (clone_own Ay cy y.2 _ (C30_ck hCW (ck_drew _)) (by omega)).mono ?_
      rintro e w5 ⟨v', news, rfl, hown, hreps, hb5⟩
      have hG5 : GC W w5 := (GC.drew W).t (gc_of (below_grown hb5))
      simp only []
      refine hK' _ _ ⟨hG5.2, ?_⟩
      clear hK' K'
      have hS5 := hG5.2
      refine wpAnyH_take (i := 5) (v := ?hv5) rfl (by kernel_rfl) (by kernel_rfl) (by kernel_rfl) (fun _ _ _ h => h) (Or.inl ⟨by rfl, ?hy5⟩) (by assumption) ?rest5
      case hy5 => (intro w' hS'; go_simp; with_reducible rfl)
      refine wpAnyH_take (i := 6) (v := ?hv6) rfl (by kernel_rfl) (by kernel_rfl) (by kernel_rfl) (fun _ _ _ h => h) (Or.inl ⟨by rfl, ?hy6⟩) (by assumption) ?rest6
      case hy6 => (intro w' hS'; go_simp; with_reducible rfl)
      refine wpAnyH_take (i := 7) (v := ?hv7) rfl (by kernel_rfl) (by kernel_rfl) (by kernel_rfl) (fun _ _ _ h => h) (Or.inl ⟨by rfl, ?hy7⟩) (by assumption) ?rest7
      case hy7 => (intro w' hS'; go_simp; with_reducible rfl)
      refine wpAnyH_done (by kernel_rfl) ?_ _
      simp only [onlyK, Exit.then]
      go_simp
      go_wp2
      refine bodyPost_ret (results_tmp3 rfl _ _ _) rfl ?_
      refine ⟨v', rfl, own_R m30 (own_mono hown hBW.size) hreps, hBW.grown hG5.1 hBW.size (fun k e => by cases e)⟩
end Go.Proofs.YtbojieeildhlcaaDoor.Port
