/- PortDelays: the walk. -/
import Derived.Test.YtbojieeildhlcaaDoorPortL4
namespace Go.Proofs.YtbojieeildhlcaaDoor.Port
open Go.RowKit Go.Shelf Go.Proofs.YtbojieeildhlcaaDoorW.PrintWords Go.Proofs.YtbojieeildhlcaaDoorW.PrintLast Go.Proofs.YtbojieeildhlcaaDoorW.PrintMore Go.Proofs.YtbojieeildhlcaaDoor.G Go.Proofs.YtbojieeildhlcaaDoor.Ext
set_option linter.unusedVariables false
set_option linter.unusedSimpArgs false

/-- A voyage lies in a block of its own. -/
structure Vb (W : World) (b : Nat) (s : ByteArray) (A : Option Addr) (c : Nat) (l : List S32) : Prop where
  blk : W.heap[b]? = some (.cells #[.string s, .slice A l.length c] 35 (0, 0))
  row : Kd.C k32 W A l.length l
  cap : l.length ≤ c
theorem Vb.step {W W' : World} {b : Nat} {s : ByteArray} {A : Option Addr} {c : Nat} {l : List S32} (h : Vb W b s A c l) (hb : Below W.heap.size W W') : Vb W' b s A c l := ⟨blk_below h.blk hb, Kd.C_below h.row hb, h.cap⟩
theorem Vb.c0 {W : World} {b : Nat} {s : ByteArray} {A : Option Addr} {c : Nat} {l : List S32} (h : Vb W b s A c l) : W.cell? ⟨b, 0, none⟩ = some (.string s) ∧ W.cell? ⟨b, 1, none⟩ = some (.slice A l.length c) := ⟨blk_cell h.blk 0, blk_cell h.blk 1⟩
theorem one_new {W : World} {s : ByteArray} {A : Option Addr} {c : Nat} {l : List S32} (hC : Kd.C k32 W A l.length l) (hc : l.length ≤ c) : Kd.C k35 (W.alloc (Obj.cells #[.string s, .slice A l.length c] 35)) (some ⟨W.heap.size, 0, none⟩) 1 [⟨s, l⟩] := by
  refine ⟨rfl, by decide, fun _ => ⟨_, rfl, fun j p hj => ?_⟩⟩
  rcases j with _ | j
  · simp at hj; subst hj
    refine ⟨_, rfl, k35_mk _ ⟨s, l⟩ (A1 := A) (c1 := c) hc (Kd.C_alloc hC _), fun i u hu => ?_⟩
    rcases i with _ | _ | i <;> simp at hu <;> subst hu <;> simp [go_sem, Addr.add]
  · simp at hj
theorem copied_one {W : World} {s : ByteArray} {A : Option Addr} {c : Nat} {l : List S32} (hC : Kd.C k32 W A l.length l) (hc : l.length ≤ c) (h70 : l.length ≤ 70) :
    Calls Tryd.prog 11 #[.slice (some ⟨W.heap.size, 0, none⟩) 1 1] (W.alloc (Obj.cells #[.string s, .slice A l.length c] 35)) fun e W2 => ∃ g cap A7 c7, e = .returned (.slice (some ⟨g, 0, none⟩) 1 cap) ∧
      W2.cell? ⟨g, 0, none⟩ = some (.string s) ∧ W2.cell? ⟨g, 1, none⟩ = some (.slice A7 l.length c7) ∧ Kd.C k32 W2 A7 l.length l ∧ l.length ≤ c7 ∧ Below (W.alloc (Obj.cells #[.string s, .slice A l.length c] 35)).heap.size (W.alloc (Obj.cells #[.string s, .slice A l.length c] 35)) W2 := by
  obtain ⟨kc, hkc⟩ := (copied_ev ⟨s, l⟩ (by show l.length ≤ _; omega)).rounds
  refine (supercargolaw16_copied.calls kc _ 1 [⟨s, l⟩] [⟨s, l⟩] _ (one_new hC hc) (Nat.le_refl _) hkc).mono ?_
  rintro e W2 ⟨v0, rfl, hS, hb⟩
  obtain ⟨g, cap, hvv, hbg, hgW, _⟩ := Kd.S_form hS (show 0 < 1 by decide)
  subst hvv
  obtain ⟨ad, A7, c7, had, hz0, hz1, hc7, hC7⟩ := at_T35 (Kd.S_reads' hS).2.2 0 (by decide) (show (0 : Int) < ((1 : Nat) : Int) by decide)
  cases had
  exact ⟨g, cap, A7, c7, rfl, hz0, hz1, hC7, hc7, hb⟩
set_option maxRecDepth 100000 in
set_option maxHeartbeats 8000000 in
theorem delays_calls (s : ByteArray) (A : Option Addr) (c : Nat) (l : List S32) (call days : Int) (w : World) (hz : sized ⟨s, l⟩) (hr : Kd.C k32 w A l.length l) (hc : l.length ≤ c) :
    Calls Tryd.prog 5 #[.agg #[.string s, .slice A l.length c], .int .i64 call, .int .i64 days] w fun e w' => e = .returned (.bool true) ∧ Below w.heap.size w w' := by
  have hu35 := Tryd.underlying35
  have hr0 := Aside0.mk hr
  clear hr
  go_enter Tryd.func5, Tryd.ntmps5
  refine wp_cut (fun a' W => Vb W w.heap.size s A c l ∧ Below w.heap.size w W ∧ a' = { tmps := #[.agg #[.string s, .slice A l.length c], .int .i64 call, .int .i64 days, .pointer (some ⟨w.heap.size, 0, none⟩), undef, undef, .bool false, undef, undef, undef, undef, undef, undef, undef, undef, undef, undef, undef, undef, undef, undef, undef, undef, undef, undef, undef, undef, undef, undef, undef, undef, undef, undef, undef, undef, undef, undef, undef], defers := [] }) ?b0 ?c0
  case b0 =>
    go_wp2
    refine ⟨⟨blk_new w _, Kd.C_alloc hr0.out _, hc⟩, below_alloc (Below.refl _ _) _, ?_⟩
    first | rfl | trivial
  case c0 =>
  rintro a' W0 ⟨hV, hB, rfl⟩
  refine wp_cut (fun a' W => ∃ v9 v10 v11 v12 v13 v14 v15 v16, l.length ≤ 70 ∧ Vb W w.heap.size s A c l ∧ Below w.heap.size w W ∧ a' = { tmps := #[.agg #[.string s, .slice A l.length c], .int .i64 call, .int .i64 days, .pointer (some ⟨w.heap.size, 0, none⟩), undef, undef, .bool false, undef, undef, v9, v10, v11, v12, v13, v14, v15, v16, undef, undef, undef, undef, undef, undef, undef, undef, undef, undef, undef, undef, undef, undef, undef, undef, undef, undef, undef, undef, undef], defers := [] }) ?b1 ?c1
  case b1 =>
    obtain ⟨x0, x1⟩ := hV.c0
    have hV := Aside0.mk hV
    have hB := Aside0.mk hB
    by_cases h70 : (l.length : Int) > 70
    · go_wp2_with (first
        | (go_at_call 7; refine (awake_walk _).mono ?_; rintro e W1 ⟨rfl, hb⟩; have hV1 := Aside0.mk (hV.out.step hb); have hB1 := Aside0.mk (below_step hB.out hb); obtain ⟨y0, y1⟩ := hV1.out.c0; clear x0 x1 hB hV hb; have hV := hV1; have hB := hB1; clear hV1 hB1; have x0 := y0; have x1 := y1; clear y0 y1))
      exact bodyPost_ret (results_tmp rfl _ _ _) rfl ⟨rfl, hB.out⟩
    · go_wp2_with (first
        | (go_at_call 7; refine (awake_walk _).mono ?_; rintro e W1 ⟨rfl, hb⟩; have hV1 := Aside0.mk (hV.out.step hb); have hB1 := Aside0.mk (below_step hB.out hb); obtain ⟨y0, y1⟩ := hV1.out.c0; clear x0 x1 hB hV hb; have hV := hV1; have hB := hB1; clear hV1 hB1; have x0 := y0; have x1 := y1; clear y0 y1))
      exact ⟨_, _, _, _, _, _, _, _, by omega, hV.out, hB.out, rfl⟩
  case c1 =>
  rintro a' W1 ⟨v9, v10, v11, v12, v13, v14, v15, v16, h70, hV1, hB1, rfl⟩
  refine wp_cut (fun a' W => ∃ b7 A7 c7 v18 v19 v20 v21 v22, Vb W w.heap.size s A c l ∧ Vb W b7 s A7 c7 l ∧ Below w.heap.size w W ∧ a' = { tmps := #[.agg #[.string s, .slice A l.length c], .int .i64 call, .int .i64 days, .pointer (some ⟨w.heap.size, 0, none⟩), undef, undef, .bool false, .pointer (some ⟨b7, 0, none⟩), undef, v9, v10, v11, v12, v13, v14, v15, v16, undef, v18, v19, v20, v21, v22, undef, undef, undef, undef, undef, undef, undef, undef, undef, undef, undef, undef, undef, undef, undef], defers := [] }) ?b2 ?c2
  case b2 =>
    obtain ⟨x0, x1⟩ := hV1.c0
    have hV1 := Aside0.mk hV1
    have hB1 := Aside0.mk hB1
    go_wp2_with (first
      | (go_at_call 11; refine (copied_one hV1.out.row hV1.out.cap h70).mono ?_; rintro e W2 ⟨g, cap, A7, c7, rfl, y0, y1, hC7, hc7, hb⟩; have hC7 := Aside0.mk hC7; have hc7 := Aside0.mk hc7; have hV2 := Aside0.mk ((⟨blk_alloc hV1.out.blk _, Kd.C_alloc hV1.out.row _, hV1.out.cap⟩ : Vb _ _ _ _ _ _).step hb); have hB2 := Aside0.mk (below_step (below_alloc hB1.out _) hb); clear hb x0 x1))
    exact ⟨_, _, _, _, _, _, _, _, ⟨blk_alloc hV2.out.blk _, Kd.C_alloc hV2.out.row _, hV2.out.cap⟩, ⟨blk_new _ _, Kd.C_alloc hC7.out _, hc7.out⟩, below_alloc hB2.out _, rfl⟩
  case c2 =>
  rintro a' W2 ⟨b7, A7, c7, v18, v19, v20, v21, v22, hV2, hO2, hB2, rfl⟩
  have hdl := Aside0.mk (delF_len s l call days)
  refine wp_cut (fun a' W => ∃ b8 A8 c8 v23 v24 v25 v26, Vb W w.heap.size s A c l ∧ Vb W b7 s A7 c7 l ∧ Vb W b8 s A8 c8 (delF s l call days) ∧ Below w.heap.size w W ∧ a' = { tmps := #[.agg #[.string s, .slice A l.length c], .int .i64 call, .int .i64 days, .pointer (some ⟨w.heap.size, 0, none⟩), undef, undef, .bool false, .pointer (some ⟨b7, 0, none⟩), .pointer (some ⟨b8, 0, none⟩), v9, v10, v11, v12, v13, v14, v15, v16, undef, v18, v19, v20, v21, v22, v23, v24, v25, v26, undef, undef, undef, undef, undef, undef, undef, undef, undef, undef, undef], defers := [] }) ?b3 ?c3
  case b3 =>
    obtain ⟨x0, x1⟩ := hO2.c0
    have hV2 := Aside0.mk hV2
    have hO2 := Aside0.mk hO2
    have hB2 := Aside0.mk hB2
    go_wp2_with (first
      | (go_at_call 12; refine (delay_calls s A7 c7 l call days _ hO2.out.row hO2.out.cap (by omega)).mono ?_; rintro e W3 ⟨v1, rfl, hR, hb⟩; obtain ⟨A8, c8, rfl, hc8, hC8⟩ := Kd.R_reads hR; have hC8 := Aside0.mk hC8; have hc8 := Aside0.mk hc8; have hV3 := Aside0.mk (hV2.out.step hb); have hO3 := Aside0.mk (hO2.out.step hb); have hB3 := Aside0.mk (below_step hB2.out hb); clear hb hR x0 x1))
    exact ⟨_, _, _, _, _, _, _, ⟨blk_alloc hV3.out.blk _, Kd.C_alloc hV3.out.row _, hV3.out.cap⟩, ⟨blk_alloc hO3.out.blk _, Kd.C_alloc hO3.out.row _, hO3.out.cap⟩, ⟨blk_new _ _, Kd.C_alloc hC8.out _, hc8.out⟩, below_alloc hB3.out _, rfl⟩
  case c3 =>
  rintro a' W3 ⟨b8, A8, c8, v23, v24, v25, v26, hV3, hO3, hD3, hB3, rfl⟩
  obtain ⟨kr, hkr⟩ := (rdel_ev s l call days (by omega) hz).rounds
  obtain ⟨ks, hks⟩ := (same_self s (delF s l call days) (by rw [hdl.out]; omega)).rounds
  obtain ⟨kt, hkt⟩ := (same_self s l (by omega)).rounds
  have hkr := Aside0.mk hkr
  have hks := Aside0.mk hks
  have hkt := Aside0.mk hkt
  generalize delF s l call days = m at *
  have hV3 := Aside0.mk hV3
  have hO3 := Aside0.mk hO3
  have hD3 := Aside0.mk hD3
  have hB3 := Aside0.mk hB3
  refine wp_cut (fun a' W => ∃ v27 v28 v29 v30 v31 v32 v33 v34 v35 v36 v37, Below w.heap.size w W ∧ a' = { tmps := #[.agg #[.string s, .slice A l.length c], .int .i64 call, .int .i64 days, .pointer (some ⟨w.heap.size, 0, none⟩), undef, undef, .bool true, .pointer (some ⟨b7, 0, none⟩), .pointer (some ⟨b8, 0, none⟩), v9, v10, v11, v12, v13, v14, v15, v16, undef, v18, v19, v20, v21, v22, v23, v24, v25, v26, v27, v28, v29, v30, v31, v32, v33, v34, v35, v36, v37], defers := [] }) ?b4 ?c4
  case b4 =>
    refine region_plain (S := fun W' => Below W3.heap.size W3 W') (K := _) (by kernel_rfl) (fun _ _ h => h) ?_
    have hS : Below W3.heap.size W3 W3.drew := below_drew (Below.refl _ _)
    refine wpAnyH_take (i := 0) (v := ?hv1) rfl (by kernel_rfl) (by kernel_rfl) (by kernel_rfl) (fun _ _ _ h => h) (Or.inl ⟨by rfl, ?hy1⟩) (by assumption) ?rest1
    case hy1 => (intro w' hS'; obtain ⟨e0, e1⟩ := (hD3.out.step hS').c0; go_simp; with_reducible rfl)
    refine wpAnyH_take (i := 1) (v := ?hv2) rfl (by kernel_rfl) (by kernel_rfl) (by kernel_rfl) (fun _ _ _ h => h) (Or.inl ⟨by rfl, ?hy2⟩) (by assumption) ?rest2
    case hy2 => (intro w' hS'; obtain ⟨e0, e1⟩ := (hV3.out.step hS').c0; go_simp; with_reducible rfl)
    refine wpAnyH_take (i := 2) (v := ?hv3) rfl (by kernel_rfl) (by kernel_rfl) (by kernel_rfl) (fun _ _ _ h => h) (Or.inl ⟨by rfl, ?hy3⟩) (by assumption) ?rest3
    case hy3 => (intro w' hS'; go_simp; with_reducible rfl)
    refine wpAnyH_take (i := 3) (v := ?hv4) rfl (by kernel_rfl) (by kernel_rfl) (by kernel_rfl) (fun _ _ _ h => h) (Or.inl ⟨by rfl, ?hy4⟩) (by assumption) ?rest4
    case hy4 => (intro w' hS'; go_simp; with_reducible rfl)
    refine wpAnyH_all (rs := [4]) (by kernel_rfl) (by simp) ?_
    intro j hj
    obtain rfl := List.mem_singleton.1 hj
    refine wpOp_step rfl (fun K' hK' => ?_)
    go_simp
    refine (supercargoref16_Delay.calls kr s A c l call days s m _ (hV3.out.step hS).row hV3.out.cap hkr.out).mono ?_
    rintro e w5 ⟨v9, rfl, hR9, hb5⟩
    obtain ⟨A9, c9, rfl, hc9, hC9⟩ := Kd.R_reads hR9
    have hS5 : Below W3.heap.size W3 w5 := below_step hS hb5
    simp only []
    refine hK' _ _ ⟨hS5, ?_⟩
    clear hK' K' hS
    refine wpAnyH_all (rs := [5]) (by kernel_rfl) (by simp) ?_
    intro j hj
    obtain rfl := List.mem_singleton.1 hj
    refine wpOp_step rfl (fun K' hK' => ?_)
    go_simp
    refine (supercargoref16_Same.calls ks s A8 c8 m s A9 c9 m true _ (hD3.out.step hS5).row hD3.out.cap hC9 hc9 hks.out).mono ?_
    rintro e w6 ⟨rfl, hb6⟩
    have hS6 : Below W3.heap.size W3 w6 := below_step hS5 hb6
    simp only []
    refine hK' _ _ ⟨hS6, ?_⟩
    clear hK' K' hS5
    refine wpAnyH_take (i := 6) (v := ?hv5) rfl (by kernel_rfl) (by kernel_rfl) (by kernel_rfl) (fun _ _ _ h => h) (Or.inl ⟨by rfl, ?hy5⟩) (by assumption) ?rest5
    case hy5 => (intro w' hS'; go_simp; with_reducible rfl)
    refine wpAnyH_take (i := 7) (v := ?hv6) rfl (by kernel_rfl) (by kernel_rfl) (by kernel_rfl) (fun _ _ _ h => h) (Or.inl ⟨by rfl, ?hy6⟩) (by assumption) ?rest6
    case hy6 => (intro w' hS'; obtain ⟨e0, e1⟩ := (hO3.out.step hS').c0; go_simp; with_reducible rfl)
    refine wpAnyH_take (i := 8) (v := ?hv7) rfl (by kernel_rfl) (by kernel_rfl) (by kernel_rfl) (fun _ _ _ h => h) (Or.inl ⟨by rfl, ?hy7⟩) (by assumption) ?rest7
    case hy7 => (intro w' hS'; obtain ⟨e0, e1⟩ := (hV3.out.step hS').c0; go_simp; with_reducible rfl)
    refine wpAnyH_all (rs := [9]) (by kernel_rfl) (by simp) ?_
    intro j hj
    obtain rfl := List.mem_singleton.1 hj
    refine wpOp_step rfl (fun K' hK' => ?_)
    go_simp
    refine (supercargoref16_Same.calls kt s A7 c7 l s A c l true _ (hO3.out.step hS6).row hO3.out.cap (hV3.out.step hS6).row hV3.out.cap hkt.out).mono ?_
    rintro e w7 ⟨rfl, hb7⟩
    have hS7 : Below W3.heap.size W3 w7 := below_step hS6 hb7
    simp only []
    refine hK' _ _ ⟨hS7, ?_⟩
    clear hK' K' hS6
    refine wpAnyH_take (i := 10) (v := ?hv8) rfl (by kernel_rfl) (by kernel_rfl) (by kernel_rfl) (fun _ _ _ h => h) (Or.inl ⟨by rfl, ?hy8⟩) (by assumption) ?rest8
    case hy8 => (intro w' hS'; go_simp; with_reducible rfl)
    refine wpAnyH_take (i := 11) (v := ?hv9) rfl (by kernel_rfl) (by kernel_rfl) (by kernel_rfl) (fun _ _ _ h => h) (Or.inl ⟨by rfl, ?hy9⟩) (by assumption) ?rest9
    case hy9 => (intro w' hS'; go_simp; with_reducible rfl)
    refine wpAnyH_done (by kernel_rfl) ?_ _
    simp only [onlyK, Exit.then]
    exact ⟨_, _, _, _, _, _, _, _, _, _, _, below_step hB3.out hS7, rfl⟩
  case c4 =>
  rintro a' W4 ⟨v27, v28, v29, v30, v31, v32, v33, v34, v35, v36, v37, hB4, rfl⟩
  go_wp2
  exact bodyPost_ret (results_tmp rfl _ _ _) rfl ⟨rfl, hB4⟩
end Go.Proofs.YtbojieeildhlcaaDoor.Port
