/- A region that draws its order, within a round of a range over a function: by its plain walk. -/
import Derived.OrdersIn
import Derived.OrdersHeld
import Derived.RangeFuncCalls
import Derived.Outline
import Derived.TacticsIn
namespace Go.Proofs.YtbojieeildhlcaaDoor.Port
open Go.RowKit
set_option linter.unusedVariables false
variable {P : Program} {ops : Array Oper} {md : Region.Mode}

/-- The rows' contracts, whatever the fence, where it asks nothing. -/
theorem rows_round {n l : Nat} {row : String} {args : Array Value} {w : World} {R : Value → World → Prop} (h : Rows P row args w R) : RowsIn (Fence.wide.inRound l) n P row args w R :=
  fun c cs _ => let ⟨v, w', r, s⟩ := h c cs; ⟨v, w', r, stepsIn_wide.2 s⟩
theorem oper_round {n l : Nat} {o : Oper} {a : Act} {w : World} {K K' : Act → World → Prop} {Q Q' : Exit → Act → World → Prop} (hd : ∀ c, o.op ≠ .defer c) (hK : ∀ a w, K a w → K' a w) (hQ : ∀ c a w, Q (.panic c) a w → Q' (.panic c) a w)
    (hL : LetsOut Q → LetsOut Q') (h : o.wp P a w K Q) : o.wpIn (Fence.wide.inRound l) n P a w K' Q' := by
  unfold Oper.wpIn
  unfold Oper.wp at h
  refine ⟨fun f _ => trivial, ?_⟩
  rw [show (Fence.wide.inRound l).round = some l from rfl, Oper.semAt_some l a.eval o hd]
  generalize (execOp a.eval o).run P w = r at *
  cases r with
  | ok x w' =>
    cases x <;> simp only [Oper.upon, Oper.uponIn] at h ⊢ <;>
      first
        | exact hK _ _ h
        | exact ⟨fun hh => (by cases (show false = true from hh)), CallsIn.inRound l (callsIn_wide.2 (Calls.mono h (fun e w'' he => by cases e <;> first | exact hK _ _ he | exact hQ _ _ _ he | exact hL he)))⟩
        | exact ⟨fun hh => (by cases (show false = true from hh)), rows_round (Rows.mono h (fun _ _ he => hK _ _ he))⟩
        | exact h.elim
  | halt x w' => cases x <;> simp only [Oper.upon, Oper.uponIn] at h ⊢ <;> first | exact hQ _ _ _ h | exact h.elim
/-- An operation whose walk goes on otherwise. -/
theorem oper_swap {o : Oper} {a : Act} {w : World} {K K' : Act → World → Prop} {Q Q' : Exit → Act → World → Prop} (hK : ∀ a w, K a w → K' a w) (hQ : ∀ c a w, Q (.panic c) a w → Q' (.panic c) a w)
    (hL : LetsOut Q → LetsOut Q') (h : o.wp P a w K Q) : o.wp P a w K' Q' := by
  unfold Oper.wp at *
  generalize (execOp a.eval o).run P w = r at *
  cases r with
  | ok x w' =>
    cases x <;> simp only [Oper.upon] at h ⊢ <;>
      first
        | exact hK _ _ h
        | exact Calls.mono h (fun e w'' he => by cases e <;> first | exact hK _ _ he | exact hQ _ _ _ he | exact hL he)
        | exact Rows.mono h (fun _ _ he => hK _ _ he)
        | exact h.elim
  | halt x w' => cases x <;> simp only [Oper.upon] at h ⊢ <;> first | exact hQ _ _ _ h | exact h.elim
theorem any_round {n l : Nat} {Q : Exit → Act → World → Prop} (hd : ∀ (i : Nat) (o : Oper) (c : Call), ops[i]? = some o → o.op ≠ .defer c) (hL : ¬ LetsOut Q) : ∀ (fuel : Nat) (listed : Array Bool) (a : Act) (w : World),
    wpAny P md ops Q fuel listed a w → wpAnyIn (Fence.wide.inRound l) n P md ops Q fuel listed a w
  | 0, _, _, _, h => h
  | fuel + 1, listed, a, w, h => ⟨h.1, fun i hi => by
    have h2 := h.2 i hi
    unfold wpOp at h2
    unfold wpOpIn
    cases ho : ops[i]? with
    | none => rw [ho] at h2; exact any_round hd hL fuel _ _ _ h2
    | some o =>
      rw [ho] at h2
      simp only at h2 ⊢
      split
      · rename_i hw
        rw [if_pos hw] at h2
        rcases h2 with h2 | h2
        · exact oper_round (fun c => hd i o c ho) (fun a w k => any_round hd hL fuel _ a w k) (fun _ _ _ k => k) id h2
        · exact absurd h2.2 hL
      · rename_i hw
        rw [if_neg hw] at h2
        exact ⟨fun _ _ => trivial, any_round hd hL fuel _ _ _ h2⟩⟩
def onlyK (K : Act → World → Prop) : Exit → Act → World → Prop := Exit.then K (fun _ _ _ => False)
theorem onlyK_out (K : Act → World → Prop) : ¬ LetsOut (onlyK K) := fun ⟨_, _, h⟩ => h
/-- **A REGION THAT DRAWS ITS ORDER, IN A ROUND, BY THE HELD WALK.** -/
theorem region_round {n l id : Nat} {K : Act → World → Prop} {Q : Exit → Act → World → Prop} {S : World → Prop} {a : Act} {w : World} (hm : P.follows .mixedOrders = true) (hd : ∀ (i : Nat) (o : Oper) (c : Call), ops[i]? = some o → o.op ≠ .defer c)
    (hQ : ∀ a w, K a w → Q .normal a w) (h : wpAnyH P .any ops (onlyK K) S ops.size (Array.replicate ops.size false) a w.drew) : (Code.region id ops true).wpIn (Fence.wide.inRound l) n P Q a w :=
  Code.wpIn_mono (fun e a w hk => by cases e <;> first | exact hQ _ _ hk | exact hk.elim) (wpIn_region_any hm (any_round hd (onlyK_out K) _ _ _ _ (wpAny_of_held _ _ _ _ h)))
/-- One operation, by the rules of a list of operations. -/
def andThenK (K : Act → World → Prop) : Exit → Act → World → Prop := Exit.then K (fun _ _ _ => False)
theorem wpOp_list {i : Nat} {o : Oper} {K : Act → World → Prop} {Q : Exit → Act → World → Prop} {ops' : Array Oper} {a : Act} {w : World} (ho : ops[i]? = some o) (hw : Region.wanted o (yielded ops a.tmps) = true) (hw' : Region.wanted o (yielded ops' a.tmps) = true) (h : wpList P ops' (onlyK K) [o] a w) : wpOp P ops Q i K a w := by
  unfold wpOp
  rw [ho]
  simp only [hw, if_true]
  unfold wpList at h
  simp only [hw', if_true] at h
  rcases h with h | h
  · exact .inl (oper_swap (fun a w k => k) (fun c a w k => k.elim) (fun k => absurd k (onlyK_out K)) h)
  · exact absurd h.2 (onlyK_out K)
end Go.Proofs.YtbojieeildhlcaaDoor.Port
