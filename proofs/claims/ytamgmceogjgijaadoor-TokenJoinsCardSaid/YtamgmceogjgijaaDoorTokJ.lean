/- Tokens joined: the text, and what is scanned from it. -/
import Derived.Test.YtamgmceogjgijaaDoorTokK0
import Derived.Test.YtamgmceogjgijaaDoorH30
import Derived.Test.YtamgmceogjgijaaDoorH18
namespace Go.Proofs.YtamgmceogjgijaaDoor.Tok
open Go.RowKit Go.Proofs.YtamgmceogjgijaaDoorW.PrintWords Go.Proofs.YtamgmceogjgijaaDoorW.PrintLast Go.Proofs.YtamgmceogjgijaaDoorW.PrintMore Go.Proofs.YtamgmceogjgijaaDoor.G Go.Proofs.YtamgmceogjgijaaDoor.Ext
set_option linter.unusedVariables false
set_option linter.unusedSimpArgs false

def sp : ByteArray := ⟨#[32]⟩
def J (l : List S31) : ByteArray := ⟨(joinS (l.map showS) sp).toArray⟩
theorem J_nil : J [] = ⟨#[]⟩ := rfl
theorem J_one (x : S31) : J [x] = showS x := by
  apply ba_list
  show (joinS [showS x] sp).toArray.toList = _
  rw [List.toList_toArray]
  unfold joinS
  exact Lib.join_one _ _
theorem J_cons (x y : S31) (r : List S31) : J (x :: y :: r) = (showS x ++ sp) ++ J (y :: r) := by
  apply ba_list
  rw [ByteArray.data_append, ByteArray.data_append, Array.toList_append, Array.toList_append]
  show (joinS (showS x :: showS y :: r.map showS) sp).toArray.toList = _ ++ (joinS (showS y :: r.map showS) sp).toArray.toList
  rw [List.toList_toArray, List.toList_toArray]
  unfold joinS
  simp only [List.map_cons]
  rw [Lib.join_cons, Lib.join_cons]
  unfold Lib.joinTail
  simp only [List.map_cons, List.flatten_cons, List.append_assoc]
theorem J_size : ∀ l : List S31, (J l).size ≤ (l.map fun x => (showS x).size).sum + l.length
  | [] => Nat.zero_le _
  | [x] => by rw [J_one]; simp
  | x :: y :: r => by
    have ih := J_size (y :: r)
    have e1 : sp.size = 1 := rfl
    rw [J_cons, ap_size, ap_size, e1]
    simp only [List.map_cons, List.sum_cons, List.length_cons] at ih ⊢
    omega
theorem bksp : Bk sp := bk32
/-- What is scanned from joined tokens is alike. -/
theorem run_J : ∀ l : List S31, (∀ x, x ∈ l → Good x) → (l.map fun x => (showS x).size).sum + l.length ≤ 1000000 → ∃ m, Run (J l) 0 m (J l).size 0 ∧ m.map key = l.map key
  | [], _, _ => ⟨[], .done (by decide), rfl⟩
  | [x], h, _ => ⟨[⟨x.f0, 0, x.f2⟩], by rw [J_one]; exact (h x (List.mem_cons_self ..)).1, rfl⟩
  | x :: y :: r, h, hz => by
    simp only [List.map_cons, List.sum_cons, List.length_cons] at hz
    obtain ⟨m, hm, hk⟩ := run_J (y :: r) (fun z hz => h z (List.mem_cons_of_mem _ hz)) (by simp only [List.map_cons, List.sum_cons, List.length_cons]; omega)
    have hs := J_size (y :: r)
    simp only [List.map_cons, List.sum_cons, List.length_cons] at hs
    have e1 : sp.size = 1 := rfl
    have hj := run_join (g := sp) (by decide) bksp (by omega) (by omega) (h x (List.mem_cons_self ..)).1 hm
    rw [← J_cons] at hj
    have he := run_end hj
    rw [he] at hj
    refine ⟨_, hj, ?_⟩
    rw [List.map_append, shift_key, hk]
    rfl
theorem show_ev (x : S31) (h : (showS x).size ≤ 1000000) : token_show.f x.f0 x.f1 x.f2 = some (showS x) := by
  unfold token_show.f
  unfold showS at h ⊢
  by_cases c : x.f0 = 3
  · rw [if_pos c, quoted_size] at h
    rw [if_pos c, if_pos c, if_pos (by omega), if_pos]
    have e1 : (⟨#[34]⟩ : ByteArray).size = 1 := rfl
    rw [ap_size, e1]
    omega
  · rw [if_neg c, if_neg c]
theorem le_sum : ∀ (l : List Nat) (n : Nat), n ∈ l → n ≤ l.sum
  | [], _, h => by cases h
  | a :: r, n, h => by
    simp only [List.sum_cons]
    rcases List.mem_cons.1 h with h | h
    · omega
    · have := le_sum r n h; omega
theorem join_ev (l : List S31) (hg : ∀ x, x ∈ l → Good x) (hz : (l.map fun x => (showS x).size).sum + l.length ≤ 1000000) (hl : l.length ≤ 4096) : Ev (fun k => token_Join.f k l) (J l) := by
  have hx1 : ∀ x, x ∈ l → (showS x).size ≤ 1000000 := by
    intro x hx
    have : (showS x).size ≤ (l.map fun x => (showS x).size).sum := le_sum _ _ (List.mem_map.2 ⟨x, hx, rfl⟩)
    omega
  unfold token_Join.f
  refine ev_neg (by omega) ?_
  suffices h : ∀ d i : Nat, i + d = l.length → Ev (fun k => token_Join.l0 k ((l.take i).map showS) l (l.length : Int) (i : Nat)) (J l) from h l.length 0 (by omega)
  intro d
  induction d with
  | zero =>
    intro i hi
    refine succ ?_
    simp only [token_Join.l0]
    rw [List.take_of_length_le (by omega)]
    have hJ := J_size l
    have e : (J l).size = (joinS (l.map showS) sp).length := by
      show (joinS (l.map showS) sp).toArray.size = _
      exact List.size_toArray ..
    have hv : strings_Join.f (l.map showS) (⟨#[32]⟩ : ByteArray) = some (J l) := by
      unfold strings_Join.f
      rw [if_pos ⟨by rw [List.length_map]; omega, by show (joinS (l.map showS) sp).length ≤ _; omega⟩]
      rfl
    exact ev_neg (by omega) (ev_some hv (Ev.now _))
  | succ d ih =>
    intro i hi
    have hm : l[i] ∈ l := List.getElem_mem (by omega)
    obtain ⟨hrun, hpos⟩ := hg _ hm
    refine succ ?_
    simp only [token_Join.l0]
    rw [rd_at l i (by omega), wrap_in (x := (i : Int) + 1) (by omega) (by omega)]
    refine ev_pos (by omega) (ev_pos (by omega) (ev_pos (by omega) (ev_some (show_ev l[i] (hx1 _ hm)) (Ev.bind (scan_ev (hx1 _ hm) hrun (by show 1 < 4096; omega)) ?_))))
    simp only [if_true]
    refine ev_pos (by simp) (ev_pos (by simp) (ev_neg (by simp [rd_T31]) (ev_pos (by rw [List.length_map, List.length_take]; omega) ?_)))
    have e : (l.take i).map showS ++ [showS l[i]] = (l.take (i + 1)).map showS := by rw [List.take_succ_eq_append_getElem (by omega), List.map_append]; rfl
    rw [e]
    exact ih (i + 1) (by omega)
end Go.Proofs.YtamgmceogjgijaaDoor.Tok
