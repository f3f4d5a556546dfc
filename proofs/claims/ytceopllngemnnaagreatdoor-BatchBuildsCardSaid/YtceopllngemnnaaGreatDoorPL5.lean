/-
  The division of a list of items into batches: plain lemmas. For every list and every limit.
-/
import Derived.Test.YtceopllngemnnaaGreatDoorMD
namespace Go.Proofs.YtceopllngemnnaaGreatDoor

/-- The batches from place i on, where the present one begins at place fr. -/
def grF (l : List It) (most : Int) : Nat → Nat → Nat → List (List It)
  | 0, _, _ => []
  | f + 1, i, fr => if i ≤ l.length then (if i = l.length ∨ most < ((totalN ((l.take (i + 1)).drop fr) : Nat) : Int) then (l.take i).drop fr :: grF l most f (i + 1) i else grF l most f (i + 1) fr) else []
/-- The reference's batches. -/
def splitF (l : List It) (most : Int) : List (List It) := grF l most l.length 1 0
/-- Every item fits alone. -/
def allFit (l : List It) (most : Int) : Prop := ∀ x ∈ l, x.2.size ≤ 65536 ∧ ((totalN [x] : Nat) : Int) ≤ most
instance (l : List It) (most : Int) : Decidable (allFit l most) := inferInstanceAs (Decidable (∀ x ∈ l, _))

theorem gr_past (l : List It) (most : Int) (f i fr : Nat) (h : l.length < i) : grF l most f i fr = [] := by
  cases f with
  | zero => rfl
  | succ f => unfold grF; rw [if_neg (by omega)]
theorem gr_end (l : List It) (most : Int) (f fr : Nat) : grF l most (f + 1) l.length fr = [l.drop fr] := by
  rw [grF, if_pos (Nat.le_refl _), if_pos (Or.inl rfl), gr_past _ _ _ _ _ (by omega), List.take_of_length_le (Nat.le_refl _)]
theorem gr_cut (l : List It) (most : Int) (f i fr : Nat) (hi : i < l.length) (h : most < ((totalN ((l.take (i + 1)).drop fr) : Nat) : Int)) : grF l most (f + 1) i fr = (l.take i).drop fr :: grF l most f (i + 1) i := by
  rw [grF, if_pos (by omega), if_pos (Or.inr h)]
theorem gr_go (l : List It) (most : Int) (f i fr : Nat) (hi : i < l.length) (h : ¬ most < ((totalN ((l.take (i + 1)).drop fr) : Nat) : Int)) : grF l most (f + 1) i fr = grF l most f (i + 1) fr := by
  rw [grF, if_pos (by omega), if_neg (by rintro (h1 | h1); omega; exact h h1)]
theorem split_nil (most : Int) : splitF [] most = [] := rfl
theorem mid_snoc {l : List It} {i fr : Nat} {x : It} (hx : l[i]? = some x) (hf : fr ≤ i) : (l.take (i + 1)).drop fr = (l.take i).drop fr ++ [x] := by
  have hl : i < l.length := (List.getElem?_eq_some_iff.1 hx).1
  rw [List.take_add_one, hx]
  rw [List.drop_append_of_le_length (by rw [List.length_take]; omega)]
  rfl
theorem mid_one {l : List It} {i : Nat} {x : It} (hx : l[i]? = some x) : (l.take (i + 1)).drop i = [x] := by
  have hl : i < l.length := (List.getElem?_eq_some_iff.1 hx).1
  rw [mid_snoc hx (Nat.le_refl _), List.drop_of_length_le (by rw [List.length_take]; omega)]
  rfl
theorem sumN_snoc (l : List It) (x : It) : sumN (l ++ [x]) = sumN l + sizeN x := by simp [sumN]
theorem total_snoc (l : List It) (x : It) : totalN (l ++ [x]) = frameN (l.length + 1) + sumN l + sizeN x := by
  unfold totalN
  rw [sumN_snoc, List.length_append, List.length_singleton]; omega
end Go.Proofs.YtceopllngemnnaaGreatDoor

