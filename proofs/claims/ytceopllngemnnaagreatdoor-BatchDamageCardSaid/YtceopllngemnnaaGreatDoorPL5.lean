/-
  The division of a list of items into batches: plain lemmas. For every list and every limit.
-/
import Derived.Test.YtceopllngemnnaaGreatDoorMD
set_option linter.unusedVariables false
set_option linter.unusedSimpArgs false
namespace Go.Proofs.YtceopllngemnnaaGreatDoor

/-- Every item fits alone. -/
def allFit (l : List It) (most : Int) : Prop := ∀ x ∈ l, x.2.size ≤ 65536 ∧ ((totalN [x] : Nat) : Int) ≤ most
instance (l : List It) (most : Int) : Decidable (allFit l most) := inferInstanceAs (Decidable (∀ x ∈ l, _))

theorem mid_snoc {l : List It} {i fr : Nat} {x : It} (hx : l[i]? = some x) (hf : fr ≤ i) : (l.take (i + 1)).drop fr = (l.take i).drop fr ++ [x] := by
  have hl : i < l.length := (List.getElem?_eq_some_iff.1 hx).1
  rw [List.take_add_one, hx]
  rw [List.drop_append_of_le_length (by rw [List.length_take]; omega)]
  rfl
end Go.Proofs.YtceopllngemnnaaGreatDoor

