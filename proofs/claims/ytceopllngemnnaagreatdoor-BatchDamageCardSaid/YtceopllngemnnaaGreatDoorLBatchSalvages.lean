/-
  The law BatchSalvages: in a world that holds what the library reads, the call returns true and leaves what was there. For every text.
-/
import Derived.Test.YtceopllngemnnaaGreatDoorH4
import Derived.Test.YtceopllngemnnaaGreatDoorME
set_option linter.unusedVariables false
set_option linter.unusedSimpArgs false
namespace Go.Proofs.YtceopllngemnnaaGreatDoor
open Go.RowKit Go.Proofs.YtceopllngemnnaaGreatDoorW.PrintWords Go.Proofs.YtceopllngemnnaaGreatDoorW.PrintLast Go.Proofs.YtceopllngemnnaaGreatDoorW.PrintMore Go.Proofs.YtceopllngemnnaaGreatDoor.PRef
attribute [local go_sem] max2_int min2_int max_two min_two

theorem salv_len (s : ByteArray) : ∀ (f k : Nat) (acc : List It), k ≤ s.size → acc.length ≤ k → (salvG s f k acc).length ≤ s.size
  | 0, k, acc, h1, h2 => by rw [salvG]; omega
  | f + 1, k, acc, h1, h2 => by
    cases hr : readF s k with
    | inl q =>
      obtain ⟨x, nx⟩ := q
      obtain ⟨h3, h4, _⟩ := readV_le hr
      rw [salv_ok hr]
      exact salv_len s f nx _ h3 (by simp; omega)
    | inr q =>
      obtain ⟨b, e⟩ := q
      cases hj : nl s k with
      | none => rw [salv_end hr hj]; omega
      | some j =>
        have h3 := nl_le s k j hj
        rw [salv_skip hr hj]
        exact salv_len s f (j + 1) _ (by omega) (by omega)
theorem salvF_len (s : ByteArray) : (salvF s).length ≤ s.size := salv_len s _ 0 [] (Nat.zero_le _) (Nat.le_refl _)

end Go.Proofs.YtceopllngemnnaaGreatDoor

