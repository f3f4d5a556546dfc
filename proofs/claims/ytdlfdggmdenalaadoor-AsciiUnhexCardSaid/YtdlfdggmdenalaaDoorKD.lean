/-
  The order of lists of bytes, and Lower: plain lemmas.
-/
import Derived.Test.YtdlfdggmdenalaaDoorKC
namespace Go.Proofs.YtdlfdggmdenalaaDoor
open Go.RowKit Go.Proofs.YtdlfdggmdenalaaDoorW.PrintWords Go.Proofs.YtdlfdggmdenalaaDoorW.PrintMore

theorem cmpL_range : ∀ x y : List UInt8, -1 ≤ Lib.compareBytes x y ∧ Lib.compareBytes x y ≤ 1
  | [], [] => by simp [Lib.compareBytes]
  | [], _ :: _ => by simp [Lib.compareBytes]
  | _ :: _, [] => by simp [Lib.compareBytes]
  | a :: x, b :: y => by
    have ih := cmpL_range x y
    unfold Lib.compareBytes
    split
    · simp
    · split
      · simp
      · exact ih

theorem cmpL_anti : ∀ x y : List UInt8, Lib.compareBytes y x = -Lib.compareBytes x y
  | [], [] => rfl
  | [], _ :: _ => rfl
  | _ :: _, [] => rfl
  | a :: x, b :: y => by
    have ih := cmpL_anti x y
    unfold Lib.compareBytes
    by_cases h1 : a < b
    · have h2 : ¬ b < a := fun h => UInt8.lt_asymm h1 h
      rw [if_pos h1, if_neg h2, if_pos h1]; rfl
    · by_cases h2 : b < a
      · simp [h1, h2]
      · simp [h1, h2, ih]

theorem cmpL_trans : ∀ x y z : List UInt8, Lib.compareBytes x y ≤ 0 → Lib.compareBytes y z ≤ 0 → Lib.compareBytes x z ≤ 0
  | [], [], _, _, h => h
  | [], _ :: _, [], _, _ => by simp [Lib.compareBytes]
  | [], _ :: _, _ :: _, _, _ => by simp [Lib.compareBytes]
  | _ :: _, [], _, h, _ => by simp [Lib.compareBytes] at h
  | _ :: _, _ :: _, [], _, h => by simp [Lib.compareBytes] at h
  | a :: x, b :: y, c :: z, h1, h2 => by
    have ih := cmpL_trans x y z
    unfold Lib.compareBytes at h1 h2 ⊢
    by_cases hab : a < b
    · by_cases hbc : b < c
      · rw [if_pos (UInt8.lt_trans hab hbc)]; omega
      · rw [if_neg hbc] at h2
        by_cases hcb : c < b
        · rw [if_pos hcb] at h2; omega
        · have : b = c := UInt8.le_antisymm (UInt8.not_lt.mp hcb) (UInt8.not_lt.mp hbc)
          subst this
          rw [if_pos hab]; omega
    · rw [if_neg hab] at h1
      by_cases hba : b < a
      · rw [if_pos hba] at h1; omega
      · have : a = b := UInt8.le_antisymm (UInt8.not_lt.mp hba) (UInt8.not_lt.mp hab)
        subst this
        rw [if_neg hba] at h1
        by_cases hbc : a < c
        · rw [if_pos hbc]; omega
        · rw [if_neg hbc] at h2 ⊢
          by_cases hcb : c < a
          · rw [if_pos hcb] at h2; omega
          · rw [if_neg hcb] at h2 ⊢
            exact ih h1 h2

theorem cmpF_range (a b : ByteArray) : -1 ≤ cmpF a b ∧ cmpF a b ≤ 1 := cmpL_range _ _
theorem cmpF_anti (a b : ByteArray) : cmpF b a = -cmpF a b := cmpL_anti _ _
theorem cmpF_trans (a b c : ByteArray) (h1 : cmpF a b ≤ 0) (h2 : cmpF b c ≤ 0) : cmpF a c ≤ 0 := cmpL_trans _ _ _ h1 h2

theorem cmpL_eq : ∀ x y : List UInt8, (Lib.compareBytes x y == 0) = (x == y)
  | [], [] => rfl
  | [], _ :: _ => rfl
  | _ :: _, [] => rfl
  | a :: x, b :: y => by
    have ih := cmpL_eq x y
    unfold Lib.compareBytes
    by_cases h1 : a < b
    · have : (a == b) = false := by simpa using UInt8.ne_of_lt h1
      simp [h1, this]
    · by_cases h2 : b < a
      · have : (a == b) = false := by simpa using (UInt8.ne_of_lt h2).symm
        simp [h1, h2, this]
      · have : a = b := UInt8.le_antisymm (UInt8.not_lt.mp h2) (UInt8.not_lt.mp h1)
        subst this
        rw [if_neg h1, if_neg h2, ih]
        simp

theorem cmpL_self (x : List UInt8) : Lib.compareBytes x x = 0 := by
  have := cmpL_eq x x
  simpa using this

end Go.Proofs.YtdlfdggmdenalaaDoor
