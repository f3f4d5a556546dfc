/-
  The words of a line, byte by byte: plain lemmas. For every list of bytes.
-/
import Derived.Test.YtceopllngemnnaaGreatDoorMC
set_option linter.unusedVariables false
set_option linter.unusedSimpArgs false
namespace Go.Proofs.YtceopllngemnnaaGreatDoor
open Go.RowKit Go.Proofs.YtceopllngemnnaaGreatDoorW.PrintWords

def wl : List UInt8 → List (List UInt8)
  | [] => [[]]
  | c :: l => if c = 32 then [] :: wl l else match wl l with
    | [] => [[c]]
    | a :: r => (c :: a) :: r
theorem wl_ne : ∀ l, wl l ≠ []
  | [] => by simp [wl]
  | c :: l => by
    unfold wl
    split
    · simp
    · split <;> simp
theorem wl_one : ∀ a : List UInt8, 32 ∉ a → wl a = [a]
  | [], _ => rfl
  | c :: a, h => by
    have h1 : c ≠ 32 := fun e => h (by rw [e]; exact List.mem_cons_self)
    rw [wl, if_neg h1, wl_one a (fun e => h (List.mem_cons_of_mem _ e))]
theorem wl_cons : ∀ a r : List UInt8, 32 ∉ a → wl (a ++ 32 :: r) = a :: wl r
  | [], r, _ => by rw [List.nil_append, wl, if_pos rfl]
  | c :: a, r, h => by
    have h1 : c ≠ 32 := fun e => h (by rw [e]; exact List.mem_cons_self)
    rw [List.cons_append, wl, if_neg h1, wl_cons a r (fun e => h (List.mem_cons_of_mem _ e))]
theorem wordsF_wl : ∀ (n : Nat) (s : ByteArray), s.size ≤ n → wordsF s = (wl s.data.toList).map mkB := by
  intro n
  induction n with
  | zero =>
    intro s hs
    have h : s.data.toList = [] := List.eq_nil_of_length_eq_zero (by rw [data_length]; omega)
    rw [words_one s (by rw [h]; simp), h]
    show [s] = [mkB []]
    rw [← h, mkB_data]
  | succ n ih =>
    intro s hs
    rcases find_sep 32 s.data.toList with h | ⟨a, r, h, ha⟩
    · rw [words_one s h, wl_one _ h]
      show [s] = [mkB _]
      rw [mkB_data]
    · rw [words_cons s a r h ha, h, wl_cons a r ha, List.map_cons]
      have hl := congrArg List.length h
      rw [data_length] at hl
      simp at hl
      have hr : (mkB r).data.toList = r := by simp [mkB]
      rw [ih (mkB r) (by rw [← data_length, hr]; omega), hr]
theorem wl_sep : ∀ l : List UInt8, wl (l ++ [32]) = wl l ++ [[]]
  | [] => by simp [wl]
  | c :: l => by
    rw [List.cons_append, wl, wl, wl_sep l]
    by_cases h : c = 32
    · rw [if_pos h, if_pos h]; rfl
    · rw [if_neg h, if_neg h]
      cases hw : wl l with
      | nil => exact absurd hw (wl_ne l)
      | cons a r => rfl
theorem wl_snoc (c : UInt8) (hc : c ≠ 32) : ∀ (l : List UInt8) (p : List (List UInt8)) (z : List UInt8), wl l = p ++ [z] → wl (l ++ [c]) = p ++ [z ++ [c]]
  | [], p, z, h => by
    have h' : [[]] = p ++ [z] := h
    cases p with
    | nil =>
      simp at h'
      subst h'
      rw [List.nil_append, wl, if_neg hc]; rfl
    | cons y p => simp at h'
  | d :: l, p, z, h => by
    rw [wl] at h
    rw [List.cons_append, wl]
    by_cases hd : d = 32
    · rw [if_pos hd] at h ⊢
      cases p with
      | nil =>
        simp at h
        exact absurd h.2 (wl_ne l)
      | cons y p =>
        simp only [List.cons_append, List.cons.injEq] at h
        rw [wl_snoc c hc l p z h.2, ← h.1]; rfl
    · rw [if_neg hd] at h ⊢
      cases hw : wl l with
      | nil => exact absurd hw (wl_ne l)
      | cons a r =>
        rw [hw] at h
        cases p with
        | nil =>
          simp at h
          rw [wl_snoc c hc l [] a (by rw [hw, h.2]; rfl), ← h.1]; rfl
        | cons y p =>
          simp only [List.cons_append, List.cons.injEq] at h
          rw [wl_snoc c hc l (a :: p) z (by rw [hw, h.2]; rfl), ← h.1]; rfl
end Go.Proofs.YtceopllngemnnaaGreatDoor

