/-
  The words of a line, in the document's answer: what the call returns. For lines of up to a million bytes.
-/
import Derived.Test.YtceopllngemnnaaGreatDoorBX3
import Derived.Test.YtceopllngemnnaaGreatDoorPL6
set_option linter.unusedVariables false
set_option linter.unusedSimpArgs false
namespace Go.Proofs.YtceopllngemnnaaGreatDoor
open Go.RowKit Go.Proofs.YtceopllngemnnaaGreatDoorW.PrintWords Go.Proofs.YtceopllngemnnaaGreatDoorW.PrintLast Go.Proofs.YtceopllngemnnaaGreatDoorW.PrintMore Go.Proofs.YtceopllngemnnaaGreatDoor.PRef

theorem wl_length : ∀ l : List UInt8, (wl l).length ≤ l.length + 1
  | [] => by simp [wl]
  | c :: l => by
    have ih := wl_length l
    rw [wl]
    split
    · simp; omega
    · split
      · simp
      · next a r h => rw [h] at ih; simp at ih ⊢; omega
theorem mkB_snoc (z : List UInt8) (s : ByteArray) (k : Nat) (h : k < s.size) : mkB z ++ s.extract k (k + 1) = mkB (z ++ [s[k]]) := by
  apply data_inj
  have h1 : (mkB (z ++ [s[k]])).data.toList = z ++ [s[k]] := by simp [mkB]
  have h2 : (mkB z).data.toList = z := by simp [mkB]
  rw [h1, ByteArray.data_append, Array.toList_append, h2, extract_list, drop_at s k h, Nat.add_sub_cancel_left]
  rfl
theorem take_byte (s : ByteArray) (k : Nat) (h : k < s.size) : s.data.toList.take (k + 1) = s.data.toList.take k ++ [s[k]] := by
  rw [List.take_succ_eq_append_getElem (by rw [data_length]; exact h)]; rfl
theorem rdOf_last {α : Type} (d : α) (l : List α) (x : α) : rdOf d (l ++ [x]) (l.length : Int) = x := by
  simp [rdOf]
theorem words_f (s : ByteArray) (hs : s.size ≤ 1000000) : ∀ (d k f : Nat) (l : List ByteArray) (p : List (List UInt8)) (z : List UInt8), s.size - k = d → d < f → k ≤ s.size → wl (s.data.toList.take k) = p ++ [z] → l = p.map mkB ++ [mkB z] → bulletinref35_words.l0 f s l (k : Int) = some (wordsF s) := by
  intro d
  induction d with
  | zero =>
    intro k f l p z h1 h2 h3 h4 h5
    obtain ⟨f, rfl⟩ : ∃ m, f = m + 1 := ⟨f - 1, by omega⟩
    simp only [bulletinref35_words.l0]
    rw [if_neg (by omega), h5, wordsF_wl _ s (Nat.le_refl _)]
    rw [List.take_of_length_le (by rw [data_length]; omega)] at h4
    rw [h4, List.map_append]; rfl
  | succ d ih =>
    intro k f l p z h1 h2 h3 h4 h5
    obtain ⟨f, rfl⟩ : ∃ m, f = m + 1 := ⟨f - 1, by omega⟩
    have hlt : k < s.size := by omega
    have hb : bt s (k : Int) = (s[k].toNat : Int) := (bt_at s (k : Int) hlt).symm
    have hw : wrap64 ((k : Int) + 1) = ((k + 1 : Nat) : Int) := by unfold wrap64; omega
    have hpl : p.length ≤ k := by
      have := wl_length (s.data.toList.take k)
      rw [h4] at this
      simp at this
      omega
    have hll : l.length = p.length + 1 := by rw [h5]; simp
    have hlw : wrap64 ((l.length : Int) - 1) = ((p.map mkB).length : Int) := by rw [hll, List.length_map]; unfold wrap64; omega
    simp only [bulletinref35_words.l0]
    rw [if_pos (by omega), if_pos (by omega), hb]
    by_cases hc : (s[k].toNat : Int) = 32
    · rw [if_pos hc, if_pos (by omega), hw]
      have hc' : s[k] = 32 := UInt8.toNat_inj.mp (by show _ = 32; omega)
      refine ih (k + 1) f _ (p ++ [z]) [] (by omega) (by omega) (by omega) ?_ ?_
      · rw [take_byte s k hlt, hc', wl_sep, h4]
      · rw [h5, List.map_append]; rfl
    · rw [if_neg hc, hlw, hw, if_pos (by omega), if_pos (by rw [hll, List.length_map]; omega), if_pos (by omega), if_pos (by omega)]
      have hc' : s[k] ≠ 32 := fun e => hc (by rw [e]; rfl)
      have hrd : rdOf ByteArray.empty l ((p.map mkB).length : Int) = mkB z := by rw [h5]; exact rdOf_last _ _ _
      have hx : s.extract ((k : Int)).toNat (((k + 1 : Nat) : Int)).toNat = s.extract k (k + 1) := by rw [Int.toNat_natCast, Int.toNat_natCast]
      rw [hrd, hx, mkB_snoc z s k hlt]
      have hz : z.length ≤ k := by
        have : ∀ (m : List UInt8) (p : List (List UInt8)) (z : List UInt8), wl m = p ++ [z] → z.length ≤ m.length := by
          intro m p z h
          have h9 : ∀ (m : List UInt8) (y : List UInt8), y ∈ wl m → y.length ≤ m.length := by
            intro m
            induction m with
            | nil => intro y hy; simp [wl] at hy; simp [hy]
            | cons c m ihm =>
              intro y hy
              rw [wl] at hy
              split at hy
              · rcases List.mem_cons.mp hy with rfl | hy
                · simp
                · have := ihm y hy; simp; omega
              · split at hy
                · simp at hy; simp [hy]
                · next a r hw =>
                  rw [hw] at ihm
                  rcases List.mem_cons.mp hy with rfl | hy
                  · have := ihm a List.mem_cons_self; simp; omega
                  · have := ihm y (List.mem_cons_of_mem _ hy); simp; omega
          exact h9 m z (by rw [h]; simp)
        have h8 := this _ p z h4
        rw [List.length_take] at h8
        omega
      have hsz : (mkB z).size + (s.extract k (k + 1)).size ≤ 9223372036854775807 := by
        have h1 : (mkB z).size = z.length := by rw [← data_length]; simp [mkB]
        have h2 : (s.extract k (k + 1)).size ≤ 1 := by rw [← data_length, extract_list, List.length_take]; omega
        omega
      rw [if_pos hsz]
      refine ih (k + 1) f _ p (z ++ [s[k]]) (by omega) (by omega) (by omega) ?_ ?_
      · rw [take_byte s k hlt, wl_snoc _ hc' _ p z h4]
      · rw [h5, Int.toNat_natCast]
        simp
theorem rwords_any (s : ByteArray) (w : World) (hs : s.size ≤ 1000000) :
    Calls Tryz.prog 46 #[.string s] w fun e w' => ∃ v, e = .returned v ∧ Kd.R Kd.string 9 w' w.heap.size (fun _ => True) v (wordsF s) ∧ Below w.heap.size w w' :=
  bulletinref35_words.calls (s.size + 1) s _ w (words_f s hs _ 0 (s.size + 1) _ [] [] rfl (by omega) (Nat.zero_le _) rfl rfl)
end Go.Proofs.YtceopllngemnnaaGreatDoor

