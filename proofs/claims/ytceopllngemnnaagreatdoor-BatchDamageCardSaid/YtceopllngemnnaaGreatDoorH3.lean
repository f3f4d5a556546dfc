/-
  Unpack of the document's answer for batches: what it returns. For texts of up to a million bytes.
-/
import Derived.Test.YtceopllngemnnaaGreatDoorH2
set_option linter.unusedVariables false
set_option linter.unusedSimpArgs false
namespace Go.Proofs.YtceopllngemnnaaGreatDoor
open Go.RowKit Go.Proofs.YtceopllngemnnaaGreatDoorW.PrintWords Go.Proofs.YtceopllngemnnaaGreatDoorW.PrintLast Go.Proofs.YtceopllngemnnaaGreatDoorW.PrintMore Go.Proofs.YtceopllngemnnaaGreatDoor.PRef
attribute [local go_sem] max2_int min2_int max_two min_two

/-- What read returns. -/
def readV (s : ByteArray) (k : Nat) : It × Nat × Nat × Int := match readF s k with
  | .inl (x, nx) => (x, nx, 0, 0)
  | .inr (b, e) => (zIt, 0, b, e)
theorem rread_any (s : ByteArray) (k : Nat) (W : World) (hs : s.size ≤ 1000000) (hk : k ≤ s.size) :
    Calls Tryz.prog 48 #[.string s, .int .i64 k] W fun r w' => r = .returned (.tuple #[.agg (itV (readV s k).1), .int .i64 (readV s k).2.1, .int .i64 (readV s k).2.2.1, .int .i64 (readV s k).2.2.2]) ∧ Below W.heap.size W w' := by
  unfold readV
  cases hj : nl s k with
  | none => rw [readF_nl hj]; exact rread_none k s W hs hk hj
  | some j =>
    cases hf : headF (s.extract k j) with
    | none => rw [readF_hd hj hf]; exact rread_head k j s W hs hk hj hf
    | some p =>
      obtain ⟨id, n, c⟩ := p
      rw [readF_of hj hf]
      by_cases hl : s.size < j + 1 + n + 1
      · rw [if_pos hl]; exact rread_short k j n id c s W hs hk hj hf hl
      · rw [if_neg hl]
        by_cases h10 : bt s ((j + 1 + n : Nat) : Int) = 10
        · rw [if_neg (by simpa using h10)]
          by_cases hd : digS (id, s.extract (j + 1) (j + 1 + n)) = c
          · rw [if_neg (by simpa using hd)]; exact rread_ok k j n id c s W hs hk hj hf hl h10 hd
          · rw [if_pos hd]; exact rread_sum k j n id c s W hs hk hj hf hl h10 hd
        · rw [if_pos h10]; exact rread_feed k j n id c s W hs hk hj hf hl h10
theorem readV_le {s : ByteArray} {k nx : Nat} {x : It} (h : readF s k = .inl (x, nx)) : nx ≤ s.size ∧ k < nx ∧ okId x.1 := by
  obtain ⟨ho, rest, h1, h2⟩ := readF_inv h
  have h3 := drop_split h1 (by obtain ⟨r, hr⟩ := Fmt.item_head (F := FM) (toT x); rw [hr]; simp)
  have h4 : 0 < (FM.item (toT x)).length := by obtain ⟨r, hr⟩ := Fmt.item_head (F := FM) (toT x); rw [hr]; simp
  exact ⟨by omega, by omega, ho.1⟩
theorem readV_bad {s : ByteArray} {k b : Nat} {e : Int} (h : readF s k = .inr (b, e)) : e ≠ 0 := by
  unfold readF at h
  split at h
  · injection h with h; injection h with _ h; omega
  · split at h
    · injection h with h; injection h with _ h; omega
    · split at h
      · injection h with h; injection h with _ h; omega
      · split at h
        · injection h with h; injection h with _ h; omega
        · split at h
          · injection h with h; injection h with _ h; omega
          · cases h
end Go.Proofs.YtceopllngemnnaaGreatDoor

