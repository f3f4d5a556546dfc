/-
  The plain law behind BatchTampering: a batch's text that is turned at one byte and still read without an error holds, at one place, an item that differs from the batch's and has the same digest.
-/
import Derived.Test.YtceopllngemnnaaGreatDoorF0
set_option linter.unusedVariables false
set_option linter.unusedSimpArgs false
namespace Go.Proofs.YtceopllngemnnaaGreatDoor
open Go.RowKit Go.Proofs.YtceopllngemnnaaGreatDoorW.PrintWords Go.Proofs.YtceopllngemnnaaGreatDoorW.PrintLast Go.Proofs.YtceopllngemnnaaGreatDoorW.PrintMore Go.Proofs.YtceopllngemnnaaGreatDoor.PRef

/-! ### plain: a byte turned -/
def turn (s : ByteArray) (k : Nat) (v : Int) : ByteArray := strOfNums ((bytesOf s).set k v)
theorem turn_size (s : ByteArray) (k : Nat) (v : Int) : (turn s k v).size = s.size := by
  unfold turn; rw [strOfNums_size, List.length_set, bytesOf_length]

theorem xor_ne {a b : Nat} (hb : b ≠ 0) : a ^^^ b ≠ a := by
  intro h
  apply hb
  have h2 : a ^^^ (a ^^^ b) = a ^^^ a := by rw [h]
  rwa [← Nat.xor_assoc, Nat.xor_self, Nat.zero_xor] at h2
theorem xor_u8 (a b : Int) (ha : 0 ≤ a) (ha2 : a < 256) (hb : 0 < b) (hb2 : b < 256) : bits .xor .u8 a b ≠ a ∧ 0 ≤ bits .xor .u8 a b ∧ bits .xor .u8 a b < 256 := by
  obtain ⟨a', rfl⟩ := Int.eq_ofNat_of_zero_le ha
  obtain ⟨b', rfl⟩ := Int.eq_ofNat_of_zero_le (Int.le_of_lt hb)
  have hx : a' ^^^ b' < 2 ^ 8 := Nat.xor_lt_two_pow (by omega) (by omega)
  have h : bits .xor .u8 (a' : Int) (b' : Int) = ((a' ^^^ b' : Nat) : Int) := by
    have e : ((BitVec.ofInt 8 (a' : Int)) ^^^ (BitVec.ofInt 8 (b' : Int))).toNat = a' ^^^ b' := by
      rw [BitVec.toNat_xor, BitVec.toNat_ofInt, BitVec.toNat_ofInt]
      have e1 : ((a' : Int) % ((2 ^ 8 : Nat) : Int)).toNat = a' := by omega
      have e2 : ((b' : Int) % ((2 ^ 8 : Nat) : Int)).toNat = b' := by omega
      rw [e1, e2]
    show IntKind.u8.wrap (((BitVec.ofInt 8 (a' : Int)) ^^^ (BitVec.ofInt 8 (b' : Int))).toNat : Int) = _
    rw [e]
    have : IntKind.u8.wrap ((a' ^^^ b' : Nat) : Int) = ((a' ^^^ b' : Nat) : Int) % 256 := by simp [IntKind.wrap, IntKind.signed, IntKind.bits]
    rw [this]
    omega
  rw [h]
  have := xor_ne (a := a') (b := b') (by omega)
  omega
theorem near_set (l : List UInt8) (k : Nat) (hk : k < l.length) (b : UInt8) (hb : b ≠ l[k]) : Fmt.Near l (l.set k b) := by
  refine ⟨l.take k, l[k], b, l.drop (k + 1), ?_, ?_, Ne.symm hb⟩
  · rw [← List.drop_eq_getElem_cons hk, List.take_append_drop]
  · rw [List.set_eq_take_append_cons_drop, if_pos hk]
theorem turn_data (s : ByteArray) (k : Nat) (v : Int) : (turn s k v).data.toList = s.data.toList.set k (UInt8.ofNat v.toNat) := by
  unfold turn
  rw [strOfNums_data]
  unfold bytesOf
  rw [List.map_set, List.map_map]
  congr 1
  apply List.ext_getElem
  · simp
  · intro i h1 h2; simp
end Go.Proofs.YtceopllngemnnaaGreatDoor

