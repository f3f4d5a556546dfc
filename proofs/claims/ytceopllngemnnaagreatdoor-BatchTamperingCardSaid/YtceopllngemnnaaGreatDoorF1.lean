/-
  The plain law behind BatchTampering: a batch's text that is turned at one byte and still read without an error holds, at one place, an item that differs from the batch's and has the same digest.
-/
import Derived.Test.YtceopllngemnnaaGreatDoorF0
set_option linter.unusedVariables false
set_option linter.unusedSimpArgs false
namespace Go.Proofs.YtceopllngemnnaaGreatDoor
open Go.RowKit Go.Proofs.YtceopllngemnnaaGreatDoorW.PrintWords Go.Proofs.YtceopllngemnnaaGreatDoorW.PrintLast Go.Proofs.YtceopllngemnnaaGreatDoorW.PrintMore Go.Proofs.YtceopllngemnnaaGreatDoor.PRef

/-! ### plain: a byte turned -/
def turn (s : ByteArray) (k : Nat) (v : Int) : ByteArray := strOfNums ((bytesOf s).set k v)
theorem turn_size (s : ByteArray) (k : Nat) (v : Int) : (turn s k v).size = s.size := by
  unfold turn; rw [strOfNums_size, List.length_set, bytesOf_length]

theorem xor_ne {a b : Nat} (hb : b ≠ 0) : a ^^^ b ≠ a := by
  intro h
  apply hb
  have h2 : a ^^^ (a ^^^ b) = a ^^^ a := by rw [h]
  rwa [← Nat.xor_assoc, Nat.xor_self, Nat.zero_xor] at h2
theorem xor_u8 (a b : Int) (ha : 0 ≤ a) (ha2 : a < 256) (hb : 0 < b) (hb2 : b < 256) : bits .xor .u8 a b ≠ a ∧ 0 ≤ bits .xor .u8 a b ∧ bits .xor .u8 a b < 256 := by
  obtain ⟨a', rfl⟩ := Int.eq_ofNat_of_zero_le ha
  obtain ⟨b', rfl⟩ := Int.eq_ofNat_of_zero_le (Int.le_of_lt hb)
  have hx : a' ^^^ b' < 2 ^ 8 := Nat.xor_lt_two_pow (by omega) (by omega)
  have h : bits .xor .u8 (a' : Int) (b' : Int) = ((a' ^^^ b' : Nat) : Int) := by
    have e : ((BitVec.ofInt 8 (a' : Int)) ^^^ (BitVec.ofInt 8 (b' : Int))).toNat = a' ^^^ b' := by
      rw [BitVec.toNat_xor, BitVec.toNat_ofInt, BitVec.toNat_ofInt]
      have e1 : ((a' : Int) % ((2 ^ 8 : Nat) : Int)).toNat = a' := by omega
      have e2 : ((b' : Int) % ((2 ^ 8 : Nat) : Int)).toNat = b' := by omega
      rw [e1, e2]
    show IntKind.u8.wrap (((BitVec.ofInt 8 (a' : Int)) ^^^ (BitVec.ofInt 8 (b' : Int))).toNat : Int) = _
    rw [e]
    have : IntKind.u8.wrap ((a' ^^^ b' : Nat) : Int) = ((a' ^^^ b' : Nat) : Int) % 256 := by simp [IntKind.wrap, IntKind.signed, IntKind.bits]
    rw [this]
    omega
  rw [h]
  have := xor_ne (a := a') (b := b') (by omega)
  omega
theorem near_set (l : List UInt8) (k : Nat) (hk : k < l.length) (b : UInt8) (hb : b ≠ l[k]) : Fmt.Near l (l.set k b) := by
  refine ⟨l.take k, l[k], b, l.drop (k + 1), ?_, ?_, Ne.symm hb⟩
  · rw [← List.drop_eq_getElem_cons hk, List.take_append_drop]
  · rw [List.set_eq_take_append_cons_drop, if_pos hk]
theorem turn_data (s : ByteArray) (k : Nat) (v : Int) : (turn s k v).data.toList = s.data.toList.set k (UInt8.ofNat v.toNat) := by
  unfold turn
  rw [strOfNums_data]
  unfold bytesOf
  rw [List.map_set, List.map_map]
  congr 1
  apply List.ext_getElem
  · simp
  · intro i h1 h2; simp
/-- A text turned at one byte that is read without an error: two items of one place collide. -/
theorem turn_law (p : List It) (hp : ∀ x ∈ p, okIt x) (k : Nat) (v : Int) (hk : k < (packS p).size) (hv : v ≠ (bytesOf (packS p)).getD k 0) (h0 : 0 ≤ v) (h1 : v < 256) (hu : (unpackF (turn (packS p) k v)).2.2 = 0) :
    ∃ (i : Nat) (x o : It), p[i]? = some x ∧ (unpackF (turn (packS p) k v)).1[i]? = some o ∧ colB x o = true := by
  obtain ⟨ht, hok, _, _⟩ := unpack_inv _ hu
  obtain ⟨o, ho⟩ : ∃ o, (unpackF (turn (packS p) k v)).1 = o := ⟨_, rfl⟩
  rw [ho] at ht hok ⊢
  have hkl : k < (packS p).data.toList.length := by rw [data_length]; exact hk
  have hn : Fmt.Near (packS p).data.toList (turn (packS p) k v).data.toList := by
    rw [turn_data]
    refine near_set _ k hkl _ (fun e => hv ?_)
    have : ((bytesOf (packS p)).getD k 0 : Int) = (((packS p).data.toList[k]).toNat : Int) := by
      unfold bytesOf
      rw [List.getD_eq_getElem?_getD, List.getElem?_map, List.getElem?_eq_getElem hkl]; rfl
    rw [this, ← e]
    simp only [UInt8.toNat_ofNat']
    omega
  rw [ht, packS_data, packS_data] at hn
  obtain ⟨i, x, y, hx, hy, hxy, hd⟩ := FM.text_near (by intro z hz; obtain ⟨q, hq, rfl⟩ := List.mem_map.mp hz; exact (hp q hq).1) (by intro z hz; obtain ⟨q, hq, rfl⟩ := List.mem_map.mp hz; exact (hok q hq).1) hn
  rw [List.getElem?_map] at hx hy
  obtain ⟨x', hx', rfl⟩ := Option.map_eq_some_iff.1 hx
  obtain ⟨y', hy', rfl⟩ := Option.map_eq_some_iff.1 hy
  refine ⟨i, x', y', hx', hy', ?_⟩
  unfold colB
  have h2 : digS x' = digS y' := by
    have : (digS (x'.1, mkB x'.2.data.toList)).data.toList = (digS (y'.1, mkB y'.2.data.toList)).data.toList := hd
    rw [mkB_data', mkB_data'] at this
    exact data_inj this
  rw [dig_half h2, decide_eq_false (fun e => hxy (by rw [e])), beq_toListBytes, beq_self_eq_true]
  rfl


end Go.Proofs.YtceopllngemnnaaGreatDoor

