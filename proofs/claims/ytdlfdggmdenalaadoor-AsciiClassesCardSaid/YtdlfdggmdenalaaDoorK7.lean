/-
  Hex and Unhex of package ascii: what they return. For slices and strings of up to a million bytes.
-/
import Derived.Test.YtdlfdggmdenalaaDoorK6
namespace Go.Proofs.YtdlfdggmdenalaaDoor
open Go.RowKit Go.Proofs.YtdlfdggmdenalaaDoorW.PrintWords Go.Proofs.YtdlfdggmdenalaaDoorW.PrintMore

def hexT : ByteArray := ⟨#[48, 49, 50, 51, 52, 53, 54, 55, 56, 57, 97, 98, 99, 100, 101, 102]⟩
/-- The digits of a byte. -/
def hexD (n : Int) : List Int := [bt hexT (n / 16), bt hexT (n % 16)]
def hexL (l : List Int) : List Int := l.flatMap hexD
def hexS (l : List Int) : ByteArray := strOfNums (hexL l)

theorem hexL_snoc (l : List Int) (n : Int) : hexL (l ++ [n]) = hexL l ++ [bt hexT (n / 16)] ++ [bt hexT (n % 16)] := by
  simp [hexL, hexD]
theorem hexL_length (l : List Int) : (hexL l).length = 2 * l.length := by
  induction l with
  | nil => rfl
  | cons x r ih => simp [hexL, hexD] at ih ⊢; omega

theorem hexL_range (l : List Int) : ∀ y ∈ hexL l, 0 ≤ y ∧ y ≤ 255 := by
  intro y hy
  simp only [hexL, hexD, List.mem_flatMap, List.mem_cons, List.not_mem_nil, or_false] at hy
  obtain ⟨x, _, h | h⟩ := hy <;> (subst h; exact bt_range _ _)

set_option maxHeartbeats 2000000 in
set_option maxRecDepth 100000 in
theorem hex_any (A : Option Addr) (c : Nat) (l : List Int) (w : World) (hC : Kd.C (Kd.int .u8) w A l.length l) (hb : ∀ x ∈ l, 0 ≤ x ∧ x ≤ 255) (hl : l.length ≤ 1000000) :
    Calls Tryd.prog 32 #[.slice A l.length c] w fun e w' => e = .returned (.string (hexS l)) ∧ Below w.heap.size w w' := by
  have HC := Aside0.mk hC
  have HBd := Aside0.mk hb
  clear hC hb
  obtain ⟨n, hn⟩ : ∃ n, l.length = n := ⟨_, rfl⟩
  have HN := Aside0.mk hn
  rw [hn] at hl ⊢
  clear hn
  go_enter Tryd.func32, Tryd.ntmps32
  go_wp2_with fail
  go_loopg [5, 8] n (fun gf x5 i wx => ∃ k : Nat, k ≤ n ∧ i = .int .i64 k ∧ Hid (n ≤ k + gf) ∧ Aside0 (Lib.IsBuilder 61 5 w.heap.size w.heap.size (nums .u8 (hexL (l.take k))) wx) ∧ Aside0 (Below w.heap.size w wx))
  case atStart =>
    refine ⟨0, Nat.zero_le _, rfl, by unfold Hid; omega, ⟨Or.inl ⟨Nat.le_refl _, _, heap_alloc_new _ _, own_nil _ _ _ _, by simp [Value.ownBlock]⟩⟩, ⟨(Below.refl _ _).alloc (Nat.le_refl _) _⟩⟩
  case round =>
    obtain ⟨k, hk, rfl, HG, HI, HB⟩ := hrel
    by_cases hlt : k < n
    · obtain ⟨ad, hA, hcell⟩ := Kd.at_int (Kd.C_below HC.out HB.out) (k : Int) (by omega) (by have := HN.out; omega)
      rw [Int.toNat_natCast] at hcell
      obtain ⟨x, hx⟩ : ∃ x, rd l (k : Int) = x := ⟨_, rfl⟩
      rw [hx] at hcell
      subst hA
      have hxm : x ∈ l ∧ l.take (k + 1) = l.take k ++ [x] := by
        subst hx
        have hkl : k < l.length := by have := HN.out; omega
        have hr : rd l (k : Int) = l[k] := by simp [rd, List.getD_eq_getElem?_getD, List.getElem?_eq_getElem hkl]
        rw [hr]
        exact ⟨List.getElem_mem hkl, by rw [List.take_succ_eq_append_getElem hkl]⟩
      obtain ⟨hb0, hb1⟩ := HBd.out x hxm.1
      have HX := Aside0.mk hxm.2
      clear hx hxm
      have hq1 : 0 ≤ x / 16 ∧ x / 16 < 16 := by omega
      have hq2 : 0 ≤ x % 16 ∧ x % 16 < 16 := by omega
      have hand : bits .and .u8 x 15 = x % 16 := u8_and15 _ hb0 (by omega)
      obtain ⟨d1, hd1⟩ : ∃ d1, bt hexT (x / 16) = d1 := ⟨_, rfl⟩
      obtain ⟨d2, hd2⟩ : ∃ d2, bt hexT (x % 16) = d2 := ⟨_, rfl⟩
      have hx1 := fun h => (bt_at ⟨#[48, 49, 50, 51, 52, 53, 54, 55, 56, 57, 97, 98, 99, 100, 101, 102]⟩ (x / 16) h).trans hd1
      have hx2 := fun h => (bt_at ⟨#[48, 49, 50, 51, 52, 53, 54, 55, 56, 57, 97, 98, 99, 100, 101, 102]⟩ (x % 16) h).trans hd2
      have hlen := hexL_length (l.take k)
      rw [List.length_take] at hlen
      have HS := Aside0.mk (hexL_snoc (l.take k) x)
      rw [← HX.out, hd1, hd2] at HS
      have HL1 : Aside0 ((nums .u8 (hexL (l.take k))).length + 2 ≤ 3000000) := ⟨by simp only [nums, List.length_map]; omega⟩
      clear hd1 hd2 hlen
      go_wp2_with fail
      refine (writeByte_any w.heap.size w.heap.size _ d1 _ HI.out (by have := HL1.out; omega) HB.out.size).mono ?_
      rintro e w1 ⟨rfl, hi1, hbb1⟩
      have HI1 := Aside0.mk hi1
      have HB1 := Aside0.mk (HB.out.trans hbb1)
      clear hi1 hbb1 HI HB hx1 hq1
      go_wp2_with fail
      refine (writeByte_any w.heap.size w.heap.size _ d2 _ (Or.inr HI1.out) (by have := HL1.out; rw [List.length_append, List.length_singleton]; omega) HB1.out.size).mono ?_
      rintro e w2 ⟨rfl, hi2, hbb2⟩
      have HI2 := Aside0.mk hi2
      have HB2 := Aside0.mk (HB1.out.trans hbb2)
      clear hi2 hbb2 HI1 HB1
      go_wp2_with fail
      go_roundg (gk - 1)
      case measure => have := HG.out; omega
      case rel =>
        refine ⟨k + 1, by omega, by go_num, by have := HG.out; unfold Hid; omega, ⟨Or.inr ?_⟩, HB2⟩
        rw [HS.out]
        have := HI2.out
        simpa [nums] using this
    · obtain rfl : k = n := by omega
      have hfull : l.take k = l := List.take_of_length_le (by rw [HN.out]; exact Nat.le_refl _)
      have HI1 := HI.out
      rw [hfull] at HI1
      have hby : nums .u8 (hexL l) = Lib.byteCells (strOfNums (hexL l)).data.toList := by
        rw [strOfNums_data]
        simp only [nums, Lib.byteCells, List.map_map]
        apply List.map_congr_left
        intro y hy
        have hr := hexL_range l y hy
        simp only [Function.comp]
        congr 1
        rw [UInt8.toNat_ofNat']
        omega
      rw [hby] at HI1
      have HI2 := Aside0.mk HI1
      clear HI1 HI hfull hby
      go_wp2_with fail
      refine (Tryd.Builder_String_any w.heap.size w.heap.size _ _ HI2.out HB.out.size).mono ?_
      rintro e w2 ⟨rfl, hbb2⟩
      have HB2 := Aside0.mk (HB.out.trans hbb2)
      clear hbb2 HB HI2
      go_wp2_with fail
      go_ret
      exact ⟨rfl, HB2.out⟩

end Go.Proofs.YtdlfdggmdenalaaDoor
