/-
  The law AsciiFold: in a world that holds what the library reads, the call returns true and leaves what was there. For every two strings.
-/
import Derived.Test.YtdlfdggmdenalaaDoorKC
import Derived.Test.YtdlfdggmdenalaaDoorPAsciiFoldx4
namespace Go.Proofs.YtdlfdggmdenalaaDoor
open Go.RowKit Go.Proofs.YtdlfdggmdenalaaDoorW.PrintWords Go.Proofs.YtdlfdggmdenalaaDoorW.PrintMore Go.Proofs.YtdlfdggmdenalaaDoor.PAsciiFold

theorem compareBytes_eq : ∀ x y : List UInt8, (Lib.compareBytes x y == 0) = (x == y)
  | [], [] => rfl
  | [], _ :: _ => rfl
  | _ :: _, [] => rfl
  | a :: x, b :: y => by
    have ih := compareBytes_eq x y
    unfold Lib.compareBytes
    by_cases h1 : a < b
    · have : (a == b) = false := by simpa using UInt8.ne_of_lt h1
      simp [h1, this]
    · by_cases h2 : b < a
      · have : (a == b) = false := by simpa using (UInt8.ne_of_lt h2).symm
        simp [h1, h2, this]
      · have : a = b := UInt8.le_antisymm (UInt8.not_lt.mp h2) (UInt8.not_lt.mp h1)
        subst this
        rw [if_neg h1, if_neg h2, ih]
        simp

theorem compareBytes_self (x : List UInt8) : Lib.compareBytes x x = 0 := by
  have := compareBytes_eq x x
  simpa using this

theorem lowerS_at (s : ByteArray) (j : Nat) (h : j < s.size) : bt (lowerS s) j = lowerI (bt s j) := by
  have hr := bt_range s (j : Int)
  have hl : (lowerS s).data.toList[j]? = some (UInt8.ofNat (lowerI (bt s j)).toNat) := by
    rw [lowerS, strOfNums_data]
    simp [h]
  have hlt : j < (lowerS s).size := by rw [lowerS_size]; exact h
  rw [← bt_at (lowerS s) (j : Int) hlt]
  have hg : (lowerS s)[(j : Int).toNat] = UInt8.ofNat (lowerI (bt s j)).toNat := by
    have h2 : (lowerS s).data.toList[j]? = some ((lowerS s)[j]) := by
      rw [List.getElem?_eq_getElem (by rw [data_length]; exact hlt)]; rfl
    rw [hl] at h2
    exact (Option.some.inj h2).symm
  rw [hg]
  have : 0 ≤ lowerI (bt s j) ∧ lowerI (bt s j) ≤ 255 := by unfold lowerI upperI; split <;> simp_all <;> omega
  rw [UInt8.toNat_ofNat']
  omega

theorem lowerI_idem (n : Int) : lowerI (lowerI n) = lowerI n := by
  unfold lowerI upperI
  by_cases h : 65 ≤ n ∧ n ≤ 90
  · have h2 : ¬ (n + 32 ≤ 90) := by omega
    simp [h, h2]
  · have : (decide (65 ≤ n) && decide (n ≤ 90)) = false := by simp; omega
    simp [this]

theorem lowerS_idem (s : ByteArray) : lowerS (lowerS s) = lowerS s := by
  have h : ∀ j : Nat, j < s.size → lowerI (bt (lowerS s) j) = lowerI (bt s j) := fun j hj => by rw [lowerS_at s j hj, lowerI_idem]
  show strOfNums _ = strOfNums _
  congr 1
  rw [lowerS_size]
  apply List.map_congr_left
  intro j hj
  exact h j (List.mem_range.mp hj)

theorem drop_at (x : ByteArray) (n : Nat) (h : n < x.size) : x.data.toList.drop n = x[n] :: x.data.toList.drop (n + 1) := by
  rw [List.drop_eq_getElem_cons (by rw [data_length]; exact h)]; rfl
theorem drop_end (x : ByteArray) (n : Nat) (h : ¬ n < x.size) : x.data.toList.drop n = [] := List.drop_eq_nil_of_le (by rw [data_length]; omega)

theorem compare_l0 (x y : ByteArray) (hx : x.size ≤ 1000000) : ∀ d n k, n ≤ x.size → n ≤ y.size → x.size - n = d → 2 * d + 2 ≤ k →
    bulletinref01_Compare.l0 k x y (n : Int) = some (Lib.compareBytes (x.data.toList.drop n) (y.data.toList.drop n)) := by
  intro d
  induction d with
  | zero =>
    intro n k h1 h2 hd hk
    obtain ⟨k, rfl⟩ : ∃ m, k = m + 2 := ⟨k - 2, by omega⟩
    simp only [bulletinref01_Compare.l0]
    rw [if_neg (by omega)]
    simp only [bulletinref01_Compare.j1]
    rw [if_neg (by simp), drop_end x n (by omega)]
    by_cases h3 : x.size < y.size
    · rw [if_pos (by omega), drop_at y n (by omega)]; rfl
    · rw [if_neg (by omega), if_neg (by omega), drop_end y n (by omega)]; rfl
  | succ d ih =>
    intro n k h1 h2 hd hk
    obtain ⟨k, rfl⟩ : ∃ m, k = m + 2 := ⟨k - 2, by omega⟩
    have hlt : n < x.size := by omega
    simp only [bulletinref01_Compare.l0]
    rw [if_pos (by omega)]
    simp only [bulletinref01_Compare.j1]
    rw [drop_at x n hlt]
    by_cases hy : n < y.size
    · rw [if_pos (by simp; omega), if_pos (by omega), if_pos (by omega), if_pos (by omega), drop_at y n hy]
      have hbx : bt x n = (x[n].toNat : Int) := (bt_at x (n : Int) hlt).symm
      have hby : bt y n = (y[n].toNat : Int) := (bt_at y (n : Int) hy).symm
      rw [hbx, hby]
      unfold Lib.compareBytes
      by_cases h4 : x[n] < y[n]
      · have : (x[n].toNat : Int) < y[n].toNat := by exact_mod_cast h4
        rw [if_pos this, if_pos h4]
      · have h4' : ¬ (x[n].toNat : Int) < y[n].toNat := by
          intro h; exact h4 (by exact_mod_cast h)
        rw [if_neg h4', if_neg h4]
        by_cases h5 : y[n] < x[n]
        · have : (x[n].toNat : Int) > y[n].toNat := by exact_mod_cast h5
          rw [if_pos this, if_pos h5]
        · have h5' : ¬ (x[n].toNat : Int) > y[n].toNat := by
            intro h; exact h5 (by exact_mod_cast h)
          rw [if_neg h5', if_neg h5]
          rw [wrap_succ n (by omega)]
          exact ih (n + 1) k (by omega) (by omega) (by omega) (by omega)
    · rw [if_neg (by simp; omega), drop_end y n hy]
      rw [if_neg (by omega), if_pos (by omega)]; rfl

theorem refCompare_any (x y : ByteArray) (w : World) (hx : x.size ≤ 1000000) :
    Calls Tryd.prog 18 #[.string x, .string y] w fun e w' => e = .returned (.int .i64 (Lib.compareBytes x.data.toList y.data.toList)) ∧ Drawn0 w w' :=
  bulletinref01_Compare.calls (2 * x.size + 2) x y _ w (by
    have := compare_l0 x y hx x.size 0 (2 * x.size + 2) (Nat.zero_le _) (Nat.zero_le _) rfl (Nat.le_refl _)
    simpa [bulletinref01_Compare.f] using this)


set_option maxHeartbeats 1600000 in
set_option maxRecDepth 100000 in
theorem asciiFold_walk (a0 : ByteArray) (w0 : a0.size ≤ 140737488351232) (a1 : ByteArray) (w1 : a1.size ≤ 140737488351232) (w : World) (he : Env w) :
    Calls Tryd.prog 3 #[.string a0, .string a1] w fun e w' => e = .returned (.bool true) ∧ Below w.heap.size w w' := by
  have HE := Aside0.mk he
  clear he
  obtain ⟨a, ha⟩ : ∃ a, cutS a0 = a := ⟨_, rfl⟩
  obtain ⟨b, hb⟩ : ∃ b, cutS a1 = b := ⟨_, rfl⟩
  have sa : a.size ≤ 300 := ha ▸ cutS_size a0
  have sb : b.size ≤ 300 := hb ▸ cutS_size a1
  have HA := Aside0.mk ha
  have HB := Aside0.mk hb
  clear ha hb
  have hq := Aside0.mk (compareBytes_eq (lowerS a).data.toList (lowerS b).data.toList)
  rw [← ByteArray.toList_eq, ← ByteArray.toList_eq] at hq
  have hself := Aside0.mk (show cmpF a (lowerS a) = 0 by unfold cmpF; rw [lowerS_idem]; exact compareBytes_self _)
  go_enter Tryd.func3, Tryd.ntmps3
  go_wp2_with fail
  refine (cut_any a0 _ w0).mono ?_
  rintro e w' ⟨rfl, rfl⟩
  rw [HA.out]
  go_wp2_with fail
  refine (cut_any a1 _ w1).mono ?_
  rintro e w' ⟨rfl, rfl⟩
  rw [HB.out]
  go_wp2_with fail
  refine (refLower_any a _ (by omega)).mono ?_
  rintro e w1 ⟨rfl, hb1⟩
  have HB1 := Aside0.mk hb1
  clear hb1
  go_wp2_with fail
  refine (refLower_any b _ (by omega)).mono ?_
  rintro e w2 ⟨rfl, hb2⟩
  have HB2 := Aside0.mk (HB1.out.trans (hb2.mono HB1.out.size))
  clear hb2 HB1
  go_wp2_with fail
  refine (known_any _ (HE.out.below HB2.out)).mono ?_
  rintro e w3 ⟨rfl, hb3⟩
  have HB3 := Aside0.mk (HB2.out.trans (hb3.mono HB2.out.size))
  clear hb3 HB2
  go_wp2_with fail
  refine (lower_any a _ (by omega)).mono ?_
  rintro e w4 ⟨rfl, hb4⟩
  have HB4 := Aside0.mk (HB3.out.trans (hb4.mono HB3.out.size))
  clear hb4 HB3
  go_wp2_with fail
  refine (equalFold_any a b _ (by omega) (by omega)).mono ?_
  rintro e w5 ⟨rfl, hb5⟩
  unfold cmpF
  rw [← ByteArray.toList_eq, ← ByteArray.toList_eq, hq.out]
  have HB5 := Aside0.mk (HB4.out.trans (hb5.mono HB4.out.size))
  clear hb5 HB4
  go_wp2_with fail
  refine (equalFold_any a (lowerS a) _ (by omega) (by rw [lowerS_size]; omega)).mono ?_
  rintro e w6 ⟨rfl, hb6⟩
  rw [hself.out]
  have HB6 := Aside0.mk (HB5.out.trans (hb6.mono HB5.out.size))
  clear hb6 HB5
  go_wp2_with fail
  refine (compareFold_any a b _ (by omega) (by omega)).mono ?_
  rintro e w7 ⟨rfl, hb7⟩
  have HB7 := Aside0.mk (HB6.out.trans (hb7.mono HB6.out.size))
  clear hb7 HB6
  go_wp2_with fail
  refine (refCompare_any (lowerS a) (lowerS b) _ (by rw [lowerS_size]; omega)).mono ?_
  rintro e w8 ⟨rfl, ⟨nd, rfl⟩⟩
  have HB8 := Aside0.mk (pw_below_drewN HB7.out nd)
  clear HB7
  go_wp2_with fail
  go_ret
  refine ⟨?_, HB8.out⟩
  show Ending.returned (.bool (cmpF a b == Lib.compareBytes (lowerS a).data.toList (lowerS b).data.toList)) = _
  simp [cmpF]

end Go.Proofs.YtdlfdggmdenalaaDoor
