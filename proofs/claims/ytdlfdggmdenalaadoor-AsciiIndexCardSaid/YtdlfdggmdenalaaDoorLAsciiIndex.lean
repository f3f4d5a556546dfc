/-
  The law AsciiIndex: in a world that holds what the library reads, the call returns true and leaves what was there. For every two strings.
-/
import Derived.Test.YtdlfdggmdenalaaDoorKD
import Derived.Lib.Strings
namespace Go.Proofs.YtdlfdggmdenalaaDoor
open Go.RowKit Go.Proofs.YtdlfdggmdenalaaDoorW.PrintWords Go.Proofs.YtdlfdggmdenalaaDoorW.PrintMore

def lowerB (u : UInt8) : UInt8 := UInt8.ofNat (lowerI u.toNat).toNat

theorem lowerS_data (s : ByteArray) : (lowerS s).data.toList = s.data.toList.map lowerB := by
  rw [lowerS, strOfNums_data, List.map_map]
  apply List.ext_getElem
  · simp [data_length]
  · intro i h1 h2
    have hi : i < s.size := by simpa using h1
    have hb : bt s (i : Int) = (s[i].toNat : Int) := (bt_at s (i : Int) hi).symm
    simp only [List.getElem_map, List.getElem_range, Function.comp, hb, lowerB]
    rfl

theorem lowerS_extract (s : ByteArray) (i j : Nat) : (lowerS (s.extract i j)).data.toList = ((lowerS s).extract i j).data.toList := by
  rw [lowerS_data, Lib.extract_data, Lib.extract_data, lowerS_data, List.map_take, List.map_drop]

/-- Where the index is: an instance begins there. -/
theorem index_at : ∀ (l sub : List UInt8), 0 ≤ Lib.index l sub → (Lib.index l sub).toNat + sub.length ≤ l.length ∧ (l.drop (Lib.index l sub).toNat).take sub.length = sub
  | [], sub, h => by
    unfold Lib.index at h ⊢
    by_cases hs : sub.isEmpty = true
    · have : sub = [] := by simpa using hs
      subst this; simp
    · rw [if_neg hs] at h; omega
  | b :: l, sub, h => by
    unfold Lib.index at h ⊢
    by_cases hp : sub.isPrefixOf (b :: l) = true
    · rw [if_pos hp]
      have hpre := List.isPrefixOf_iff_prefix.mp hp
      refine ⟨by simpa using hpre.length_le, ?_⟩
      simpa using (List.prefix_iff_eq_take.mp hpre).symm
    · rw [if_neg hp] at h ⊢
      by_cases hi : (Lib.index l sub == -1) = true
      · rw [if_pos hi] at h; omega
      · rw [if_neg hi] at h ⊢
        have hge := Lib.index_ge l sub
        have hne : Lib.index l sub ≠ -1 := by simpa using hi
        obtain ⟨h1, h2⟩ := index_at l sub (by omega)
        have ht : (Lib.index l sub + 1).toNat = (Lib.index l sub).toNat + 1 := by omega
        rw [ht]
        refine ⟨by simp only [List.length_cons]; omega, ?_⟩
        simpa using h2

def idxFrom (l sub : List UInt8) (k : Nat) : Int := if Lib.index (l.drop k) sub = -1 then -1 else Lib.index (l.drop k) sub + k

theorem idxFrom_zero (l sub : List UInt8) : idxFrom l sub 0 = Lib.index l sub := by
  unfold idxFrom; simp only [List.drop_zero]; split <;> simp_all

theorem index_short : ∀ (l sub : List UInt8), l.length < sub.length → Lib.index l sub = -1
  | [], sub, h => by
    unfold Lib.index
    rw [if_neg]
    cases sub with
    | nil => simp at h
    | cons _ _ => simp
  | b :: l, sub, h => by
    unfold Lib.index
    rw [if_neg, if_pos]
    · have := index_short l sub (by simp only [List.length_cons] at h; omega)
      simp [this]
    · intro hp
      have := (List.isPrefixOf_iff_prefix.mp hp).length_le
      omega

theorem idxFrom_end (l sub : List UInt8) (k : Nat) (h : l.length < k + sub.length) (hk : k ≤ l.length) : idxFrom l sub k = -1 := by
  unfold idxFrom
  rw [if_pos (index_short _ _ (by rw [List.length_drop]; omega))]

theorem idxFrom_hit (l sub : List UInt8) (k : Nat) (h : (l.drop k).take sub.length = sub) (hk : k + sub.length ≤ l.length) : idxFrom l sub k = k := by
  have hp : sub.isPrefixOf (l.drop k) = true := List.isPrefixOf_iff_prefix.mpr (List.prefix_iff_eq_take.mpr h.symm)
  have h0 : Lib.index (l.drop k) sub = 0 := by
    cases hd : l.drop k with
    | nil =>
      rw [hd] at hp
      unfold Lib.index
      rw [if_pos]
      cases sub with
      | nil => rfl
      | cons _ _ => simp at hp
    | cons b r =>
      rw [hd] at hp
      unfold Lib.index
      rw [if_pos hp]
  unfold idxFrom
  rw [h0]; simp

theorem idxFrom_miss (l sub : List UInt8) (k : Nat) (h : ¬ (l.drop k).take sub.length = sub) (hk : k + sub.length ≤ l.length) : idxFrom l sub k = idxFrom l sub (k + 1) := by
  have hne : sub ≠ [] := by rintro rfl; simp at h
  have hlen : 0 < sub.length := List.length_pos_iff.mpr hne
  have hd : l.drop k = l[k]'(by omega) :: l.drop (k + 1) := List.drop_eq_getElem_cons (by omega)
  have hp : ¬ sub.isPrefixOf (l.drop k) = true := by
    intro hp
    exact h (List.prefix_iff_eq_take.mp (List.isPrefixOf_iff_prefix.mp hp)).symm
  have hs : Lib.index (l.drop k) sub = if Lib.index (l.drop (k + 1)) sub == -1 then -1 else Lib.index (l.drop (k + 1)) sub + 1 := by
    rw [hd] at hp ⊢
    rw [Lib.index, if_neg hp]
  have hge := Lib.index_ge (l.drop (k + 1)) sub
  unfold idxFrom
  rw [hs]
  by_cases hi : Lib.index (l.drop (k + 1)) sub = -1
  · simp [hi]
  · have : (Lib.index (l.drop (k + 1)) sub == -1) = false := by simpa using hi
    rw [this]
    simp only [Bool.false_eq_true, if_false, hi]
    rw [if_neg (by omega)]
    omega


set_option maxHeartbeats 1600000 in
set_option maxRecDepth 100000 in
theorem refIndex_any (a b : ByteArray) (w : World) (ha : a.size ≤ 300) (hb : b.size ≤ 300) :
    Calls Tryd.prog 20 #[.string a, .string b] w fun e w' => e = .returned (.int .i64 (idxF a b)) ∧ Below w.heap.size w w' := by
  obtain ⟨x, hx⟩ : ∃ x, lowerS a = x := ⟨_, rfl⟩
  obtain ⟨y, hy⟩ : ∃ y, lowerS b = y := ⟨_, rfl⟩
  have sx : x.size ≤ 300 := by rw [← hx, lowerS_size]; exact ha
  have sy : y.size ≤ 300 := by rw [← hy, lowerS_size]; exact hb
  have HI := Aside0.mk (show idxFrom x.data.toList y.data.toList 0 = idxF a b by rw [idxFrom_zero, ← hx, ← hy]; rfl)
  have HX := Aside0.mk hx
  have HY := Aside0.mk hy
  clear hx hy
  go_enter Tryd.func20, Tryd.ntmps20
  go_wp2_with fail
  refine (refLower_any a _ (by omega)).mono ?_
  rintro e w1 ⟨rfl, hb1⟩
  rw [HX.out]
  have HB1 := Aside0.mk hb1
  clear hb1
  go_wp2_with fail
  refine (refLower_any b _ (by omega)).mono ?_
  rintro e w2 ⟨rfl, hb2⟩
  rw [HY.out]
  have HB2 := Aside0.mk (HB1.out.trans (hb2.mono HB1.out.size))
  clear hb2 HB1
  go_wp2_with fail
  go_loopg [7] (x.size + 1) (fun gf i wx => ∃ k : Nat, k ≤ x.size + 1 ∧ i = .int .i64 k ∧ w2 = wx ∧ Aside0 (x.size + 1 ≤ k + gf) ∧ Aside0 (k ≤ x.size → idxFrom x.data.toList y.data.toList k = idxF a b) ∧ Aside0 (x.size < k → idxF a b = -1))
  case atStart => exact ⟨0, Nat.zero_le _, rfl, rfl, ⟨by omega⟩, ⟨fun _ => HI.out⟩, ⟨fun h => by omega⟩⟩
  case round =>
    obtain ⟨k, hk, rfl, rfl, HG, HK, HE⟩ := hrel
    have hlx : x.data.toList.length = x.size := data_length x
    have hly : y.data.toList.length = y.size := data_length y
    have HLX := Aside0.mk hlx
    have HLY := Aside0.mk hly
    clear hlx hly
    by_cases hlt : k + y.size ≤ x.size
    · have hlt1 : (k : Int) + (y.size : Int) ≤ (x.size : Int) := by omega
      have hlt2 : (k : Int) ≤ (k : Int) + (y.size : Int) := by omega
      have hnt : ((k : Int) + (y.size : Int)).toNat = k + y.size := by omega
      by_cases he : (x.data.toList.drop k).take y.size = y.data.toList
      · have hee : ((x.extract k (k + y.size)).toList == y.toList) = true := by
          rw [ByteArray.toList_eq, ByteArray.toList_eq, Lib.extract_data]; simpa using he
        have hr := (HK.out (by omega)).symm.trans (idxFrom_hit _ _ k (by rw [HLY.out]; exact he) (by rw [HLX.out, HLY.out]; exact hlt))
        have HR := Aside0.mk hr
        clear hr he
        go_wp2_with fail
        go_ret
        exact ⟨ret_int (a := (k : Int)) HR.out.symm, HB2.out⟩
      · have hee : ((x.extract k (k + y.size)).toList == y.toList) = false := by
          rw [ByteArray.toList_eq, ByteArray.toList_eq, Lib.extract_data]; simpa using he
        have hr := (idxFrom_miss _ _ k (by rw [HLY.out]; exact he) (by rw [HLX.out, HLY.out]; exact hlt)).symm.trans (HK.out (by omega))
        have hy0 : y.size ≠ 0 := by
          intro h0
          apply he
          rw [h0]
          have : y.data.toList = [] := List.eq_nil_of_length_eq_zero (by rw [HLY.out, h0])
          rw [this]; rfl
        have HR := Aside0.mk hr
        clear hr he
        go_wp2_with fail
        go_roundg (gk - 1)
        case measure => have := HG.out; omega
        case rel => exact ⟨k + 1, by omega, by go_num, rfl, ⟨by have := HG.out; omega⟩, ⟨fun _ => HR.out⟩, ⟨fun h => by omega⟩⟩
    · have hlt1 : ¬ (k : Int) + (y.size : Int) ≤ (x.size : Int) := by omega
      have hr : idxF a b = -1 := by
        by_cases hkx : k ≤ x.size
        · exact (HK.out hkx).symm.trans (idxFrom_end _ _ k (by rw [HLX.out, HLY.out]; omega) (by rw [HLX.out]; exact hkx))
        · exact HE.out (by omega)
      have HR := Aside0.mk hr
      clear hr
      go_wp2_with fail
      go_ret
      exact ⟨ret_int (a := (-1 : Int)) HR.out.symm, HB2.out⟩

theorem idxF_at (a b : ByteArray) (n : Nat) (h : idxF a b = n) : n + b.size ≤ a.size ∧ cmpF (a.extract n (n + b.size)) b = 0 := by
  have h0 : 0 ≤ Lib.index (lowerS a).data.toList (lowerS b).data.toList := by show 0 ≤ idxF a b; omega
  have ht : (Lib.index (lowerS a).data.toList (lowerS b).data.toList).toNat = n := by show (idxF a b).toNat = n; omega
  obtain ⟨h1, h2⟩ := index_at _ _ h0
  rw [ht] at h1 h2
  rw [data_length, data_length, lowerS_size, lowerS_size] at h1
  rw [data_length, lowerS_size] at h2
  refine ⟨h1, ?_⟩
  have hz := cmpL_self (lowerS b).data.toList
  unfold cmpF
  rw [lowerS_extract, Lib.extract_data, Nat.add_sub_cancel_left, h2]
  exact hz

theorem idxF_ge (a b : ByteArray) : -1 ≤ idxF a b := Lib.index_ge _ _

set_option maxHeartbeats 3200000 in
set_option maxRecDepth 100000 in
theorem asciiIndex_walk (a0 : ByteArray) (w0 : a0.size ≤ 140737488351232) (a1 : ByteArray) (w1 : a1.size ≤ 140737488351232) (w : World) (he : Env w) :
    Calls Tryd.prog 5 #[.string a0, .string a1] w fun e w' => e = .returned (.bool true) ∧ Below w.heap.size w w' := by
  have HE := Aside0.mk he
  clear he
  obtain ⟨a, ha⟩ : ∃ a, cutS a0 = a := ⟨_, rfl⟩
  obtain ⟨b, hb⟩ : ∃ b, cutS a1 = b := ⟨_, rfl⟩
  have sa : a.size ≤ 300 := ha ▸ cutS_size a0
  have sb : b.size ≤ 300 := hb ▸ cutS_size a1
  have HA := Aside0.mk ha
  have HB := Aside0.mk hb
  clear ha hb
  have hge := idxF_ge a b
  rcases (show idxF a b < 0 ∨ 0 ≤ idxF a b by omega) with hneg | hpos
  · have hi : idxF a b = -1 := by omega
    clear hge hneg
    have HI := Aside0.mk hi
    clear hi
    go_enter Tryd.func5, Tryd.ntmps5
    go_wp2_with fail
    refine (cut_any a0 _ w0).mono ?_
    rintro e w' ⟨rfl, rfl⟩
    rw [HA.out]
    go_wp2_with fail
    refine (cut_any a1 _ w1).mono ?_
    rintro e w' ⟨rfl, rfl⟩
    rw [HB.out]
    go_wp2_with fail
    refine (indexFold_any a b _ HE.out (by omega) (by omega)).mono ?_
    rintro e w1 ⟨rfl, hb1⟩
    rw [HI.out]
    have HB1 := Aside0.mk hb1
    clear hb1
    go_wp2_with fail
    refine (known_any _ (HE.out.below HB1.out)).mono ?_
    rintro e w2 ⟨rfl, hb2⟩
    have HB2 := Aside0.mk (HB1.out.trans (hb2.mono HB1.out.size))
    clear hb2 HB1
    go_wp2_with fail
    refine (refIndex_any a b _ sa sb).mono ?_
    rintro e w3 ⟨rfl, hb3⟩
    rw [HI.out]
    have HB3 := Aside0.mk (HB2.out.trans (hb3.mono HB2.out.size))
    clear hb3 HB2
    go_wp2_with fail
    go_ret
    exact ⟨rfl, HB3.out⟩
  · obtain ⟨n, hn⟩ : ∃ n : Nat, idxF a b = n := ⟨(idxF a b).toNat, by omega⟩
    clear hge hpos
    obtain ⟨hf, hc⟩ := idxF_at a b n hn
    have HI := Aside0.mk hn
    have HCc := Aside0.mk hc
    clear hn hc
    have h1 : ¬ (n : Int) + (b.size : Int) > (a.size : Int) := by omega
    have h2 : (n : Int) ≤ (n : Int) + (b.size : Int) := by omega
    have h3 : ((n : Int) + (b.size : Int)).toNat = n + b.size := by omega
    have h4 : (n : Int) + (b.size : Int) ≤ (a.size : Int) := by omega
    have hn3 : n ≤ 300 := by omega
    go_enter Tryd.func5, Tryd.ntmps5
    go_wp2_with fail
    refine (cut_any a0 _ w0).mono ?_
    rintro e w' ⟨rfl, rfl⟩
    rw [HA.out]
    go_wp2_with fail
    refine (cut_any a1 _ w1).mono ?_
    rintro e w' ⟨rfl, rfl⟩
    rw [HB.out]
    go_wp2_with fail
    refine (indexFold_any a b _ HE.out (by omega) (by omega)).mono ?_
    rintro e w1 ⟨rfl, hb1⟩
    rw [HI.out]
    have HB1 := Aside0.mk hb1
    clear hb1
    go_wp2_with fail
    refine (equalFold_any _ b _ (by simp; omega) (by omega)).mono ?_
    rintro e w4 ⟨rfl, hb4⟩
    rw [HCc.out]
    have HB4 := Aside0.mk (HB1.out.trans (hb4.mono HB1.out.size))
    clear hb4 HB1
    go_wp2_with fail
    refine (known_any _ (HE.out.below HB4.out)).mono ?_
    rintro e w2 ⟨rfl, hb2⟩
    have HB2 := Aside0.mk (HB4.out.trans (hb2.mono HB4.out.size))
    clear hb2 HB4
    go_wp2_with fail
    refine (refIndex_any a b _ sa sb).mono ?_
    rintro e w3 ⟨rfl, hb3⟩
    rw [HI.out]
    have HB3 := Aside0.mk (HB2.out.trans (hb3.mono HB2.out.size))
    clear hb3 HB2
    go_wp2_with fail
    go_ret
    exact ⟨rfl, HB3.out⟩

end Go.Proofs.YtdlfdggmdenalaaDoor
