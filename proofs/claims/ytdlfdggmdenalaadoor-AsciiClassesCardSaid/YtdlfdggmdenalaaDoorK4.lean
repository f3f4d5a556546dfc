/-
  CompareFold, EqualFold, IndexFold, Trim, Squeeze, Printable and Digits of package ascii: what they return. For strings of up to a million bytes and every int; Digits in a world that holds the table of powers of ten, IndexFold in one that holds the library's MaxLen.
-/
import Derived.Test.YtdlfdggmdenalaaDoorK3
import Derived.Test.YtdlfdggmdenalaaDoorShelf
import Derived.WalkSmall
namespace Go.Proofs.YtdlfdggmdenalaaDoor
open Go.RowKit Go.Proofs.YtdlfdggmdenalaaDoorW.PrintWords Go.Proofs.YtdlfdggmdenalaaDoorW.PrintMore

/-- What the library reads of its own variables. -/
structure Env (w : World) : Prop where
  len : ∃ m : Int, w.cell? ⟨0, 0, none⟩ = some (.int .i64 m)
  tab : Lib.TabIs Tryd.prog w "internal/strconv.uint64pow10" .u64 Lib.pow10Tab
  rng : ∃ tp p, w.cell? ⟨2, 0, none⟩ = some (.iface tp p)
  syn : ∃ tp p, w.cell? ⟨1, 0, none⟩ = some (.iface tp p)
  big : 4 ≤ w.heap.size

theorem tab_named : Tryd.prog.globalNamed "internal/strconv.uint64pow10" = some 3 := by kernel_rfl

theorem Env.below {w w' : World} (h : Env w) (hb : Below w.heap.size w w') : Env w' := by
  obtain ⟨⟨m, hm⟩, ht, ⟨tp, p, hp⟩, ⟨tq, q, hq⟩, hbig⟩ := h
  exact ⟨⟨m, (hb.cell (p := ⟨0, 0, none⟩) (by show 0 < _; omega)).trans hm⟩, var?_below hb tab_named (by omega) ht, ⟨tp, p, (hb.cell (p := ⟨2, 0, none⟩) (by show 2 < _; omega)).trans hp⟩, ⟨tq, q, (hb.cell (p := ⟨1, 0, none⟩) (by show 1 < _; omega)).trans hq⟩, by have := hb.size; omega⟩

def cmpF (a b : ByteArray) : Int := Lib.compareBytes (lowerS a).data.toList (lowerS b).data.toList
def idxF (a b : ByteArray) : Int := Lib.index (lowerS a).data.toList (lowerS b).data.toList

theorem lowerS_size (s : ByteArray) : (lowerS s).size = s.size := by simp [lowerS, strOfNums_size]

theorem compareFold_any (a b : ByteArray) (w : World) (ha : a.size ≤ 1000000) (hb : b.size ≤ 1000000) :
    Calls Tryd.prog 17 #[.string a, .string b] w fun e w' => e = .returned (.int .i64 (cmpF a b)) ∧ Below w.heap.size w w' := by
  go_enter Tryd.func17, Tryd.ntmps17
  go_wp2_with fail
  refine (lower_any a _ ha).mono ?_
  rintro e w1 ⟨rfl, hb1⟩
  have HB1 := Aside0.mk hb1
  clear hb1
  go_wp2_with fail
  refine (lower_any b _ hb).mono ?_
  rintro e w2 ⟨rfl, hb2⟩
  have HB2 := Aside0.mk (HB1.out.trans (hb2.mono HB1.out.size))
  clear hb2 HB1
  go_wp2_with (go_at_call 50; refine (Tryd.strings_Compare _ _ _).mono ?_; rintro e w' ⟨rfl, rfl⟩)
  go_ret
  exact ⟨rfl, HB2.out⟩

theorem equalFold_any (a b : ByteArray) (w : World) (ha : a.size ≤ 1000000) (hb : b.size ≤ 1000000) :
    Calls Tryd.prog 16 #[.string a, .string b] w fun e w' => e = .returned (.bool (cmpF a b == 0)) ∧ Below w.heap.size w w' := by
  go_enter Tryd.func16, Tryd.ntmps16
  go_wp2_with fail
  refine (compareFold_any a b _ ha hb).mono ?_
  rintro e w1 ⟨rfl, hb1⟩
  have HB1 := Aside0.mk hb1
  clear hb1
  go_wp2_with fail
  go_ret
  exact ⟨rfl, HB1.out⟩

theorem indexFold_any (a b : ByteArray) (w : World) (he : Env w) (ha : a.size ≤ 1000000) (hb : b.size ≤ 1000000) :
    Calls Tryd.prog 19 #[.string a, .string b] w fun e w' => e = .returned (.int .i64 (idxF a b)) ∧ Below w.heap.size w w' := by
  have HE := Aside0.mk he
  clear he
  go_enter Tryd.func19, Tryd.ntmps19
  go_wp2_with fail
  refine (lower_any a _ ha).mono ?_
  rintro e w1 ⟨rfl, hb1⟩
  have HB1 := Aside0.mk hb1
  clear hb1
  go_wp2_with fail
  refine (lower_any b _ hb).mono ?_
  rintro e w2 ⟨rfl, hb2⟩
  have HB2 := Aside0.mk (HB1.out.trans (hb2.mono HB1.out.size))
  clear hb2 HB1
  obtain ⟨m, hm⟩ := (HE.out.below HB2.out).len
  have HM := Aside0.mk hm
  clear hm
  go_wp2_with fail
  refine (Tryd.strings_Index _ _ m _ (by rw [lowerS_size]; omega) HM.out).mono ?_
  rintro e w' ⟨rfl, rfl⟩
  go_wp2_with fail
  go_ret
  exact ⟨rfl, HB2.out⟩

def prF (s : ByteArray) : Int := if spanN printI s 0 = s.size then -1 else (spanN printI s 0 : Int)

theorem printable_any (s : ByteArray) (w : World) (hs : s.size ≤ 1000000) :
    Calls Tryd.prog 47 #[.string s] w fun e w' => e = .returned (.int .i64 (prF s)) ∧ w' = w := by
  have e64 := enters64
  obtain ⟨n, hn⟩ : ∃ n, spanN printI s 0 = n := ⟨_, rfl⟩
  have HP := Aside0.mk (show prF s = if n = s.size then -1 else (n : Int) by rw [← hn]; rfl)
  have HN := Aside0.mk hn
  clear hn
  go_enter Tryd.func47, Tryd.ntmps47
  go_wp2_with fail
  refine (span_any 64 #[] enters64 printI s 0 _ (by unfold maxLen; omega) (Nat.zero_le _) (fun n W _ => print_any n W)).mono ?_
  rintro e w' ⟨rfl, rfl⟩
  rw [HN.out]
  by_cases h : n = s.size
  · subst h
    go_wp2_with fail
    go_ret
    exact ⟨by rw [HP.out]; simp, rfl⟩
  · have h' : ((n : Int) == (s.size : Int)) = false := by simp; omega
    have HH := Aside0.mk h
    clear h
    go_wp2_with fail
    go_ret
    exact ⟨by rw [HP.out, if_neg HH.out]; rfl, rfl⟩

theorem digits_any (n : Int) (w : World) (he : Env w) (h0 : -9223372036854775808 ≤ n) (h1 : n ≤ 9223372036854775807) :
    Calls Tryd.prog 28 #[.int .i64 n] w fun e w' => e = .returned (.string ⟨(Lib.itoa n).toArray⟩) ∧ Below w.heap.size w w' := by
  have ht := he.tab
  have HT := Aside0.mk ht
  clear ht he
  go_enter Tryd.func28, Tryd.ntmps28
  go_wp2_with fail
  refine (Tryd.strconv_Itoa n h0 h1 _ HT.out).mono ?_
  rintro e w1 ⟨rfl, k, os, rfl⟩
  have HB : Aside0 (Below w.heap.size w (Sort.grow (w.drewN k) os)) := ⟨⟨rfl, rfl, rfl, by show w.heap.size ≤ (w.heap ++ os).size; rw [Array.size_append]; omega, fun _ hj => Sort.heap_grow_old (w.drewN k) os hj⟩⟩
  go_wp2_with fail
  go_ret
  exact ⟨rfl, HB.out⟩

end Go.Proofs.YtdlfdggmdenalaaDoor
