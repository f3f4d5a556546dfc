/-
  The law AsciiOrder: in a world that holds what the library reads, the call returns true and leaves what was there. For every three strings.
-/
import Derived.Test.YtdlfdggmdenalaaDoorKD
namespace Go.Proofs.YtdlfdggmdenalaaDoor
open Go.RowKit Go.Proofs.YtdlfdggmdenalaaDoorW.PrintWords Go.Proofs.YtdlfdggmdenalaaDoorW.PrintMore

theorem compareTo_any (a b : ByteArray) (x : Int) (w : World) (ha : a.size ≤ 300) (hb : b.size ≤ 300) (hx : cmpF a b = x) :
    Calls Tryd.prog 17 #[.string a, .string b] w fun e w' => e = .returned (.int .i64 x) ∧ Below w.heap.size w w' :=
  hx ▸ compareFold_any a b w (by omega) (by omega)
theorem equalTo_any (a b : ByteArray) (x : Int) (w : World) (ha : a.size ≤ 300) (hb : b.size ≤ 300) (hx : cmpF a b = x) :
    Calls Tryd.prog 16 #[.string a, .string b] w fun e w' => e = .returned (.bool (x == 0)) ∧ Below w.heap.size w w' :=
  hx ▸ equalFold_any a b w (by omega) (by omega)

set_option maxHeartbeats 3200000 in
set_option maxRecDepth 100000 in
theorem asciiOrder_walk (a0 : ByteArray) (w0 : a0.size ≤ 140737488351232) (a1 : ByteArray) (w1 : a1.size ≤ 140737488351232) (a2 : ByteArray) (w2 : a2.size ≤ 140737488351232) (w : World) (he : Env w) :
    Calls Tryd.prog 4 #[.string a0, .string a1, .string a2] w fun e w' => e = .returned (.bool true) ∧ Below w.heap.size w w' := by
  have HE := Aside0.mk he
  clear he
  obtain ⟨a, ha⟩ : ∃ a, cutS a0 = a := ⟨_, rfl⟩
  obtain ⟨b, hb⟩ : ∃ b, cutS a1 = b := ⟨_, rfl⟩
  obtain ⟨c, hc⟩ : ∃ c, cutS a2 = c := ⟨_, rfl⟩
  have sa : a.size ≤ 300 := ha ▸ cutS_size a0
  have sb : b.size ≤ 300 := hb ▸ cutS_size a1
  have sc : c.size ≤ 300 := hc ▸ cutS_size a2
  have HA := Aside0.mk ha
  have HB := Aside0.mk hb
  have HC := Aside0.mk hc
  clear ha hb hc
  obtain ⟨x, hx⟩ : ∃ x, cmpF a b = x := ⟨_, rfl⟩
  obtain ⟨y, hy⟩ : ∃ y, cmpF b c = y := ⟨_, rfl⟩
  obtain ⟨z, hz⟩ : ∃ z, cmpF a c = z := ⟨_, rfl⟩
  have hx1 : -1 ≤ x ∧ x ≤ 1 := hx ▸ cmpF_range a b
  have hba : cmpF b a = -x := hx ▸ cmpF_anti a b
  have htr : ¬ x ≤ 0 ∨ (x ≤ 0 ∧ ¬ y ≤ 0) ∨ (x ≤ 0 ∧ y ≤ 0 ∧ z ≤ 0) := by
    by_cases h1 : x ≤ 0
    · by_cases h2 : y ≤ 0
      · exact Or.inr (Or.inr ⟨h1, h2, hz ▸ cmpF_trans a b c (by omega) (by omega)⟩)
      · exact Or.inr (Or.inl ⟨h1, h2⟩)
    · exact Or.inl h1
  obtain ⟨hx1, hx2⟩ := hx1
  have HX := Aside0.mk hx
  have HY := Aside0.mk hy
  have HZ := Aside0.mk hz
  have HBA := Aside0.mk hba
  clear hx hy hz hba
  rcases htr with h | ⟨h, h'⟩ | ⟨h, h', h''⟩
  all_goals
    go_enter Tryd.func4, Tryd.ntmps4
    go_wp2_with fail
    refine (cut_any a0 _ w0).mono ?_
    rintro e w' ⟨rfl, rfl⟩
    rw [HA.out]
    go_wp2_with fail
    refine (cut_any a1 _ w1).mono ?_
    rintro e w' ⟨rfl, rfl⟩
    rw [HB.out]
    go_wp2_with fail
    refine (cut_any a2 _ w2).mono ?_
    rintro e w' ⟨rfl, rfl⟩
    rw [HC.out]
    go_wp2_with fail
    refine (compareTo_any a b x _ sa sb HX.out).mono ?_
    rintro e w1 ⟨rfl, hb1⟩
    have HB1 := Aside0.mk hb1
    clear hb1
    go_wp2_with fail
    refine (compareTo_any b c y _ sb sc HY.out).mono ?_
    rintro e w2 ⟨rfl, hb2⟩
    have HB2 := Aside0.mk (HB1.out.trans (hb2.mono HB1.out.size))
    clear hb2 HB1
    go_wp2_with fail
    refine (compareTo_any a c z _ sa sc HZ.out).mono ?_
    rintro e w3 ⟨rfl, hb3⟩
    have HB3 := Aside0.mk (HB2.out.trans (hb3.mono HB2.out.size))
    clear hb3 HB2
    go_wp2_with fail
    refine (compareTo_any b a (-x) _ sb sa HBA.out).mono ?_
    rintro e w4 ⟨rfl, hb4⟩
    have HB4 := Aside0.mk (HB3.out.trans (hb4.mono HB3.out.size))
    clear hb4 HB3
    go_wp2_with fail
    refine (equalTo_any a b x _ sa sb HX.out).mono ?_
    rintro e w5 ⟨rfl, hb5⟩
    have HB5 := Aside0.mk (HB4.out.trans (hb5.mono HB4.out.size))
    clear hb5 HB4
    go_wp2_with fail
    refine (known_any _ (HE.out.below HB5.out)).mono ?_
    rintro e w6 ⟨rfl, hb6⟩
    have HB6 := Aside0.mk (HB5.out.trans (hb6.mono HB5.out.size))
    clear hb6 HB5
    go_wp2_with fail
    go_ret
    exact ⟨rfl, HB6.out⟩

end Go.Proofs.YtdlfdggmdenalaaDoor
