/-
  What the functions of package ascii give at the examples of the chapter.
-/
import Derived.Test.YtdlfdggmdenalaaDoorK8
namespace Go.Proofs.YtdlfdggmdenalaaDoor
open Go.RowKit Go.Proofs.YtdlfdggmdenalaaDoorW.PrintWords Go.Proofs.YtdlfdggmdenalaaDoorW.PrintMore

def spanG (p : Int → Bool) (s : ByteArray) : Nat → Nat → Nat
  | 0, k => k
  | f + 1, k => if k < s.size then (if p (bt s k) then spanG p s f (k + 1) else k) else k

theorem spanN_G (p : Int → Bool) (s : ByteArray) : ∀ (f k : Nat), s.size ≤ k + f → spanN p s k = spanG p s f k := by
  intro f
  induction f with
  | zero => intro k h; rw [spanN_end p s k (by omega)]; rfl
  | succ f ih =>
    intro k h
    unfold spanG
    by_cases hlt : k < s.size
    · have hb : bt s k = (s[k].toNat : Int) := (bt_at s (k : Int) hlt).symm
      rw [if_pos hlt, hb]
      cases hp : p (s[k].toNat : Int)
      · rw [spanN_miss p s k hlt hp]; simp
      · rw [spanN_hit p s k hlt hp, ih (k + 1) (by omega)]; simp
    · rw [if_neg hlt, spanN_end p s k hlt]

theorem blank_at (s : ByteArray) (k : Nat) (h : k < s.size) : (s[k].toNat : Int) = bt s k := bt_at s (k : Int) h

theorem ex_words : wordsL ⟨#[32, 97, 32, 32, 98, 9]⟩ = [⟨#[97]⟩, ⟨#[98]⟩] := by
  unfold wordsL
  have h1 : ∀ k, spanN blankI ⟨#[32, 97, 32, 32, 98, 9]⟩ k = spanG blankI ⟨#[32, 97, 32, 32, 98, 9]⟩ 6 k := fun k => spanN_G _ _ _ _ (by show 6 ≤ _; omega)
  have h2 : ∀ k, spanN (fun n => !blankI n) ⟨#[32, 97, 32, 32, 98, 9]⟩ k = spanG (fun n => !blankI n) ⟨#[32, 97, 32, 32, 98, 9]⟩ 6 k := fun k => spanN_G _ _ _ _ (by show 6 ≤ _; omega)
  show wordsG _ 7 _ = _
  simp only [wordsG, h1, h2]
  rfl

theorem ex_trim : trimS ⟨#[32, 97, 32, 32, 98, 9]⟩ = ⟨#[97, 32, 32, 98]⟩ := by
  have h1 : spanN blankI ⟨#[32, 97, 32, 32, 98, 9]⟩ 0 = 1 := (spanN_G _ _ 6 _ (by show 6 ≤ _; omega)).trans (by rfl)
  unfold trimS
  rw [h1]
  have h2 : (⟨#[32, 97, 32, 32, 98, 9]⟩ : ByteArray).extract 1 (ByteArray.size ⟨#[32, 97, 32, 32, 98, 9]⟩) = ⟨#[97, 32, 32, 98, 9]⟩ := by rfl
  rw [h2, trimR_hit _ (by decide) (by rfl)]
  have h3 : (⟨#[97, 32, 32, 98, 9]⟩ : ByteArray).extract 0 (ByteArray.size ⟨#[97, 32, 32, 98, 9]⟩ - 1) = ⟨#[97, 32, 32, 98]⟩ := by rfl
  rw [h3, trimR_miss _ (by decide) (by rfl)]

theorem ex_squeeze : squeezeS ⟨#[32, 97, 32, 32, 98, 9]⟩ = ⟨#[97, 32, 98]⟩ := by
  unfold squeezeS
  rw [ex_words]
  rfl

theorem ex_num (a b c : UInt8) (h1 : spanG digitI ⟨#[a, b, c]⟩ 3 0 = 3) (h2 : (a.toNat : Int) ≠ 48) (v : Int) (h3 : Lib.atoiAll [a, b, c] = .ok v) (most : Int) : numF ⟨#[a, b, c]⟩ most = if most < v then (0, 2) else (v, 0) := by
  unfold numF
  have hs : spanN digitI ⟨#[a, b, c]⟩ 0 = 3 := (spanN_G _ _ 3 _ (by show 3 ≤ _; omega)).trans h1
  rw [if_neg]
  · show (match Lib.atoiAll [a, b, c] with | .ok v => if most < v then ((0, 2) : Int × Int) else (v, 0) | _ => (0, 2)) = _
    rw [h3]
  · rw [hs]
    rintro (h | h | h)
    · cases h
    · exact absurd h (by show ¬ 3 < 3; omega)
    · exact h2 h.1

theorem ex_num120 : numF ⟨#[49, 50, 48]⟩ 120 = (120, 0) := by rw [ex_num 49 50 48 (by rfl) (by decide) 120 (by decide)]; rfl
theorem ex_num121 : numF ⟨#[49, 50, 49]⟩ 120 = (0, 2) := by rw [ex_num 49 50 49 (by rfl) (by decide) 121 (by decide)]; rfl
theorem ex_num007 : numF ⟨#[48, 48, 55]⟩ 120 = (0, 3) := by
  unfold numF
  rw [if_pos (Or.inr (Or.inr ⟨by rfl, by decide⟩))]

theorem ex_unhex : unhexF ⟨#[48, 65]⟩ = ([], 3) := by rfl
theorem ex_equal : cmpF ⟨#[82, 101, 58, 32, 65]⟩ ⟨#[82, 69, 58, 32, 97]⟩ = 0 := by rfl
theorem ex_compare : cmpF ⟨#[66]⟩ ⟨#[97]⟩ = 1 := by rfl
theorem ex_index : idxF ⟨#[77, 101, 115, 115, 97, 103, 101, 45, 73, 68]⟩ ⟨#[105, 100]⟩ = 8 := by rfl
theorem ex_digits : (⟨(Lib.itoa (-5)).toArray⟩ : ByteArray) = ⟨#[45, 53]⟩ := by
  unfold Lib.itoa
  rw [if_pos (by decide), Lib.decDigits, dif_pos (by decide)]
  rfl
theorem ex_hex : hexS [0, 171] = ⟨#[48, 48, 97, 98]⟩ := by rfl
theorem ex_print : prF ⟨#[97, 9, 98]⟩ = 1 := by
  have h1 : spanN printI ⟨#[97, 9, 98]⟩ 0 = 1 := (spanN_G _ _ 3 _ (by show 3 ≤ _; omega)).trans (by rfl)
  unfold prF
  rw [h1]
  rfl


theorem lit_C (w : World) : Kd.C (Kd.int .u8) (w.alloc (.cells #[.int .u8 0, .int .u8 171] 5)) (some ⟨w.heap.size, 0, none⟩) ([0, 171] : List Int).length [0, 171] := by
  refine Kd.C_of_reads (enc := Value.int .u8) (d := (0 : Int)) (h1 := fun _ => rfl) ⟨rfl, by decide, fun _ => ⟨_, rfl, fun j hj => ?_⟩⟩
  rw [add_plain, World.cell?_alloc_at _ _ _ _ rfl]
  have : j = 0 ∨ j = 1 := by simp at hj; omega
  rcases this with rfl | rfl <;> rfl

set_option maxHeartbeats 4000000 in
set_option maxRecDepth 100000 in
theorem known_any (w : World) (he : Env w) :
    Calls Tryd.prog 14 #[] w fun e w' => e = .returned (.bool true) ∧ Below w.heap.size w w' := by
  have HE := Aside0.mk he
  clear he
  go_enter Tryd.func14, Tryd.ntmps14
  go_wp2_with fail
  refine (words_any _ _ (by decide)).mono ?_
  rintro e w1 ⟨v, rfl, hR, hb⟩
  rw [ex_words] at hR
  have HR := Aside0.mk hR
  have HB := Aside0.mk hb
  obtain ⟨g, cap, rfl, hg0, hg1, _⟩ := Kd.R_form hR (by decide)
  clear hR hb
  simp only [List.length_cons, List.length_nil]
  go_wp2_with fail
  refine (number_any _ 120 _ (HE.out.below HB.out) (by decide)).mono ?_
  rintro e w2 ⟨rfl, hb⟩
  rw [ex_num120]
  have HB2 := Aside0.mk (HB.out.trans (hb.mono HB.out.size))
  have HR2 := Aside0.mk (Kd.R_below HR.out hb)
  clear hb HB HR
  go_wp2_with fail
  refine (number_any _ 120 _ (HE.out.below HB2.out) (by decide)).mono ?_
  rintro e w3 ⟨rfl, hb⟩
  rw [ex_num121]
  have HB3 := Aside0.mk (HB2.out.trans (hb.mono HB2.out.size))
  have HR3 := Aside0.mk (Kd.R_below HR2.out hb)
  clear hb HB2 HR2
  go_wp2_with fail
  refine (number_any _ 120 _ (HE.out.below HB3.out) (by decide)).mono ?_
  rintro e w4 ⟨rfl, hb⟩
  rw [ex_num007]
  have HB4 := Aside0.mk (HB3.out.trans (hb.mono HB3.out.size))
  have HR4 := Aside0.mk (Kd.R_below HR3.out hb)
  clear hb HB3 HR3
  go_wp2_with fail
  refine (unhex_any _ _ (by decide)).mono ?_
  rintro e w5 ⟨v5, rfl, _, hb⟩
  rw [ex_unhex]
  have HB5 := Aside0.mk (HB4.out.trans (hb.mono HB4.out.size))
  have HR5 := Aside0.mk (Kd.R_below HR4.out hb)
  clear hb HB4 HR4
  go_wp2_with fail
  refine (equalFold_any _ _ _ (by decide) (by decide)).mono ?_
  rintro e w6 ⟨rfl, hb⟩
  rw [ex_equal]
  have HB6 := Aside0.mk (HB5.out.trans (hb.mono HB5.out.size))
  have HR6 := Aside0.mk (Kd.R_below HR5.out hb)
  clear hb HB5 HR5
  go_wp2_with fail
  refine (compareFold_any _ _ _ (by decide) (by decide)).mono ?_
  rintro e w7 ⟨rfl, hb⟩
  rw [ex_compare]
  have HB7 := Aside0.mk (HB6.out.trans (hb.mono HB6.out.size))
  have HR7 := Aside0.mk (Kd.R_below HR6.out hb)
  clear hb HB6 HR6
  go_wp2_with fail
  refine (indexFold_any _ _ _ (HE.out.below HB7.out) (by decide) (by decide)).mono ?_
  rintro e w8 ⟨rfl, hb⟩
  rw [ex_index]
  have HB8 := Aside0.mk (HB7.out.trans (hb.mono HB7.out.size))
  have HR8 := Aside0.mk (Kd.R_below HR7.out hb)
  clear hb HB7 HR7
  go_wp2_with fail
  refine (trim_any _ _ (by decide)).mono ?_
  rintro e w9 ⟨rfl, rfl⟩
  rw [ex_trim]
  have hc1 : w9.cell? ⟨g, 1, none⟩ = some (.string ⟨#[98]⟩) := (Kd.R_cell (enc := Value.string) (h1 := fun _ => rfl) ByteArray.empty HR8.out 1 (by decide) (by decide)).1
  go_wp2_with fail
  refine (squeeze_any _ _ (by decide)).mono ?_
  rintro e w10 ⟨rfl, hb⟩
  rw [ex_squeeze]
  have HB10 := Aside0.mk (HB8.out.trans (hb.mono HB8.out.size))
  clear hb HB8 hc1
  go_wp2_with fail
  refine (digits_any _ _ (HE.out.below HB10.out) (by decide) (by decide)).mono ?_
  rintro e w11 ⟨rfl, hb⟩
  rw [ex_digits]
  have HB11 := Aside0.mk (HB10.out.trans (hb.mono HB10.out.size))
  clear hb HB10
  go_wp2_with fail
  refine (hex_any (some ⟨w11.heap.size, 0, none⟩) 2 [0, 171] _ (lit_C w11) (by decide) (by decide)).mono ?_
  rintro e w12 ⟨rfl, hb⟩
  rw [ex_hex]
  have HB12 := Aside0.mk ((HB11.out.alloc HB11.out.size _).trans (hb.mono (by have := HB11.out.size; simp; omega)))
  clear hb HB11
  go_wp2_with fail
  refine (printable_any _ _ (by decide)).mono ?_
  rintro e w13 ⟨rfl, rfl⟩
  rw [ex_print]
  go_wp2_with fail
  go_ret
  exact ⟨rfl, HB12.out⟩

end Go.Proofs.YtdlfdggmdenalaaDoor
