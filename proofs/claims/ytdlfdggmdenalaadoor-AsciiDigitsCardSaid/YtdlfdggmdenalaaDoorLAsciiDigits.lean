/-
  The law AsciiDigits: in a world that holds what the library reads, the call returns true and leaves what was there. For every int.
-/
import Derived.Test.YtdlfdggmdenalaaDoorKN
import Derived.Test.YtdlfdggmdenalaaDoorPAsciiDigitsx4
import Derived.OpenShut
namespace Go.Proofs.YtdlfdggmdenalaaDoor
open Go.RowKit Go.Proofs.YtdlfdggmdenalaaDoorW.PrintWords Go.Proofs.YtdlfdggmdenalaaDoorW.PrintMore Go.Proofs.YtdlfdggmdenalaaDoor.PAsciiDigits

theorem u64_wrap (n : Int) (h0 : 0 ≤ n) (h1 : n < 18446744073709551616) : IntKind.u64.wrap n = n := by
  simp only [IntKind.wrap, IntKind.bits, IntKind.signed]
  simp; omega

theorem append_data' (a b : ByteArray) : (a ++ b).data.toList = a.data.toList ++ b.data.toList := by rw [ByteArray.data_append, Array.toList_append]

theorem plain_f : ∀ (u k : Nat), u < 18446744073709551616 → u < k → bulletinref01_plain.f k (u : Int) = some (mkB (Lib.decDigits u)) ∧ (Lib.decDigits u).length ≤ u / 10 + 2 := by
  intro u
  induction u using Nat.strongRecOn with
  | ind u ih =>
    intro k hu hk
    obtain ⟨k, rfl⟩ : ∃ m, k = m + 1 := ⟨k - 1, by omega⟩
    simp only [bulletinref01_plain.f]
    rw [Lib.decDigits]
    by_cases h : u < 10
    · rw [if_pos (by omega), dif_pos h, u64_wrap _ (by omega) (by omega)]
      refine ⟨?_, by simp⟩
      have e : (48 + (u : Int)) % 256 = ((48 + u : Nat) : Int) := by omega
      rw [e]; rfl
    · rw [if_neg (by omega), dif_neg h]
      have e1 : Int.tdiv (u : Int) 10 = ((u / 10 : Nat) : Int) := by rw [Int.tdiv_eq_ediv_of_nonneg (by omega)]; omega
      have e2 : Int.tmod (u : Int) 10 = ((u % 10 : Nat) : Int) := by rw [Int.tmod_eq_emod_of_nonneg (by omega)]; omega
      obtain ⟨h1, h2⟩ := ih (u / 10) (by omega) k (by omega) (by omega)
      rw [e1, e2, u64_wrap _ (by omega) (by omega), h1]
      simp only [Option.bind_some]
      rw [u64_wrap _ (by omega) (by omega)]
      have e3 : (48 + ((u % 10 : Nat) : Int)) % 256 = ((48 + u % 10 : Nat) : Int) := by omega
      rw [e3, if_pos (by rw [mkB_size, strOfNums_size]; simp; omega)]
      refine ⟨?_, by simp; omega⟩
      congr 1

theorem refDigits_f (n : Int) (h0 : -9223372036854775808 ≤ n) (h1 : n ≤ 9223372036854775807) : ∃ k, bulletinref01_Digits.f k n = some (mkB (Lib.itoa n)) := by
  unfold bulletinref01_Digits.f Lib.itoa
  by_cases h : n < 0
  · have e1 : wrap64 (n + 1) = n + 1 := by unfold wrap64; omega
    have e2 : wrap64 (-(n + 1)) = -(n + 1) := by unfold wrap64; omega
    have e3 : IntKind.u64.wrap (-(n + 1)) = -(n + 1) := u64_wrap _ (by omega) (by omega)
    have e4 : IntKind.u64.wrap (-(n + 1) + 1) = (n.natAbs : Int) := by rw [u64_wrap _ (by omega) (by omega)]; omega
    obtain ⟨h2, h3⟩ := plain_f n.natAbs (n.natAbs + 1) (by omega) (by omega)
    refine ⟨n.natAbs + 1, ?_⟩
    rw [if_pos h, if_pos h, e1, e2, e3, e4, h2]
    simp only [Option.bind_some]
    rw [if_pos (by rw [mkB_size]; omega)]
    congr 1
  · have e4 : IntKind.u64.wrap n = (n.toNat : Int) := by rw [u64_wrap _ (by omega) (by omega)]; omega
    obtain ⟨h2, h3⟩ := plain_f n.toNat (n.toNat + 1) (by omega) (by omega)
    refine ⟨n.toNat + 1, ?_⟩
    rw [if_neg h, if_neg h, e4, h2]
    rfl

theorem refDigits_any (n : Int) (w : World) (h0 : -9223372036854775808 ≤ n) (h1 : n ≤ 9223372036854775807) :
    Calls Tryd.prog 30 #[.int .i64 n] w fun e w' => e = .returned (.string (mkB (Lib.itoa n))) ∧ Below w.heap.size w w' := by
  obtain ⟨k, hk⟩ := refDigits_f n h0 h1
  exact bulletinref01_Digits.calls k n _ w hk

theorem num_neg (n : Int) (h : n < 0) : numF (mkB (Lib.itoa n)) 9223372036854775807 = (0, 3) := by
  apply numF_bad
  refine Or.inr (Or.inl ?_)
  intro ha
  have := ha 45 (by rw [data_mkB]; unfold Lib.itoa; rw [if_pos h]; simp)
  revert this; decide

theorem num_pos (n : Int) (h : 0 ≤ n) (h1 : n ≤ 9223372036854775807) : numF (mkB (Lib.itoa n)) 9223372036854775807 = (n, 0) := by
  have e : Lib.itoa n = Lib.decDigits n.toNat := by unfold Lib.itoa; rw [if_neg (by omega)]
  have hv : val 0 (mkB (Lib.itoa n)).data.toList = n.toNat := by rw [data_mkB, e, dec_val]
  rw [numF_good, hv]
  · rw [if_pos (by omega)]
    have : (n.toNat : Int) = n := by omega
    rw [this]
  · rw [mkB_size, e]
    intro h0
    exact dec_ne _ (List.eq_nil_of_length_eq_zero h0)
  · rw [data_mkB, e]; exact dec_digits _
  · rintro ⟨h48, hlen⟩
    rw [mkB_size, e] at hlen
    obtain ⟨c, r, hl, hc⟩ := bt_head (mkB (Lib.itoa n)) (by rw [mkB_size, e]; omega)
    rw [data_mkB, e] at hl
    have hz := dec_head n.toNat c (by rw [hl]; rfl) (by omega)
    rw [hz, Lib.decDigits, dif_pos (by omega)] at hlen
    simp at hlen


theorem digitsTo_any (n : Int) (s : ByteArray) (w : World) (he : Env w) (h0 : -9223372036854775808 ≤ n) (h1 : n ≤ 9223372036854775807) (hs : mkB (Lib.itoa n) = s) :
    Calls Tryd.prog 28 #[.int .i64 n] w fun e w' => e = .returned (.string s) ∧ Below w.heap.size w w' := hs ▸ digits_any n w he h0 h1
theorem refDigitsTo_any (n : Int) (s : ByteArray) (w : World) (h0 : -9223372036854775808 ≤ n) (h1 : n ≤ 9223372036854775807) (hs : mkB (Lib.itoa n) = s) :
    Calls Tryd.prog 30 #[.int .i64 n] w fun e w' => e = .returned (.string s) ∧ Below w.heap.size w w' := hs ▸ refDigits_any n w h0 h1
theorem numberTo_any (s : ByteArray) (most x e0 : Int) (w : World) (he : Env w) (hs : s.size ≤ 1000000) (hx : numF s most = (x, e0)) :
    Calls Tryd.prog 29 #[.string s, .int .i64 most] w fun e w' => e = .returned (.tuple #[.int .i64 x, .int .i64 e0]) ∧ Below w.heap.size w w' := by
  have := number_any s most w he hs
  rw [hx] at this
  exact this

theorem itoa_size (n : Int) (h0 : -9223372036854775808 ≤ n) (h1 : n ≤ 9223372036854775807) : (mkB (Lib.itoa n)).size ≤ 1000000 := by
  have key : ∀ d u, u < 10 ^ (d + 1) → (Lib.decDigits u).length ≤ d + 1 := by
    intro d
    induction d with
    | zero => intro u hu; rw [Lib.decDigits, dif_pos (by simpa using hu)]; simp
    | succ d ih =>
      intro u hu
      rw [Lib.decDigits]
      by_cases h : u < 10
      · rw [dif_pos h]; simp
      · rw [dif_neg h]
        have := ih (u / 10) (by rw [Nat.pow_succ] at hu; omega)
        simp; omega
  rw [mkB_size]
  unfold Lib.itoa
  split
  · have := key 18 n.natAbs (by have : (10 : Nat) ^ (18 + 1) = 10000000000000000000 := by decide
                                omega)
    simp; omega
  · have := key 18 n.toNat (by have : (10 : Nat) ^ (18 + 1) = 10000000000000000000 := by decide
                               omega)
    omega

set_option maxHeartbeats 1600000 in
set_option maxRecDepth 100000 in
theorem asciiDigits_walk (n : Int) (w0 : (Lit.int .i64 n).wf = true) (w : World) (he : Env w) :
    Calls Tryd.prog 7 #[.int .i64 n] w fun e w' => e = .returned (.bool true) ∧ Below w.heap.size w w' := by
  have HE := Aside0.mk he
  clear he
  obtain ⟨h0, h1⟩ := bounds_i64 w0
  clear w0
  have ss := itoa_size n h0 h1
  have hneg := num_neg n
  have hpos := fun h => num_pos n h h1
  obtain ⟨s, hs⟩ : ∃ s, mkB (Lib.itoa n) = s := ⟨_, rfl⟩
  rw [hs] at ss hneg hpos
  have HS := Aside0.mk hs
  clear hs
  by_cases hn : n < 0
  · have HN := Aside0.mk (hneg hn)
    clear hneg hpos
    go_enter Tryd.func7, Tryd.ntmps7
    go_wp2_with fail
    refine (digitsTo_any n s _ HE.out h0 h1 HS.out).mono ?_
    rintro e w1 ⟨rfl, hb1⟩
    have HB1 := Aside0.mk hb1
    clear hb1
    go_wp2_with fail
    refine (numberTo_any s _ 0 3 _ (HE.out.below HB1.out) ss HN.out).mono ?_
    rintro e w2 ⟨rfl, hb2⟩
    have HB2 := Aside0.mk (HB1.out.trans (hb2.mono HB1.out.size))
    clear hb2 HB1
    go_wp2_with fail
    refine (refDigitsTo_any n s _ h0 h1 HS.out).mono ?_
    rintro e w3 ⟨rfl, hb3⟩
    have HB3 := Aside0.mk (HB2.out.trans (hb3.mono HB2.out.size))
    clear hb3 HB2
    go_wp2_with fail
    refine (known_any _ (HE.out.below HB3.out)).mono ?_
    rintro e w4 ⟨rfl, hb4⟩
    have HB4 := Aside0.mk (HB3.out.trans (hb4.mono HB3.out.size))
    clear hb4 HB3
    go_wp2_with fail
    go_ret
    exact ⟨rfl, HB4.out⟩
  · have HN := Aside0.mk (hpos (by omega))
    clear hneg hpos
    go_enter Tryd.func7, Tryd.ntmps7
    go_wp2_with fail
    refine (digitsTo_any n s _ HE.out h0 h1 HS.out).mono ?_
    rintro e w1 ⟨rfl, hb1⟩
    have HB1 := Aside0.mk hb1
    clear hb1
    go_wp2_with fail
    refine (numberTo_any s _ n 0 _ (HE.out.below HB1.out) ss HN.out).mono ?_
    rintro e w2 ⟨rfl, hb2⟩
    have HB2 := Aside0.mk (HB1.out.trans (hb2.mono HB1.out.size))
    clear hb2 HB1
    go_wp2_with fail
    refine (refDigitsTo_any n s _ h0 h1 HS.out).mono ?_
    rintro e w3 ⟨rfl, hb3⟩
    have HB3 := Aside0.mk (HB2.out.trans (hb3.mono HB2.out.size))
    clear hb3 HB2
    go_wp2_with fail
    refine (known_any _ (HE.out.below HB3.out)).mono ?_
    rintro e w4 ⟨rfl, hb4⟩
    have HB4 := Aside0.mk (HB3.out.trans (hb4.mono HB3.out.size))
    clear hb4 HB3
    go_wp2_with fail
    go_ret
    exact ⟨rfl, HB4.out⟩

end Go.Proofs.YtdlfdggmdenalaaDoor
