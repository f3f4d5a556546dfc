/-
  The law AsciiNumber: in a world that holds what the library reads, the call returns true and leaves what was there. For every string and every int.
-/
import Derived.Test.YtdlfdggmdenalaaDoorKN
import Derived.Test.YtdlfdggmdenalaaDoorPAsciiNumberx4
import Derived.OpenShut
namespace Go.Proofs.YtdlfdggmdenalaaDoor
open Go.RowKit Go.Proofs.YtdlfdggmdenalaaDoorW.PrintWords Go.Proofs.YtdlfdggmdenalaaDoorW.PrintMore Go.Proofs.YtdlfdggmdenalaaDoor.PAsciiNumber

theorem digit_f (n : Int) : bulletinref01_Digit.f n = some (digitI n) := by
  unfold bulletinref01_Digit.f digitI
  by_cases h : n ≥ 48
  · rw [if_pos h]; simp [show 48 ≤ n from h]
  · rw [if_neg h]; simp [show ¬ 48 ≤ n from h]

theorem wrap_id (n : Int) (h0 : -9223372036854775808 ≤ n) (h1 : n ≤ 9223372036854775807) : wrap64 n = n := by unfold wrap64; omega

theorem sub48 (c : Nat) (h : 48 ≤ c ∧ c ≤ 57) : wrap64 (wrap64 (c : Int) - 48) = ((c - 48 : Nat) : Int) := by
  have e : wrap64 (c : Int) = (c : Int) := wrap_id (c : Int) (by omega) (by omega)
  rw [e]
  have e2 : wrap64 ((c : Int) - 48) = (c : Int) - 48 := wrap_id ((c : Int) - 48) (by omega) (by omega)
  rw [e2]; omega
theorem quo10 (x : Nat) (h : x ≤ 9) : wrap64 (Int.tdiv (wrap64 (9223372036854775807 - (x : Int))) 10) = (9223372036854775807 - (x : Int)) / 10 := by
  have e : wrap64 (9223372036854775807 - (x : Int)) = 9223372036854775807 - (x : Int) := wrap_id _ (by omega) (by omega)
  rw [e, Int.tdiv_eq_ediv_of_nonneg (by omega)]
  exact wrap_id ((9223372036854775807 - (x : Int)) / 10) (by omega) (by omega)
theorem step10 (n x : Nat) (h : n * 10 + x ≤ 9223372036854775807) : wrap64 (wrap64 (10 * (n : Int)) + (x : Int)) = ((n * 10 + x : Nat) : Int) := by
  have e : wrap64 (10 * (n : Int)) = 10 * (n : Int) := wrap_id _ (by omega) (by omega)
  have e2 : wrap64 (10 * (n : Int) + (x : Int)) = 10 * (n : Int) + (x : Int) := wrap_id _ (by omega) (by omega)
  rw [e, e2]; omega
theorem cmp10 (n x : Nat) (hx : x ≤ 9) : (n : Int) > (9223372036854775807 - (x : Int)) / 10 ↔ 9223372036854775808 ≤ n * 10 + x := by omega

theorem bt_el (s : ByteArray) (i : Nat) (h : i < s.size) : bt s (i : Int) = (s[i].toNat : Int) := (bt_at s (i : Int) h).symm
theorem drop_el (x : ByteArray) (n : Nat) (h : n < x.size) : x.data.toList.drop n = x[n] :: x.data.toList.drop (n + 1) := by
  rw [List.drop_eq_getElem_cons (by rw [data_length]; exact h)]; rfl

theorem rnum_l1 (s : ByteArray) (most : Int) (hs : s.size ≤ 300) (hd : ∀ c ∈ s.data.toList, dig c = true) : ∀ d i k (n : Nat), s.size - i = d → i ≤ s.size → d < k → n ≤ 9223372036854775807 →
    bulletinref01_Number.l1 k s most (n : Int) (i : Int) = some (if val n (s.data.toList.drop i) < 9223372036854775808 ∧ (val n (s.data.toList.drop i) : Int) ≤ most then ((val n (s.data.toList.drop i) : Int), 0) else (0, 2)) := by
  intro d
  induction d with
  | zero =>
    intro i k n h1 h2 h3 h4
    obtain ⟨k, rfl⟩ : ∃ m, k = m + 1 := ⟨k - 1, by omega⟩
    have e : s.data.toList.drop i = [] := List.drop_eq_nil_of_le (by rw [data_length]; omega)
    simp only [bulletinref01_Number.l1]
    rw [if_neg (by omega), e]
    show _ = some (if n < _ ∧ (n : Int) ≤ most then ((n : Int), 0) else (0, 2))
    by_cases h : (n : Int) > most
    · rw [if_pos h, if_neg (by omega)]
    · rw [if_neg h, if_pos (by omega)]
  | succ d ih =>
    intro i k n h1 h2 h3 h4
    obtain ⟨k, rfl⟩ : ∃ m, k = m + 1 := ⟨k - 1, by omega⟩
    have hlt : i < s.size := by omega
    have hc := (dig_iff s[i]).mp (((mem_iff s (fun c => dig c = true)).mp hd) i hlt)
    obtain ⟨c, hcc⟩ : ∃ c, s[i].toNat = c := ⟨_, rfl⟩
    have hsub : wrap64 (wrap64 (bt s (i : Int)) - 48) = ((c - 48 : Nat) : Int) := by
      rw [bt_el s i hlt, hcc]; exact sub48 c (by omega)
    have hq := quo10 (c - 48) (by omega)
    have hcmp := cmp10 n (c - 48) (by omega)
    simp only [bulletinref01_Number.l1]
    rw [if_pos (by omega), if_pos (by omega), hsub, hq, drop_el s i hlt]
    have hv : val n (s[i] :: s.data.toList.drop (i + 1)) = val (n * 10 + (c - 48)) (s.data.toList.drop (i + 1)) := by
      show val (n * 10 + (s[i].toNat - 48)) (s.data.toList.drop (i + 1)) = _
      rw [hcc]
    rw [hv]
    have hge := val_ge (s.data.toList.drop (i + 1)) (n * 10 + (c - 48))
    by_cases h : (n : Int) > (9223372036854775807 - ((c - 48 : Nat) : Int)) / 10
    · have h10 := hcmp.mp h
      rw [if_pos h, if_neg]
      intro hx
      exact absurd hx.1 (Nat.not_lt.mpr (Nat.le_trans h10 hge))
    · have h10 : n * 10 + (c - 48) ≤ 9223372036854775807 := Nat.le_of_lt_succ (Nat.lt_of_not_le (fun h' => h (hcmp.mpr h')))
      rw [if_neg h, step10 n (c - 48) h10, wrap_succ i (by omega)]
      exact ih (i + 1) k (n * 10 + (c - 48)) (by omega) (by omega) (by omega) h10

theorem rnum_l0 (s : ByteArray) (most : Int) (hs : s.size ≤ 300) (hne : s.size ≠ 0) : ∀ d i k, s.size - i = d → i ≤ s.size → d + s.size + 2 < k → (∀ j (hj : j < s.size), j < i → dig s[j] = true) →
    bulletinref01_Number.l0 k s most (i : Int) = some (if (∀ c ∈ s.data.toList, dig c = true) then (if val 0 s.data.toList < 9223372036854775808 ∧ (val 0 s.data.toList : Int) ≤ most then ((val 0 s.data.toList : Int), 0) else (0, 2)) else (0, 3)) := by
  intro d
  induction d with
  | zero =>
    intro i k h1 h2 h3 h4
    obtain ⟨k, rfl⟩ : ∃ m, k = m + 1 := ⟨k - 1, by omega⟩
    have hd : ∀ c ∈ s.data.toList, dig c = true := (mem_iff s (fun c => dig c = true)).mpr (fun j hj => h4 j hj (by omega))
    simp only [bulletinref01_Number.l0]
    rw [if_neg (by omega), if_pos hd]
    have := rnum_l1 s most hs hd s.size 0 k 0 rfl (Nat.zero_le _) (by omega) (by omega)
    rw [List.drop_zero] at this
    exact this
  | succ d ih =>
    intro i k h1 h2 h3 h4
    obtain ⟨k, rfl⟩ : ∃ m, k = m + 1 := ⟨k - 1, by omega⟩
    have hlt : i < s.size := by omega
    simp only [bulletinref01_Number.l0]
    rw [if_pos (by omega), if_pos (by omega), digit_f, bt_el s i hlt]
    simp only [Option.bind_some]
    cases hb : dig s[i]
    · have hb' : digitI (s[i].toNat : Int) = false := hb
      rw [hb', if_neg (by simp), if_neg]
      intro hall
      have := (mem_iff s (fun c => dig c = true)).mp hall i hlt
      rw [hb] at this; cases this
    · have hb' : digitI (s[i].toNat : Int) = true := hb
      rw [hb', if_pos rfl, wrap_succ i (by omega)]
      exact ih (i + 1) k (by omega) (by omega) (by omega) (fun j hj hji => by
        by_cases he : j = i
        · subst he; exact hb
        · exact h4 j hj (by omega))

theorem rnum_f (s : ByteArray) (most : Int) (hs : s.size ≤ 300) : ∃ k, bulletinref01_Number.f k s most = some (numF s most) := by
  refine ⟨2 * s.size + 5, ?_⟩
  unfold bulletinref01_Number.f
  have hk : 2 * s.size + 5 = (2 * s.size + 4) + 1 := rfl
  by_cases h0 : s.size = 0
  · rw [if_pos (by omega), hk, numF_bad s most (Or.inl h0)]
    simp only [bulletinref01_Number.j0]
    rw [if_pos trivial]
  · rw [if_neg (by omega)]
    have main := rnum_l0 s most hs h0 s.size 0 (2 * s.size + 4) rfl (Nat.zero_le _) (by omega) (fun j hj h => by omega)
    by_cases hz : bt s 0 = 48 ∧ 1 < s.size
    · rw [if_pos (by omega), if_pos (by omega), hk, numF_bad s most (Or.inr (Or.inr hz)), hz.1]
      simp only [bulletinref01_Number.j0]
      rw [if_pos (by rfl)]
    · have hm : bulletinref01_Number.l0 (2 * s.size + 4) s most 0 = some (numF s most) := by
        refine main.trans ?_
        by_cases hd : ∀ c ∈ s.data.toList, dig c = true
        · rw [if_pos hd, numF_good s most h0 hd hz]
        · rw [if_neg hd, numF_bad s most (Or.inr (Or.inl hd))]
      by_cases h1 : 1 < s.size
      · have : ¬ bt s 0 = 48 := fun h => hz ⟨h, h1⟩
        have hb : (bt s 0 == 48) = false := by simpa using this
        rw [if_pos (by omega), if_pos (by omega), hb, hk]
        simp only [bulletinref01_Number.j0]
        rw [if_neg (by simp)]
        exact hm
      · rw [if_neg (by omega), hk]
        simp only [bulletinref01_Number.j0]
        rw [if_neg (by simp)]
        exact hm

theorem numF_back (s : ByteArray) (most v : Int) (hs : s.size ≤ 300) (h : numF s most = (v, 0)) : mkB (Lib.itoa v) = s ∧ 0 ≤ v ∧ v ≤ 9223372036854775807 := by
  by_cases hbad : s.size = 0 ∨ ¬ (∀ c ∈ s.data.toList, dig c = true) ∨ (bt s 0 = 48 ∧ 1 < s.size)
  · rw [numF_bad s most hbad] at h
    simp at h
  · have h0 : s.size ≠ 0 := fun h => hbad (Or.inl h)
    have hd : ∀ c ∈ s.data.toList, dig c = true := Classical.not_not.mp fun h => hbad (Or.inr (Or.inl h))
    have hz : ¬ (bt s 0 = 48 ∧ 1 < s.size) := fun h => hbad (Or.inr (Or.inr h))
    rw [numF_good s most h0 hd hz] at h
    by_cases hc : val 0 s.data.toList < 9223372036854775808 ∧ (val 0 s.data.toList : Int) ≤ most
    · rw [if_pos hc] at h
      simp only [Prod.mk.injEq, and_true] at h
      subst h
      refine ⟨?_, by omega, by omega⟩
      have e : Lib.itoa (val 0 s.data.toList : Int) = Lib.decDigits (val 0 s.data.toList) := by unfold Lib.itoa; rw [if_neg (by omega)]; rfl
      rw [e, dec_of_val _ (by intro he; apply h0; rw [← data_length, he]; rfl) hd, mkB_data]
      intro c r hl h48
      have h1 : ¬ 1 < s.size := by
        intro h1
        obtain ⟨c', r', hl', hc'⟩ := bt_head s (by omega)
        rw [hl] at hl'
        obtain ⟨rfl, rfl⟩ := List.cons.inj hl'
        exact hz ⟨by omega, h1⟩
      have : s.data.toList.length = s.size := data_length s
      rw [hl] at this
      simp at this
      exact List.eq_nil_of_length_eq_zero (by omega)
    · rw [if_neg hc] at h
      simp at h

theorem refNumber_any (s : ByteArray) (most x e0 : Int) (w : World) (hs : s.size ≤ 300) (hx : numF s most = (x, e0)) :
    Calls Tryd.prog 31 #[.string s, .int .i64 most] w fun e w' => e = .returned (.tuple #[.int .i64 x, .int .i64 e0]) ∧ Drawn0 w w' := by
  obtain ⟨k, hk⟩ := rnum_f s most hs
  rw [hx] at hk
  exact bulletinref01_Number.calls k s most x e0 w hk

theorem numberAt_any (s : ByteArray) (most x e0 : Int) (w : World) (he : Env w) (hs : s.size ≤ 1000000) (hx : numF s most = (x, e0)) :
    Calls Tryd.prog 29 #[.string s, .int .i64 most] w fun e w' => e = .returned (.tuple #[.int .i64 x, .int .i64 e0]) ∧ Below w.heap.size w w' := by
  have := number_any s most w he hs
  rw [hx] at this
  exact this
theorem digitsAt_any (n : Int) (s : ByteArray) (w : World) (he : Env w) (h0 : 0 ≤ n) (h1 : n ≤ 9223372036854775807) (hs : mkB (Lib.itoa n) = s) :
    Calls Tryd.prog 28 #[.int .i64 n] w fun e w' => e = .returned (.string s) ∧ Below w.heap.size w w' := hs ▸ digits_any n w he (by omega) h1

set_option maxHeartbeats 1600000 in
set_option maxRecDepth 100000 in
theorem asciiNumber_walk (a0 : ByteArray) (w0 : a0.size ≤ 140737488351232) (most : Int) (_w1 : (Lit.int .i64 most).wf = true) (w : World) (he : Env w) :
    Calls Tryd.prog 8 #[.string a0, .int .i64 most] w fun e w' => e = .returned (.bool true) ∧ Below w.heap.size w w' := by
  have HE := Aside0.mk he
  clear he
  obtain ⟨s, hs⟩ : ∃ s, cutS a0 = s := ⟨_, rfl⟩
  have ss : s.size ≤ 300 := hs ▸ cutS_size a0
  have HS := Aside0.mk hs
  clear hs
  obtain ⟨x, e0, hx⟩ : ∃ x e0, numF s most = (x, e0) := ⟨_, _, rfl⟩
  have HX := Aside0.mk hx
  by_cases hz : e0 = 0
  · subst hz
    obtain ⟨hb, h0, h1⟩ := numF_back s most x ss hx
    have HB0 := Aside0.mk hb
    clear hx hb
    go_enter Tryd.func8, Tryd.ntmps8
    go_wp2_with fail
    refine (cut_any a0 _ w0).mono ?_
    rintro e w' ⟨rfl, rfl⟩
    rw [HS.out]
    go_wp2_with fail
    refine (numberAt_any s most x 0 _ HE.out (by omega) HX.out).mono ?_
    rintro e w1 ⟨rfl, hb1⟩
    have HB1 := Aside0.mk hb1
    clear hb1
    go_wp2_with fail
    refine (refNumber_any s most x 0 _ ss HX.out).mono ?_
    rintro e w2 ⟨rfl, ⟨n2, rfl⟩⟩
    have HB2 := Aside0.mk (pw_below_drewN HB1.out n2)
    clear HB1
    go_wp2_with fail
    refine (known_any _ (HE.out.below HB2.out)).mono ?_
    rintro e w3 ⟨rfl, hb3⟩
    have HB3 := Aside0.mk (HB2.out.trans (hb3.mono HB2.out.size))
    clear hb3 HB2
    go_wp2_with fail
    refine (digitsAt_any x s _ (HE.out.below HB3.out) h0 h1 HB0.out).mono ?_
    rintro e w4 ⟨rfl, hb4⟩
    have HB4 := Aside0.mk (HB3.out.trans (hb4.mono HB3.out.size))
    clear hb4 HB3
    go_wp2_with fail
    go_ret
    exact ⟨rfl, HB4.out⟩
  · have hz2 : (e0 != 0) = true := by simpa using hz
    clear hx
    go_enter Tryd.func8, Tryd.ntmps8
    go_wp2_with fail
    refine (cut_any a0 _ w0).mono ?_
    rintro e w' ⟨rfl, rfl⟩
    rw [HS.out]
    go_wp2_with fail
    refine (numberAt_any s most x e0 _ HE.out (by omega) HX.out).mono ?_
    rintro e w1 ⟨rfl, hb1⟩
    have HB1 := Aside0.mk hb1
    clear hb1
    go_wp2_with fail
    refine (refNumber_any s most x e0 _ ss HX.out).mono ?_
    rintro e w2 ⟨rfl, ⟨n2, rfl⟩⟩
    have HB2 := Aside0.mk (pw_below_drewN HB1.out n2)
    clear HB1
    go_wp2_with fail
    refine (known_any _ (HE.out.below HB2.out)).mono ?_
    rintro e w3 ⟨rfl, hb3⟩
    have HB3 := Aside0.mk (HB2.out.trans (hb3.mono HB2.out.size))
    clear hb3 HB2
    go_wp2_with fail
    go_ret
    exact ⟨rfl, HB3.out⟩

end Go.Proofs.YtdlfdggmdenalaaDoor
