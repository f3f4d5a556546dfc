/-
  The law AsciiUnhex: in a world that holds what the library reads, the call returns true and leaves what was there. For every string.
-/
import Derived.Test.YtdlfdggmdenalaaDoorKH
import Derived.Test.YtdlfdggmdenalaaDoorKC
import Derived.Test.YtdlfdggmdenalaaDoorPAsciiUnhexx4
import Derived.OpenShut
namespace Go.Proofs.YtdlfdggmdenalaaDoor
open Go.RowKit Go.Proofs.YtdlfdggmdenalaaDoorW.PrintWords Go.Proofs.YtdlfdggmdenalaaDoorW.PrintMore Go.Proofs.YtdlfdggmdenalaaDoor.PAsciiUnhex

theorem nibble_f (n : Int) (h0 : 0 ≤ n) (h1 : n ≤ 255) : bulletinref01_nibble.f n = some (nib n) := by
  have w1 : wrap64 n = n := by unfold wrap64; omega
  have w2 : wrap64 (n - 48) = n - 48 := by unfold wrap64; omega
  have w3 : wrap64 (n - 87) = n - 87 := by unfold wrap64; omega
  unfold bulletinref01_nibble.f bulletinref01_Digit.f nib
  rw [w1, w2, w3]
  by_cases a : n ≥ 48
  · rw [if_pos a]
    simp only [Option.bind_some, decide_eq_true_eq]
    by_cases b : n ≤ 57
    · rw [if_pos b, if_pos ⟨a, b⟩]
    · rw [if_neg b]
      by_cases c : n ≥ 97
      · rw [if_pos c]
        by_cases d : n ≤ 102
        · rw [if_pos d, if_neg (fun h => b h.2), if_pos ⟨c, d⟩]
        · rw [if_neg d, if_neg (fun h => b h.2), if_neg (fun h => d h.2)]
      · rw [if_neg c, if_neg (fun h => b h.2), if_neg (fun h => c h.1)]
  · rw [if_neg a]
    simp only [Option.bind_some]
    rw [if_neg (by simp), if_neg (by omega), if_neg (fun h => a h.1), if_neg (by omega)]

theorem two_nib (a b : Int) (ha : 0 ≤ a) (ha2 : a < 16) (hb : 0 ≤ b) (hb2 : b < 16) : wrap64 (wrap64 (16 * a) + b) % 256 = a * 16 + b := by
  have e1 : wrap64 (16 * a) = 16 * a := by unfold wrap64; omega
  have e2 : wrap64 (16 * a + b) = 16 * a + b := by unfold wrap64; omega
  rw [e1, e2]; omega

theorem wrap_two (i : Nat) (h : i ≤ 300) : wrap64 ((i : Int) + 2) = ((i + 2 : Nat) : Int) := by unfold wrap64; omega

theorem runhex_l0 (s : ByteArray) (hs : s.size ≤ 300) (hev : s.size % 2 = 0) : ∀ n i acc k f, s.size ≤ i + 2 * n → n < k → n < f → i ≤ s.size → i % 2 = 0 → acc.length ≤ i →
    bulletinref01_Unhex.l0 k s acc (i : Int) = some (unhexG s f i acc) := by
  intro n
  induction n with
  | zero =>
    intro i acc k f h1 h2 h3 h4 h5 h6
    obtain ⟨k, rfl⟩ : ∃ m, k = m + 1 := ⟨k - 1, by omega⟩
    obtain ⟨f, rfl⟩ : ∃ m, f = m + 1 := ⟨f - 1, by omega⟩
    simp only [bulletinref01_Unhex.l0, unhexG]
    rw [if_neg (by omega), if_neg (by omega)]
  | succ n ih =>
    intro i acc k f h1 h2 h3 h4 h5 h6
    obtain ⟨k, rfl⟩ : ∃ m, k = m + 1 := ⟨k - 1, by omega⟩
    obtain ⟨f, rfl⟩ : ∃ m, f = m + 1 := ⟨f - 1, by omega⟩
    simp only [bulletinref01_Unhex.l0, unhexG]
    by_cases hlt : i < s.size
    · have hlt2 : i + 1 < s.size := by omega
      have r1 := bt_range s (i : Int)
      have r2 := bt_range s ((i + 1 : Nat) : Int)
      rw [if_pos (by omega), if_pos (by omega), if_pos hlt, wrap_succ i (by omega), wrap_two i (by omega), nibble_f _ r1.1 r1.2, nibble_f _ r2.1 r2.2, valI_nib _ r1.1 r1.2, valI_nib _ r2.1 r2.2]
      have n1 := nib_lt (bt s (i : Int))
      have n2 := nib_lt (bt s ((i + 1 : Nat) : Int))
      generalize nib (bt s (i : Int)) = a at n1 ⊢
      generalize nib (bt s ((i + 1 : Nat) : Int)) = b at n2 ⊢
      simp only [Option.bind_some]
      rw [if_pos (by omega), if_pos (by omega)]
      by_cases ha : a < 0
      · rw [if_pos ha, if_pos (Or.inl ha)]
      · rw [if_neg ha]
        by_cases hb : b < 0
        · rw [if_pos hb, if_pos (Or.inr hb)]
        · rw [if_neg hb, if_pos (by omega), if_neg (by omega), two_nib a b (by omega) n1 (by omega) n2]
          exact ih (i + 2) _ k f (by omega) (by omega) (by omega) (by omega) (by omega) (by simp; omega)
    · rw [if_neg (by omega), if_neg hlt]

theorem refUnhex_any (s : ByteArray) (l : List Int) (e0 : Int) (w : World) (hs : s.size ≤ 300) (hu : unhexF s = (l, e0)) :
    Calls Tryd.prog 35 #[.string s] w fun e w' => ∃ v, e = .returned (.tuple #[v, .int .i64 e0]) ∧ Kd.R (Kd.int .u8) 5 w' w.heap.size (fun _ => True) v l ∧ Below w.heap.size w w' := by
  refine bulletinref01_Unhex.calls (s.size + 1) s l e0 w ?_
  unfold bulletinref01_Unhex.f
  rw [← hu]
  unfold unhexF
  by_cases h : s.size % 2 = 1
  · rw [if_pos (by omega), if_pos h]
  · rw [if_neg (by omega), if_neg h]
    exact runhex_l0 s hs (by omega) s.size 0 [] (s.size + 1) (s.size + 1) (by omega) (by omega) (by omega) (Nat.zero_le _) rfl (Nat.le_refl _)

theorem unhexOf_any (s : ByteArray) (l : List Int) (e0 : Int) (w : World) (hs : s.size ≤ 1000000) (hu : unhexF s = (l, e0)) :
    Calls Tryd.prog 33 #[.string s] w fun e w' => ∃ v, e = .returned (.tuple #[v, .int .i64 e0]) ∧ Kd.R (Kd.int .u8) 5 w' w.heap.size (fun _ => True) v l ∧ Below w.heap.size w w' := by
  have := unhex_any s w hs
  rw [hu] at this
  exact this

theorem hexOf_any (A : Option Addr) (c m : Nat) (s : ByteArray) (l : List Int) (w : World) (hm : m = l.length) (hC : Kd.C (Kd.int .u8) w A l.length l) (hb : ∀ x ∈ l, 0 ≤ x ∧ x ≤ 255) (hl : l.length ≤ 1000000) (hs : hexS l = s) :
    Calls Tryd.prog 32 #[.slice A m c] w fun e w' => e = .returned (.string s) ∧ Below w.heap.size w w' := by
  subst hm hs
  exact hex_any A c l w hC hb hl

set_option maxHeartbeats 1600000 in
set_option maxRecDepth 100000 in
theorem asciiUnhex_walk (a0 : ByteArray) (w0 : a0.size ≤ 140737488351232) (w : World) (he : Env w) :
    Calls Tryd.prog 10 #[.string a0] w fun e w' => e = .returned (.bool true) ∧ Below w.heap.size w w' := by
  have HE := Aside0.mk he
  clear he
  obtain ⟨s, hs⟩ : ∃ s, cutS a0 = s := ⟨_, rfl⟩
  have ss : s.size ≤ 300 := hs ▸ cutS_size a0
  have HS := Aside0.mk hs
  clear hs
  obtain ⟨l, e0, hx⟩ : ∃ l e0, unhexF s = (l, e0) := ⟨_, _, rfl⟩
  have HX := Aside0.mk hx
  have hback := hexS_unhexF s l
  by_cases hz : e0 = 0
  · subst hz
    have HK := Aside0.mk (hback hx)
    clear hx hback
    go_enter Tryd.func10, Tryd.ntmps10
    go_wp2_with fail
    refine (cut_any a0 _ w0).mono ?_
    rintro e w' ⟨rfl, rfl⟩
    rw [HS.out]
    go_wp2_with fail
    refine (unhexOf_any s l 0 _ (by omega) HX.out).mono ?_
    rintro e w1 ⟨v1, rfl, hr1, hb1⟩
    have HR1 := Aside0.mk hr1
    have HB1 := Aside0.mk hb1
    clear hb1 hr1
    go_wp2_with fail
    refine (refUnhex_any s l 0 _ ss HX.out).mono ?_
    rintro e w2 ⟨v2, rfl, hr2, hb2⟩
    have HR2 := Aside0.mk hr2
    have HQ2 := Aside0.mk (Kd.R_below HR1.out hb2)
    have HB2 := Aside0.mk (HB1.out.trans (hb2.mono HB1.out.size))
    clear hr2 hb2 HB1 HR1
    have hc1 := own_string (P := Tryd.prog) Tryd.underlying39 Tryd.underlying5 Tryd.underlying9 (Kd.own_of_R HR2.out)
    have hc2 := own_string (P := Tryd.prog) Tryd.underlying39 Tryd.underlying5 Tryd.underlying9 (Kd.own_of_R HQ2.out)
    go_wp2_with fail
    clear hc1 hc2
    refine (known_any _ (HE.out.below HB2.out)).mono ?_
    rintro e w3 ⟨rfl, hb3⟩
    have HQ3 := Aside0.mk (Kd.R_below HQ2.out hb3)
    have HB3 := Aside0.mk (HB2.out.trans (hb3.mono HB2.out.size))
    clear hb3 HB2 HR2 HQ2
    obtain ⟨A1, c1, rfl, hcap, hC⟩ := Kd.R_reads HQ3.out
    have HC := Aside0.mk hC
    clear hC
    go_wp2_with fail
    refine (hexOf_any A1 c1 _ s l _ rfl HC.out HK.out.2.1 (by have := HK.out.2.2; omega) HK.out.1).mono ?_
    rintro e w4 ⟨rfl, hb4⟩
    have HB4 := Aside0.mk (HB3.out.trans (hb4.mono HB3.out.size))
    clear hb4 HB3
    go_wp2_with fail
    go_ret
    exact ⟨rfl, HB4.out⟩
  · have hz2 : (e0 != 0) = true := by simpa using hz
    clear hx hback
    go_enter Tryd.func10, Tryd.ntmps10
    go_wp2_with fail
    refine (cut_any a0 _ w0).mono ?_
    rintro e w' ⟨rfl, rfl⟩
    rw [HS.out]
    go_wp2_with fail
    refine (unhexOf_any s l e0 _ (by omega) HX.out).mono ?_
    rintro e w1 ⟨v1, rfl, hr1, hb1⟩
    have HR1 := Aside0.mk hr1
    have HB1 := Aside0.mk hb1
    clear hb1 hr1
    go_wp2_with fail
    refine (refUnhex_any s l e0 _ ss HX.out).mono ?_
    rintro e w2 ⟨v2, rfl, hr2, hb2⟩
    have HR2 := Aside0.mk hr2
    have HQ2 := Aside0.mk (Kd.R_below HR1.out hb2)
    have HB2 := Aside0.mk (HB1.out.trans (hb2.mono HB1.out.size))
    clear hr2 hb2 HB1 HR1
    have hc1 := own_string (P := Tryd.prog) Tryd.underlying39 Tryd.underlying5 Tryd.underlying9 (Kd.own_of_R HR2.out)
    have hc2 := own_string (P := Tryd.prog) Tryd.underlying39 Tryd.underlying5 Tryd.underlying9 (Kd.own_of_R HQ2.out)
    go_wp2_with fail
    clear hc1 hc2
    refine (known_any _ (HE.out.below HB2.out)).mono ?_
    rintro e w3 ⟨rfl, hb3⟩
    have HB3 := Aside0.mk (HB2.out.trans (hb3.mono HB2.out.size))
    clear hb3 HB2 HR2 HQ2
    go_wp2_with fail
    go_ret
    exact ⟨rfl, HB3.out⟩

end Go.Proofs.YtdlfdggmdenalaaDoor
