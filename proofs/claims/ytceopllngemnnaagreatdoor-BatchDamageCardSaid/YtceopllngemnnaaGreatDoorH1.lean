/-
  The identity of a text, in the document's answer: what the call returns. For texts of up to a million bytes.
-/
import Derived.Test.YtceopllngemnnaaGreatDoorME
set_option linter.unusedVariables false
set_option linter.unusedSimpArgs false
namespace Go.Proofs.YtceopllngemnnaaGreatDoor
open Go.RowKit Go.Proofs.YtceopllngemnnaaGreatDoorW.PrintWords Go.Proofs.YtceopllngemnnaaGreatDoorW.PrintLast Go.Proofs.YtceopllngemnnaaGreatDoorW.PrintMore Go.Proofs.YtceopllngemnnaaGreatDoor.PRef

theorem wrap_small (z : Int) (h1 : -100000 ≤ z) (h2 : z ≤ 100000) : wrap64 z = z := by unfold wrap64; omega
theorem rdigit_f (b : Int) (h0 : 0 ≤ b) (h1 : b ≤ 255) : bulletinref11_digit.f 1 b = some (nib b) := by
  unfold bulletinref11_digit.f
  simp only [bulletinref11_digit.j0]
  by_cases c1 : 48 ≤ b
  · rw [if_pos c1]
    by_cases c2 : b ≤ 57
    · rw [if_pos (by simpa using c2), wrap_small b (by omega) (by omega), wrap_small (b - 48) (by omega) (by omega)]
      unfold nib; rw [if_pos ⟨c1, c2⟩]
    · rw [if_neg (by simpa using c2)]
      by_cases c3 : 97 ≤ b
      · rw [if_pos c3]
        by_cases c4 : b ≤ 102
        · rw [if_pos c4, wrap_small b (by omega) (by omega), wrap_small (b - 97) (by omega) (by omega), wrap_small _ (by omega) (by omega)]
          unfold nib; rw [if_neg (by omega), if_pos ⟨c3, c4⟩]
          congr 1; omega
        · rw [if_neg c4]
          unfold nib; rw [if_neg (by omega), if_neg (by omega)]
      · rw [if_neg c3]
        unfold nib; rw [if_neg (by omega), if_neg (by omega)]
  · rw [if_neg c1, if_neg (by simp), if_neg (by omega)]
    unfold nib; rw [if_neg (by omega), if_neg (by omega)]
theorem rdigit_any (b v : Int) (h0 : 0 ≤ b) (h1 : b ≤ 255) (hv : nib b = v) (W : World) : Calls Tryz.prog 88 #[.int .u8 b] W fun e w' => e = .returned (.int .i64 v) ∧ ∃ n, w' = W.drewN n :=
  (bulletinref11_digit.calls 1 b v W (by rw [← hv]; exact rdigit_f b h0 h1)).mono fun _ _ ⟨h, ⟨m, hm⟩⟩ => ⟨h, m, hm⟩

/-- The identity as far as i bytes have been read. -/
def pidP (s : ByteArray) (i : Nat) : List Int := (List.range 32).map fun j => if 2 * j + 2 < i then nib (bt s ((2 * j + 1 : Nat) : Int)) * 16 + nib (bt s ((2 * j + 2 : Nat) : Int)) else if 2 * j + 1 < i then nib (bt s ((2 * j + 1 : Nat) : Int)) else 0
theorem pidP_zero (s : ByteArray) : pidP s 0 = zId := by
  unfold pidP zId
  rw [List.eq_replicate_iff]
  refine ⟨by simp, fun b hb => ?_⟩
  obtain ⟨j, _, rfl⟩ := List.mem_map.mp hb
  rw [if_neg (by omega), if_neg (by omega)]
theorem pidP_one (s : ByteArray) : pidP s 1 = zId := by
  unfold pidP zId
  rw [List.eq_replicate_iff]
  refine ⟨by simp, fun b hb => ?_⟩
  obtain ⟨j, _, rfl⟩ := List.mem_map.mp hb
  rw [if_neg (by omega), if_neg (by omega)]
theorem pidP_full (s : ByteArray) (i : Nat) (h : 65 ≤ i) : pidP s i = pidF s := by
  unfold pidP pidF
  refine List.map_congr_left fun j hj => ?_
  have hj' : j < 32 := by simpa using hj
  rw [if_pos (by omega)]
theorem pidP_length (s : ByteArray) (i : Nat) : (pidP s i).length = 32 := by simp [pidP]
def pold (s : ByteArray) (k : Nat) : Int := if k % 2 = 0 then nib (bt s ((k - 1 : Nat) : Int)) else 0
theorem u8s_get (l : List Int) (j : Nat) : (u8s l)[j]? = (l[j]?).map (Value.int .u8) := by simp [u8s, nums]
theorem pidP_at (s : ByteArray) (k j : Nat) (h1 : 1 ≤ k) (h2 : k ≤ 64) (hj : (k - 1) / 2 = j) : (u8s (pidP s k))[j]? = some (.int .u8 (pold s k)) := by
  rw [u8s_get]
  unfold pidP pold
  rw [List.getElem?_map, List.getElem?_range (by omega)]
  by_cases h : k % 2 = 0
  · simp only [Option.map_some]
    rw [if_pos h, if_neg (by omega), if_pos (by omega)]
    have : 2 * j + 1 = k - 1 := by omega
    rw [this]
  · simp only [Option.map_some]
    rw [if_neg h, if_neg (by omega), if_neg (by omega)]
theorem pidP_step (s : ByteArray) (k j : Nat) (h1 : 1 ≤ k) (h2 : k ≤ 64) (hj : (k - 1) / 2 = j) : u8s (pidP s (k + 1)) = (u8s (pidP s k)).setIfInBounds j (.int .u8 (pold s k * 16 + nib (bt s (k : Int)))) := by
  apply Array.ext_getElem?
  intro m
  rw [Array.getElem?_setIfInBounds, u8s_get, u8s_get, u8s_size, pidP_length]
  by_cases hm : j = m
  · subst hm
    rw [if_pos rfl, if_pos (by omega)]
    unfold pidP pold
    rw [List.getElem?_map, List.getElem?_range (by omega)]
    simp only [Option.map_some]
    by_cases h : k % 2 = 0
    · rw [if_pos h, if_pos (by omega)]
      have e1 : 2 * j + 1 = k - 1 := by omega
      have e2 : 2 * j + 2 = k := by omega
      rw [e1, e2]
    · rw [if_neg h, if_neg (by omega), if_pos (by omega)]
      have e1 : 2 * j + 1 = k := by omega
      rw [e1]
      congr 2; omega
  · rw [if_neg hm]
    congr 1
    unfold pidP
    rw [List.getElem?_map, List.getElem?_map]
    by_cases hm2 : m < 32
    · rw [List.getElem?_range hm2]
      simp only [Option.map_some]
      by_cases a : 2 * m + 2 < k
      · rw [if_pos a, if_pos (by omega)]
      · rw [if_neg a, if_neg (by omega)]
        by_cases b : 2 * m + 1 < k
        · exfalso; omega
        · rw [if_neg b, if_neg (by omega)]
    · rw [List.getElem?_eq_none (by simp; omega)]
      rfl
theorem pold_range (s : ByteArray) (k : Nat) (h1 : 1 ≤ k) (h2 : k ≤ 64) (h : ∀ p, p < k → goodB s p) : 0 ≤ pold s k ∧ pold s k ≤ 15 := by
  unfold pold
  by_cases e : k % 2 = 0
  · rw [if_pos e]
    have := h (k - 1) (by omega)
    unfold goodB at this
    rw [if_neg (by omega), if_pos (by omega)] at this
    have h3 := nib_lt (bt s ((k - 1 : Nat) : Int))
    omega
  · rw [if_neg e]; omega
theorem u8_small (v : Int) (h0 : 0 ≤ v) (h1 : v ≤ 255) : IntKind.u8.wrap v = v := by
  unfold IntKind.wrap; simp [IntKind.signed, IntKind.bits]; omega
set_option maxHeartbeats 4000000 in
set_option maxRecDepth 100000 in
theorem rparse_ok (s : ByteArray) (i : List Int) (W : World) (hp : parseF s = some i) :
    Calls Tryz.prog 72 #[.string s] W fun r w' => r = .returned (.tuple #[.agg (u8s i), .int .i64 0, .int .i64 0]) ∧ Below W.heap.size W w' := by
  have hi := (parseF_some s i).mp hp
  have hs : s.size = 71 := by rw [hi.2]; exact idS_size71 hi.1.1
  have HG71 := Aside0.mk (show ∀ k, k < 71 → goodB s k by rw [hi.2]; exact fun k hk => good_idS i hi.1 k hk)
  have hpi : pidF s = i := Option.some.inj ((parseF_good s hs HG71.out).symm.trans hp)
  have HPI := Aside0.mk hpi
  have HI := Aside0.mk hi.1
  clear hp hi hpi
  go_enter Tryz.func72, Tryz.ntmps72
  go_wp2_with (first
    | ((with_reducible refine gate_dst (N := 2) rfl ?_); refine alloc_blk rfl rfl rfl zero34 ?_; intro g w1 hg hz hb; have HGE := Aside0.mk (show W.heap.size ≤ g by rw [hg]; exact Nat.le_refl _); have HGL := Aside0.mk (blk_lt hz); have Z1 := Aside0.mk hz; have B1 := Aside0.mk hb; clear hg hz hb)
    | ((with_reducible refine gate_dst (N := 5) rfl ?_); refine alloc_blk rfl rfl rfl zero34 ?_; intro g5 w2 hg hz hb; have HG5 := Aside0.mk (show W.heap.size ≤ g5 by rw [hg]; exact B1.out.size); have HNE := Aside0.mk (show g5 ≠ g by have := HGL.out; omega); have Y2 := Aside0.mk hz; have Z2 := Aside0.mk (Z1.out.below hb); have B2 := Aside0.mk (below_step B1.out hb); clear hg hz hb Z1 B1))
  obtain ⟨tl, htl⟩ : ∃ tl, (⟨#[64, 104, 97, 115, 104, 62]⟩ : ByteArray) = tl := ⟨_, rfl⟩
  rw [htl]
  have HTL := Aside0.mk (show tailS = tl from htl)
  have hts : tl.size = 6 := by rw [← htl]; rfl
  clear htl
  go_loopg [7] 71 (fun gf x7 wx => ∃ k : Nat, k ≤ 71 ∧ x7 = .int .i64 k ∧ Hid (71 ≤ k + gf) ∧ Aside0 (∀ p, p < k → goodB s p) ∧ Aside0 (Blk wx g5 (u8s (pidP s k)) 34) ∧ Aside0 (Blk wx g (u8s zId) 34) ∧ Aside0 (Below W.heap.size W wx))
  case atStart => exact ⟨0, Nat.zero_le _, rfl, by unfold Hid; omega, ⟨fun j hj => absurd hj (Nat.not_lt_zero _)⟩, ⟨by rw [pidP_zero]; exact Y2.out⟩, Z2, B2⟩
  case round =>
    clear Y2 Z2 B2
    obtain ⟨k, hk, rfl, HG, HGA, Y, Z, B⟩ := hrel
    by_cases hlt : k < 71
    · have hgood := HG71.out k hlt
      have HGD := Aside0.mk hgood
      have hgb := hgood
      clear hgood
      unfold goodB at hgb
      by_cases hk0 : k = 0
      · subst hk0
        rw [if_pos rfl] at hgb
        have hks : 0 < s.size := by omega
        have hS : (s[0].toNat : Int) = 60 := (show (s[0].toNat : Int) = bt s ((0 : Nat) : Int) from bt_at s ((0 : Nat) : Int) hks).trans hgb
        clear hgb
        go_wp2_with fail
        go_roundg (gk - 1)
        case measure => have := HG.out; omega
        case rel => exact ⟨1, by omega, by go_num, by have := HG.out; unfold Hid; omega, ⟨fun j hj => by by_cases e : j = 0; (subst e; exact HGD.out); exact HGA.out j (by omega)⟩, ⟨by rw [pidP_one]; have h := Y.out; rw [pidP_zero] at h; exact h⟩, ⟨Z.out⟩, ⟨B.out⟩⟩
      · rw [if_neg hk0] at hgb
        by_cases hk1 : k ≤ 64
        · rw [if_pos hk1] at hgb
          have hks : k < s.size := by omega
          have hbr := bt_range s (k : Int)
          obtain ⟨b, hb⟩ : ∃ b, bt s (k : Int) = b := ⟨_, rfl⟩
          have HB0 := Aside0.mk hb
          have hS : (s[k].toNat : Int) = b := (show (s[k].toNat : Int) = bt s (k : Int) from bt_at s (k : Int) hks).trans hb
          rw [hb] at hbr
          rw [hb] at hgb
          clear hb
          obtain ⟨v, hv⟩ : ∃ v, nib b = v := ⟨_, rfl⟩
          have hv15 := nib_lt b
          rw [hv] at hgb hv15
          obtain ⟨j, hj⟩ : ∃ j, (k - 1) / 2 = j := ⟨_, rfl⟩
          obtain ⟨o, ho⟩ : ∃ o, pold s k = o := ⟨_, rfl⟩
          have hor := pold_range s k (by omega) hk1 HGA.out
          rw [ho] at hor
          have hcell := pidP_at s k j (by omega) hk1 hj
          rw [ho] at hcell
          have hst := pidP_step s k j (by omega) hk1 hj
          rw [ho, HB0.out, hv] at hst
          have HST := Aside0.mk hst
          have hc : wr.cell? ⟨g5, j, none⟩ = some (.int .u8 o) := by rw [Lib.cell_of_heap Y.out]; exact hcell
          have hf : wr.frozen? ⟨g5, j, none⟩ = false := Lib.frozen_of_heap Y.out j
          have HDG := Aside0.mk (fun w => rdigit_any b v hbr.1 hbr.2 hv w)
          have hjb : j < 32 := by omega
          have hq1 : ((k : Int) - 1) / 2 = (j : Int) := by omega
          have hq2 : Int.tdiv ((k : Int) - 1) 2 = (j : Int) := by rw [Int.tdiv_eq_ediv_of_nonneg (by omega)]; exact hq1
          have e1 : ¬ (k : Int) = 0 := by omega
          have e2 : (k : Int) ≤ 64 := by omega
          have e3 : (1 : Int) ≤ (k : Int) := by omega
          have o1 := hor.1
          have o2 := hor.2
          have w1 : IntKind.u8.wrap v = v := by have := u8_small v (by omega) (by omega); exact this
          clear hst hcell ho hj hv hor hbr
          go_wp2_with fail
          refine (HDG.out _).mono ?_
          rintro e w3 ⟨rfl, n, rfl⟩
          go_wp2_with fail
          go_roundg (gk - 1)
          case measure => have := HG.out; omega
          case rel => exact ⟨k + 1, by omega, by go_num, by have := HG.out; unfold Hid; omega, ⟨fun j hj => by by_cases e : j = k; (subst e; exact HGD.out); exact HGA.out j (by omega)⟩, ⟨by rw [HST.out]; exact blk_set (show Blk (wr.drewN n) g5 _ 34 from Y.out) j _⟩, ⟨blk_far (show Blk (wr.drewN n) g _ 34 from Z.out) (Ne.symm HNE.out) _⟩, ⟨(pw_below_drewN B.out n).setCell (p := ⟨g5, j, none⟩) HG5.out _⟩⟩
        · rw [if_neg hk1] at hgb
          have hks : k < s.size := by omega
          have hbr := bt_range s (k : Int)
          obtain ⟨b, hb⟩ : ∃ b, bt s (k : Int) = b := ⟨_, rfl⟩
          have HB0 := Aside0.mk hb
          have hS : (s[k].toNat : Int) = b := (show (s[k].toNat : Int) = bt s (k : Int) from bt_at s (k : Int) hks).trans hb
          rw [hb] at hbr
          rw [hb] at hgb
          clear hb
          obtain ⟨m, hm⟩ : ∃ m, k - 65 = m := ⟨_, rfl⟩
          rw [hm, HTL.out] at hgb
          have hml : m < tl.size := by omega
          have hT : (tl[m].toNat : Int) = b := (show (tl[m].toNat : Int) = bt tl (m : Int) from bt_at tl (m : Int) hml).trans hgb.symm
          have hm1 : (k : Int) - 65 = (m : Int) := by omega
          have e1 : ¬ (k : Int) = 0 := by omega
          have e2 : ¬ (k : Int) ≤ 64 := by omega
          have e3 : (k : Int) < (s.size : Int) := by omega
          have e4 : (k : Int) < 71 := by omega
          have e5 : (65 : Int) ≤ (k : Int) := by omega
          clear hm hgb hbr
          go_wp2_with fail
          go_quiet (fail)
          go_wp2_with fail
          go_roundg (gk - 1)
          case measure => have := HG.out; omega
          case rel => exact ⟨k + 1, by omega, by go_num, by have := HG.out; unfold Hid; omega, ⟨fun j hj => by by_cases e : j = k; (subst e; exact HGD.out); exact HGA.out j (by omega)⟩, ⟨by rw [pidP_full s (k + 1) (by omega), ← pidP_full s k (by omega)]; exact Y.out⟩, ⟨Z.out⟩, ⟨pw_below_drewN B.out _⟩⟩
    · obtain rfl : k = 71 := by omega
      have hY := Y.out
      rw [pidP_full s 71 (by omega), HPI.out] at hY
      have Y3 := Aside0.mk hY
      clear hY
      go_wp2_with (first
        | ((with_reducible refine gate_dst (N := 70) rfl ?_); refine load_blk rfl rfl rfl Y3.out Tryz.underlying34 rfl (by rw [u8s_size, HI.out.1]; exact size34) ?_)
        | ((with_reducible refine gate_store (t := 34) (p := 2) (v := .tmp 70) rfl ?_); refine store_blk_l rfl rfl rfl rfl rfl Z.out (by rw [u8s_size, HI.out.1]; exact size34) (by rw [u8s_size, u8s_size, HI.out.1]; rfl) (u8s_one _) ?_; intro w5 hz hb _; have Z5 := Aside0.mk hz; have B5 := Aside0.mk (hb _ _ HGE.out B.out); clear hz hb))
      refine bodyPost_ret (results_ctt rfl _ _ g 34 (u8s i) (0, 0) _ ?hp Z5.out Tryz.underlying34 rfl (by rw [u8s_size, HI.out.1]; exact size34)) rfl ?_
      case hp => rfl
      exact ⟨rfl, B5.out⟩

set_option maxHeartbeats 8000000 in
set_option maxRecDepth 100000 in
theorem rparse_bad (s : ByteArray) (W : World) (hsz : s.size ≤ 1000000) (hp : parseF s = none) :
    Calls Tryz.prog 72 #[.string s] W fun r w' => ∃ k e : Int, e ≠ 0 ∧ r = .returned (.tuple #[.agg (u8s zId), .int .i64 k, .int .i64 e]) ∧ Below W.heap.size W w' := by
  have HNG := Aside0.mk (show (∀ k, k < 71 → goodB s k) → s.size ≠ 71 from fun h hs => by rw [parseF_good s hs h] at hp; cases hp)
  obtain ⟨n, hn⟩ : ∃ n, min s.size 71 = n := ⟨_, rfl⟩
  have hn1 : n ≤ 71 := by omega
  have hn2 : n ≤ s.size := by omega
  have HN := Aside0.mk (show n = 71 ∨ n = s.size by omega)
  clear hp hn
  go_enter Tryz.func72, Tryz.ntmps72
  go_wp2_with (first
    | ((with_reducible refine gate_dst (N := 2) rfl ?_); refine alloc_blk rfl rfl rfl zero34 ?_; intro g w1 hg hz hb; have HGE := Aside0.mk (show W.heap.size ≤ g by rw [hg]; exact Nat.le_refl _); have HGL := Aside0.mk (blk_lt hz); have Z1 := Aside0.mk hz; have B1 := Aside0.mk hb; clear hg hz hb)
    | ((with_reducible refine gate_dst (N := 5) rfl ?_); refine alloc_blk rfl rfl rfl zero34 ?_; intro g5 w2 hg hz hb; have HG5 := Aside0.mk (show W.heap.size ≤ g5 by rw [hg]; exact B1.out.size); have HNE := Aside0.mk (show g5 ≠ g by have := HGL.out; omega); have Y2 := Aside0.mk hz; have Z2 := Aside0.mk (Z1.out.below hb); have B2 := Aside0.mk (below_step B1.out hb); clear hg hz hb Z1 B1))
  obtain ⟨tl, htl⟩ : ∃ tl, (⟨#[64, 104, 97, 115, 104, 62]⟩ : ByteArray) = tl := ⟨_, rfl⟩
  rw [htl]
  have HTL := Aside0.mk (show tailS = tl from htl)
  have hts : tl.size = 6 := by rw [← htl]; rfl
  clear htl
  go_loopg [7] n (fun gf x7 wx => ∃ k : Nat, k ≤ n ∧ x7 = .int .i64 k ∧ Hid (n ≤ k + gf) ∧ Aside0 (∀ p, p < k → goodB s p) ∧ Aside0 (Blk wx g5 (u8s (pidP s k)) 34) ∧ Aside0 (Blk wx g (u8s zId) 34) ∧ Aside0 (Below W.heap.size W wx))
  case atStart => exact ⟨0, Nat.zero_le _, rfl, by unfold Hid; omega, ⟨fun j hj => absurd hj (Nat.not_lt_zero _)⟩, ⟨by rw [pidP_zero]; exact Y2.out⟩, Z2, B2⟩
  case round =>
    clear Y2 Z2 B2
    obtain ⟨k, hk, rfl, HG, HGA, Y, Z, B⟩ := hrel
    by_cases hlt : k < n
    · by_cases hgood : goodB s k
      · have HGD := Aside0.mk hgood
        have hgb := hgood
        clear hgood
        unfold goodB at hgb
        by_cases hk0 : k = 0
        · subst hk0
          rw [if_pos rfl] at hgb
          have hks : 0 < s.size := by omega
          have hS : (s[0].toNat : Int) = 60 := (show (s[0].toNat : Int) = bt s ((0 : Nat) : Int) from bt_at s ((0 : Nat) : Int) hks).trans hgb
          clear hgb
          go_wp2_with fail
          go_roundg (gk - 1)
          case measure => have := HG.out; omega
          case rel => exact ⟨1, by omega, by go_num, by have := HG.out; unfold Hid; omega, ⟨fun j hj => by by_cases e : j = 0; (subst e; exact HGD.out); exact HGA.out j (by omega)⟩, ⟨by rw [pidP_one]; have h := Y.out; rw [pidP_zero] at h; exact h⟩, ⟨Z.out⟩, ⟨B.out⟩⟩
        · rw [if_neg hk0] at hgb
          by_cases hk1 : k ≤ 64
          · rw [if_pos hk1] at hgb
            have hks : k < s.size := by omega
            have hbr := bt_range s (k : Int)
            obtain ⟨b, hb⟩ : ∃ b, bt s (k : Int) = b := ⟨_, rfl⟩
            have HB0 := Aside0.mk hb
            have hS : (s[k].toNat : Int) = b := (show (s[k].toNat : Int) = bt s (k : Int) from bt_at s (k : Int) hks).trans hb
            rw [hb] at hbr
            rw [hb] at hgb
            clear hb
            obtain ⟨v, hv⟩ : ∃ v, nib b = v := ⟨_, rfl⟩
            have hv15 := nib_lt b
            rw [hv] at hgb hv15
            obtain ⟨j, hj⟩ : ∃ j, (k - 1) / 2 = j := ⟨_, rfl⟩
            obtain ⟨o, ho⟩ : ∃ o, pold s k = o := ⟨_, rfl⟩
            have hor := pold_range s k (by omega) hk1 HGA.out
            rw [ho] at hor
            have hcell := pidP_at s k j (by omega) hk1 hj
            rw [ho] at hcell
            have hst := pidP_step s k j (by omega) hk1 hj
            rw [ho, HB0.out, hv] at hst
            have HST := Aside0.mk hst
            have hc : wr.cell? ⟨g5, j, none⟩ = some (.int .u8 o) := by rw [Lib.cell_of_heap Y.out]; exact hcell
            have hf : wr.frozen? ⟨g5, j, none⟩ = false := Lib.frozen_of_heap Y.out j
            have HDG := Aside0.mk (fun w => rdigit_any b v hbr.1 hbr.2 hv w)
            have hjb : j < 32 := by omega
            have hq1 : ((k : Int) - 1) / 2 = (j : Int) := by omega
            have hq2 : Int.tdiv ((k : Int) - 1) 2 = (j : Int) := by rw [Int.tdiv_eq_ediv_of_nonneg (by omega)]; exact hq1
            have e1 : ¬ (k : Int) = 0 := by omega
            have e2 : (k : Int) ≤ 64 := by omega
            have e3 : (1 : Int) ≤ (k : Int) := by omega
            have o1 := hor.1
            have o2 := hor.2
            have w1 : IntKind.u8.wrap v = v := by have := u8_small v (by omega) (by omega); exact this
            clear hst hcell ho hj hv hor hbr
            go_wp2_with fail
            refine (HDG.out _).mono ?_
            rintro e w3 ⟨rfl, n, rfl⟩
            go_wp2_with fail
            go_roundg (gk - 1)
            case measure => have := HG.out; omega
            case rel => exact ⟨k + 1, by omega, by go_num, by have := HG.out; unfold Hid; omega, ⟨fun j hj => by by_cases e : j = k; (subst e; exact HGD.out); exact HGA.out j (by omega)⟩, ⟨by rw [HST.out]; exact blk_set (show Blk (wr.drewN n) g5 _ 34 from Y.out) j _⟩, ⟨blk_far (show Blk (wr.drewN n) g _ 34 from Z.out) (Ne.symm HNE.out) _⟩, ⟨(pw_below_drewN B.out n).setCell (p := ⟨g5, j, none⟩) HG5.out _⟩⟩
          · rw [if_neg hk1] at hgb
            have hks : k < s.size := by omega
            have hbr := bt_range s (k : Int)
            obtain ⟨b, hb⟩ : ∃ b, bt s (k : Int) = b := ⟨_, rfl⟩
            have HB0 := Aside0.mk hb
            have hS : (s[k].toNat : Int) = b := (show (s[k].toNat : Int) = bt s (k : Int) from bt_at s (k : Int) hks).trans hb
            rw [hb] at hbr
            rw [hb] at hgb
            clear hb
            obtain ⟨m, hm⟩ : ∃ m, k - 65 = m := ⟨_, rfl⟩
            rw [hm, HTL.out] at hgb
            have hml : m < tl.size := by omega
            have hT : (tl[m].toNat : Int) = b := (show (tl[m].toNat : Int) = bt tl (m : Int) from bt_at tl (m : Int) hml).trans hgb.symm
            have hm1 : (k : Int) - 65 = (m : Int) := by omega
            have e1 : ¬ (k : Int) = 0 := by omega
            have e2 : ¬ (k : Int) ≤ 64 := by omega
            have e3 : (k : Int) < (s.size : Int) := by omega
            have e4 : (k : Int) < 71 := by omega
            have e5 : (65 : Int) ≤ (k : Int) := by omega
            clear hm hgb hbr
            go_wp2_with fail
            go_quiet (fail)
            go_wp2_with fail
            go_roundg (gk - 1)
            case measure => have := HG.out; omega
            case rel => exact ⟨k + 1, by omega, by go_num, by have := HG.out; unfold Hid; omega, ⟨fun j hj => by by_cases e : j = k; (subst e; exact HGD.out); exact HGA.out j (by omega)⟩, ⟨by rw [pidP_full s (k + 1) (by omega), ← pidP_full s k (by omega)]; exact Y.out⟩, ⟨Z.out⟩, ⟨pw_below_drewN B.out _⟩⟩
      · have HGD := Aside0.mk hgood
        have hgb := hgood
        clear hgood
        unfold goodB at hgb
        by_cases hk0 : k = 0
        · subst hk0
          rw [if_pos rfl] at hgb
          have hks : 0 < s.size := by omega
          obtain ⟨b, hb⟩ : ∃ b, bt s ((0 : Nat) : Int) = b := ⟨_, rfl⟩
          have hS : (s[0].toNat : Int) = b := (show (s[0].toNat : Int) = bt s ((0 : Nat) : Int) from bt_at s ((0 : Nat) : Int) hks).trans hb
          rw [hb] at hgb
          have hbb : (b != 60) = true := by simp [hgb]
          clear hb
          go_wp2_with (first
            | ((with_reducible refine gate_dst (N := 35) rfl ?_); refine build_blk rfl rfl rfl builtz34 ?_)
            | ((with_reducible refine gate_store (t := 34) (p := 2) (v := .tmp 35) rfl ?_); refine store_blk_l (W := wr) (cs := u8s zId) rfl rfl rfl rfl rfl (show Blk (wr) g (u8s zId) 34 from Z.out) (by rw [u8s_size]; exact size34) rfl (u8s_one _) ?_; intro w5 hz hb _; have Z5 := Aside0.mk hz; have B5 := Aside0.mk (hb _ _ HGE.out B.out); clear hz hb))
          refine bodyPost_ret (results_ctt rfl _ _ g 34 (u8s zId) (0, 0) _ ?hp Z5.out Tryz.underlying34 rfl (by rw [u8s_size]; exact size34)) rfl ?_
          case hp => rfl
          exact ⟨_, _, by decide, rfl, B5.out⟩
        · rw [if_neg hk0] at hgb
          by_cases hk1 : k ≤ 64
          · rw [if_pos hk1] at hgb
            have hks : k < s.size := by omega
            have hbr := bt_range s (k : Int)
            obtain ⟨b, hb⟩ : ∃ b, bt s (k : Int) = b := ⟨_, rfl⟩
            have HB0 := Aside0.mk hb
            have hS : (s[k].toNat : Int) = b := (show (s[k].toNat : Int) = bt s (k : Int) from bt_at s (k : Int) hks).trans hb
            rw [hb] at hbr
            rw [hb] at hgb
            clear hb
            obtain ⟨v, hv⟩ : ∃ v, nib b = v := ⟨_, rfl⟩
            rw [hv] at hgb
            have HDG := Aside0.mk (fun w => rdigit_any b v hbr.1 hbr.2 hv w)
            have e1 : ¬ (k : Int) = 0 := by omega
            have e2 : (k : Int) ≤ 64 := by omega
            have e3 : (1 : Int) ≤ (k : Int) := by omega
            have e4 : v < 0 := by omega
            clear hv hbr
            go_wp2_with fail
            refine (HDG.out _).mono ?_
            rintro e w3 ⟨rfl, n, rfl⟩
            go_wp2_with (first
              | ((with_reducible refine gate_dst (N := 45) rfl ?_); refine build_blk rfl rfl rfl builtz34 ?_)
              | ((with_reducible refine gate_store (t := 34) (p := 2) (v := .tmp 45) rfl ?_); refine store_blk_l (W := wr.drewN n) (cs := u8s zId) rfl rfl rfl rfl rfl (show Blk (wr.drewN n) g (u8s zId) 34 from Z.out) (by rw [u8s_size]; exact size34) rfl (u8s_one _) ?_; intro w5 hz hb _; have Z5 := Aside0.mk hz; have B5 := Aside0.mk (hb _ _ HGE.out (pw_below_drewN B.out n)); clear hz hb))
            refine bodyPost_ret (results_ctt rfl _ _ g 34 (u8s zId) (0, 0) _ ?hp Z5.out Tryz.underlying34 rfl (by rw [u8s_size]; exact size34)) rfl ?_
            case hp => rfl
            exact ⟨_, _, by decide, rfl, B5.out⟩
          · rw [if_neg hk1] at hgb
            have hks : k < s.size := by omega
            have hbr := bt_range s (k : Int)
            obtain ⟨b, hb⟩ : ∃ b, bt s (k : Int) = b := ⟨_, rfl⟩
            have HB0 := Aside0.mk hb
            have hS : (s[k].toNat : Int) = b := (show (s[k].toNat : Int) = bt s (k : Int) from bt_at s (k : Int) hks).trans hb
            rw [hb] at hbr
            rw [hb] at hgb
            clear hb
            obtain ⟨m, hm⟩ : ∃ m, k - 65 = m := ⟨_, rfl⟩
            rw [hm, HTL.out] at hgb
            have hml : m < tl.size := by omega
            obtain ⟨f, hf⟩ : ∃ f, bt tl (m : Int) = f := ⟨_, rfl⟩
            have hT : (tl[m].toNat : Int) = f := (show (tl[m].toNat : Int) = bt tl (m : Int) from bt_at tl (m : Int) hml).trans hf
            rw [hf] at hgb
            have hm1 : (k : Int) - 65 = (m : Int) := by omega
            have e1 : ¬ (k : Int) = 0 := by omega
            have e2 : ¬ (k : Int) ≤ 64 := by omega
            have e3 : (k : Int) < (s.size : Int) := by omega
            have e4 : (k : Int) < 71 := by omega
            have e5 : (65 : Int) ≤ (k : Int) := by omega
            have hbb : (b != f) = true := by simp [hgb]
            clear hm hbr hf
            go_wp2_with fail
            go_quiet (fail)
            go_wp2_with (first
              | ((with_reducible refine gate_dst (N := 27) rfl ?_); refine build_blk rfl rfl rfl builtz34 ?_)
              | ((with_reducible refine gate_store (t := 34) (p := 2) (v := .tmp 27) rfl ?_); refine store_blk_l (W := wr.drewN nq) (cs := u8s zId) rfl rfl rfl rfl rfl (show Blk (wr.drewN nq) g (u8s zId) 34 from Z.out) (by rw [u8s_size]; exact size34) rfl (u8s_one _) ?_; intro w5 hz hb _; have Z5 := Aside0.mk hz; have B5 := Aside0.mk (hb _ _ HGE.out (pw_below_drewN B.out nq)); clear hz hb))
            refine bodyPost_ret (results_ctt rfl _ _ g 34 (u8s zId) (0, 0) _ ?hp Z5.out Tryz.underlying34 rfl (by rw [u8s_size]; exact size34)) rfl ?_
            case hp => rfl
            exact ⟨_, _, by decide, rfl, B5.out⟩
    · obtain rfl : k = n := by omega
      rcases Nat.lt_trichotomy s.size 71 with h71 | h71 | h71
      · have e0 : k = s.size := by have := HN.out; omega
        subst e0
        go_wp2_with (first
          | ((with_reducible refine gate_dst (N := 63) rfl ?_); refine build_blk rfl rfl rfl builtz34 ?_)
          | ((with_reducible refine gate_store (t := 34) (p := 2) (v := .tmp 63) rfl ?_); refine store_blk_l (W := wr) (cs := u8s zId) rfl rfl rfl rfl rfl (show Blk (wr) g (u8s zId) 34 from Z.out) (by rw [u8s_size]; exact size34) rfl (u8s_one _) ?_; intro w5 hz hb _; have Z5 := Aside0.mk hz; have B5 := Aside0.mk (hb _ _ HGE.out B.out); clear hz hb))
        refine bodyPost_ret (results_ctt rfl _ _ g 34 (u8s zId) (0, 0) _ ?hp Z5.out Tryz.underlying34 rfl (by rw [u8s_size]; exact size34)) rfl ?_
        case hp => rfl
        exact ⟨_, _, by decide, rfl, B5.out⟩
      · exfalso
        have e0 : k = 71 := by have := HN.out; omega
        subst e0
        exact HNG.out HGA.out h71
      · have e0 : k = 71 := by have := HN.out; omega
        subst e0
        go_wp2_with (first
          | ((with_reducible refine gate_dst (N := 69) rfl ?_); refine build_blk rfl rfl rfl builtz34 ?_)
          | ((with_reducible refine gate_store (t := 34) (p := 2) (v := .tmp 69) rfl ?_); refine store_blk_l (W := wr) (cs := u8s zId) rfl rfl rfl rfl rfl (show Blk (wr) g (u8s zId) 34 from Z.out) (by rw [u8s_size]; exact size34) rfl (u8s_one _) ?_; intro w5 hz hb _; have Z5 := Aside0.mk hz; have B5 := Aside0.mk (hb _ _ HGE.out B.out); clear hz hb))
        refine bodyPost_ret (results_ctt rfl _ _ g 34 (u8s zId) (0, 0) _ ?hp Z5.out Tryz.underlying34 rfl (by rw [u8s_size]; exact size34)) rfl ?_
        case hp => rfl
        exact ⟨_, _, by decide, rfl, B5.out⟩

end Go.Proofs.YtceopllngemnnaaGreatDoor

