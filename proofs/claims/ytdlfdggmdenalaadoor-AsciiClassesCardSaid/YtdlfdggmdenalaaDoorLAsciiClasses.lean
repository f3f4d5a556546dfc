/-
  The law AsciiClasses: in a world that holds what the library reads, the call returns true and leaves what was there. For every string.
-/
import Derived.Test.YtdlfdggmdenalaaDoorKC
import Derived.Test.YtdlfdggmdenalaaDoorK9
import Derived.OpenShut
namespace Go.Proofs.YtdlfdggmdenalaaDoor
open Go.RowKit Go.Proofs.YtdlfdggmdenalaaDoorW.PrintWords Go.Proofs.YtdlfdggmdenalaaDoorW.PrintMore

def lowI (n : Int) : Bool := decide (97 ≤ n) && decide (n ≤ 122)

theorem low_any (n : Int) (w : World) : Calls Tryd.prog 36 #[.int .u8 n] w fun e w' => e = .returned (.bool (lowI n)) ∧ w' = w := by
  go_enter Tryd.func36, Tryd.ntmps36
  go_wp2
  all_goals go_ret
  all_goals (refine ⟨?_, rfl⟩; simp [lowI, *]; try omega)
theorem rlow_any (n : Int) (w : World) : Calls Tryd.prog 37 #[.int .u8 n] w fun e w' => e = .returned (.bool (lowI n)) ∧ w' = w := by
  go_enter Tryd.func37, Tryd.ntmps37
  go_wp2
  all_goals go_ret
  all_goals (refine ⟨?_, rfl⟩; simp [lowI, *]; try omega)
theorem rdigit_any (n : Int) (w : World) : Calls Tryd.prog 42 #[.int .u8 n] w fun e w' => e = .returned (.bool (digitI n)) ∧ w' = w := by
  go_enter Tryd.func42, Tryd.ntmps42
  go_wp2
  all_goals go_ret
  all_goals (refine ⟨?_, rfl⟩; simp [digitI, *]; try omega)
theorem rvis_any (n : Int) (w : World) : Calls Tryd.prog 44 #[.int .u8 n] w fun e w' => e = .returned (.bool (visI n)) ∧ w' = w := by
  go_enter Tryd.func44, Tryd.ntmps44
  go_wp2
  all_goals go_ret
  all_goals (refine ⟨?_, rfl⟩; simp [visI, *]; try omega)
theorem rblank_any (n : Int) (w : World) : Calls Tryd.prog 46 #[.int .u8 n] w fun e w' => e = .returned (.bool (blankI n)) ∧ w' = w := by
  go_enter Tryd.func46, Tryd.ntmps46
  go_wp2
  all_goals go_ret
  all_goals (refine ⟨?_, rfl⟩; simp [blankI, *])
theorem letter_any (n : Int) (w : World) : Calls Tryd.prog 40 #[.int .u8 n] w fun e w' => e = .returned (.bool (lowI n || upperI n)) ∧ w' = w := by
  obtain ⟨a, ha⟩ : ∃ a, lowI n = a := ⟨_, rfl⟩
  obtain ⟨b, hb⟩ : ∃ b, upperI n = b := ⟨_, rfl⟩
  have h1 := low_any n
  have h2 := upper_any n
  rw [ha] at h1 ⊢
  rw [hb] at h2 ⊢
  clear ha hb
  have H1 := Aside0.mk h1
  have H2 := Aside0.mk h2
  clear h1 h2
  go_enter Tryd.func40, Tryd.ntmps40
  go_wp2_with fail
  refine (H1.out _).mono ?_
  rintro e w' ⟨rfl, rfl⟩
  cases a
  · go_wp2_with fail
    refine (H2.out _).mono ?_
    rintro e w' ⟨rfl, rfl⟩
    go_wp2_with fail
    go_ret
    exact ⟨rfl, rfl⟩
  · go_wp2_with fail
    go_ret
    exact ⟨rfl, rfl⟩

set_option maxHeartbeats 1600000 in
set_option maxRecDepth 100000 in
theorem rprintable_any (s : ByteArray) (w : World) (hs : s.size ≤ 1000000) :
    Calls Tryd.prog 48 #[.string s] w fun e w' => e = .returned (.int .i64 (prF s)) ∧ w' = w := by
  obtain ⟨n, hn⟩ : ∃ n, spanN printI s 0 = n := ⟨_, rfl⟩
  have HP := Aside0.mk (show prF s = if n = s.size then -1 else (n : Int) by rw [← hn]; rfl)
  have HN := Aside0.mk hn
  clear hn
  go_enter Tryd.func48, Tryd.ntmps48
  go_wp2_with fail
  go_loopg [3] s.size (fun gf i wx => ∃ k : Nat, w = wx ∧ k ≤ s.size ∧ i = .int .i64 k ∧ Hid (s.size ≤ k + gf) ∧ Aside0 (spanN printI s k = n))
  case atStart => exact ⟨0, rfl, Nat.zero_le _, rfl, by unfold Hid; omega, HN⟩
  case round =>
    obtain ⟨k, rfl, hk, rfl, HG, HS⟩ := hrel
    by_cases hlt : k < s.size
    · obtain ⟨c, hc⟩ : ∃ c : Int, (s[k].toNat : Int) = c := ⟨_, rfl⟩
      have hv := fun w => rvis_any c w
      obtain ⟨b, hb⟩ : ∃ b, visI c = b := ⟨_, rfl⟩
      have hp : printI (s[k].toNat : Int) = (c == 32 || b) := by rw [hc, ← hb]; rfl
      rw [hb] at hv
      have HV := Aside0.mk hv
      clear hv hb
      cases b
      · by_cases h32 : c = 32
        · have H2 := Aside0.mk ((spanN_hit printI s k hlt (by rw [hp, h32]; rfl)).symm.trans HS.out)
          clear hp
          have hc32 : (c != 32) = false := by simp [h32]
          clear h32
          go_wp2_with fail
          refine (HV.out _).mono ?_
          rintro e w' ⟨rfl, rfl⟩
          go_wp2_with fail
          go_roundg (gk - 1)
          case measure => have := HG.out; omega
          case rel => exact ⟨k + 1, rfl, by omega, by go_num, by have := HG.out; unfold Hid; omega, H2⟩
        · have H2 := Aside0.mk ((spanN_miss printI s k hlt (by rw [hp]; simp [h32])).symm.trans HS.out)
          clear hp
          have hc32 : (c != 32) = true := by simp [h32]
          go_wp2_with fail
          refine (HV.out _).mono ?_
          rintro e w' ⟨rfl, rfl⟩
          go_wp2_with fail
          go_ret
          refine ⟨?_, rfl⟩
          rw [HP.out, ← H2.out, if_neg (by omega)]
          rfl
      · have H2 := Aside0.mk ((spanN_hit printI s k hlt (by rw [hp]; simp)).symm.trans HS.out)
        clear hp
        go_wp2_with fail
        refine (HV.out _).mono ?_
        rintro e w' ⟨rfl, rfl⟩
        go_wp2_with fail
        go_roundg (gk - 1)
        case measure => have := HG.out; omega
        case rel => exact ⟨k + 1, rfl, by omega, by go_num, by have := HG.out; unfold Hid; omega, H2⟩
    · have h3 := HS.out
      rw [spanN_end _ _ _ hlt] at h3
      have HZ := Aside0.mk (show prF s = -1 by rw [HP.out, if_pos (by omega)])
      clear h3
      go_wp2_with fail
      go_ret
      exact ⟨by rw [HZ.out]; rfl, rfl⟩

theorem isCut_any (s t : ByteArray) (w : World) (hs : s.size ≤ 140737488351232) (ht : cutS s = t) :
    Calls Tryd.prog 12 #[.string s] w fun e w' => e = .returned (.string t) ∧ w' = w := ht ▸ cut_any s w hs

set_option maxHeartbeats 4000000 in
set_option maxRecDepth 100000 in
theorem asciiClasses_walk (a0 : ByteArray) (w0 : a0.size ≤ 140737488351232) (w : World) (he : Env w) :
    Calls Tryd.prog 11 #[.string a0] w fun e w' => e = .returned (.bool true) ∧ Below w.heap.size w w' := by
  have HE := Aside0.mk he
  clear he
  obtain ⟨s, hs⟩ : ∃ s, cutS a0 = s := ⟨_, rfl⟩
  have ss : s.size ≤ 300 := hs ▸ cutS_size a0
  have HS := Aside0.mk hs
  clear hs
  have HW := Aside0.mk w0
  clear w0
  go_enter Tryd.func11, Tryd.ntmps11
  go_wp2_with fail
  go_loopg [3, 4] 256 (fun gf i x4 wx => ∃ k : Nat, w = wx ∧ k ≤ 256 ∧ i = .int .i64 k ∧ Hid (256 ≤ k + gf))
  case atStart => exact ⟨0, rfl, Nat.zero_le _, rfl, by unfold Hid; omega⟩
  case round =>
    obtain ⟨k, rfl, hk, rfl, HG⟩ := hrel
    by_cases hlt : k < 256
    · have hmod : (k : Int) % 256 = (k : Int) := by omega
      obtain ⟨c, hc⟩ : ∃ c : Int, (k : Int) = c := ⟨_, rfl⟩
      obtain ⟨b1, h1⟩ : ∃ b, lowI k = b := ⟨_, rfl⟩
      obtain ⟨b2, h2⟩ : ∃ b, upperI k = b := ⟨_, rfl⟩
      obtain ⟨b3, h3⟩ : ∃ b, digitI k = b := ⟨_, rfl⟩
      obtain ⟨b4, h4⟩ : ∃ b, visI k = b := ⟨_, rfl⟩
      obtain ⟨b5, h5⟩ : ∃ b, blankI k = b := ⟨_, rfl⟩
      have c1 := Aside0.mk (fun w => h1 ▸ low_any k w)
      have c1r := Aside0.mk (fun w => h1 ▸ rlow_any k w)
      have c2 := Aside0.mk (fun w => h2 ▸ upper_any k w)
      have c2r := Aside0.mk (fun w => h2 ▸ refUpper_any k w)
      have cl := Aside0.mk (fun w => h2 ▸ h1 ▸ letter_any k w)
      have c3 := Aside0.mk (fun w => h3 ▸ digit_any k w)
      have c3r := Aside0.mk (fun w => h3 ▸ rdigit_any k w)
      have c4 := Aside0.mk (fun w => h4 ▸ vis_any k w)
      have c4r := Aside0.mk (fun w => h4 ▸ rvis_any k w)
      have c5 := Aside0.mk (fun w => h5 ▸ blank_any k w)
      have c5r := Aside0.mk (fun w => h5 ▸ rblank_any k w)
      clear h1 h2 h3 h4 h5 hc
      go_wp2_with fail
      refine (c1.out _).mono ?_
      rintro e w' ⟨rfl, rfl⟩
      go_wp2_with fail
      refine (c1r.out _).mono ?_
      rintro e w' ⟨rfl, rfl⟩
      go_wp2_with fail
      refine (c2.out _).mono ?_
      rintro e w' ⟨rfl, rfl⟩
      go_wp2_with fail
      refine (c2r.out _).mono ?_
      rintro e w' ⟨rfl, rfl⟩
      go_wp2_with fail
      refine (cl.out _).mono ?_
      rintro e w' ⟨rfl, rfl⟩
      go_wp2_with fail
      refine (c1r.out _).mono ?_
      rintro e w' ⟨rfl, rfl⟩
      cases b1
      · go_wp2_with fail
        refine (c2r.out _).mono ?_
        rintro e w' ⟨rfl, rfl⟩
        go_wp2_with fail
        refine (c3.out _).mono ?_
        rintro e w' ⟨rfl, rfl⟩
        go_wp2_with fail
        refine (c3r.out _).mono ?_
        rintro e w' ⟨rfl, rfl⟩
        go_wp2_with fail
        refine (c4.out _).mono ?_
        rintro e w' ⟨rfl, rfl⟩
        go_wp2_with fail
        refine (c4r.out _).mono ?_
        rintro e w' ⟨rfl, rfl⟩
        go_wp2_with fail
        refine (c5.out _).mono ?_
        rintro e w' ⟨rfl, rfl⟩
        go_wp2_with fail
        refine (c5r.out _).mono ?_
        rintro e w' ⟨rfl, rfl⟩
        go_wp2_with fail
        go_roundg (gk - 1)
        case measure => have := HG.out; omega
        case rel => exact ⟨k + 1, rfl, by omega, by go_num, by have := HG.out; unfold Hid; omega⟩
      · go_wp2_with fail
        refine (c3.out _).mono ?_
        rintro e w' ⟨rfl, rfl⟩
        go_wp2_with fail
        refine (c3r.out _).mono ?_
        rintro e w' ⟨rfl, rfl⟩
        go_wp2_with fail
        refine (c4.out _).mono ?_
        rintro e w' ⟨rfl, rfl⟩
        go_wp2_with fail
        refine (c4r.out _).mono ?_
        rintro e w' ⟨rfl, rfl⟩
        go_wp2_with fail
        refine (c5.out _).mono ?_
        rintro e w' ⟨rfl, rfl⟩
        go_wp2_with fail
        refine (c5r.out _).mono ?_
        rintro e w' ⟨rfl, rfl⟩
        go_wp2_with fail
        go_roundg (gk - 1)
        case measure => have := HG.out; omega
        case rel => exact ⟨k + 1, rfl, by omega, by go_num, by have := HG.out; unfold Hid; omega⟩
    · go_wp2_with fail
      refine (known_any _ HE.out).mono ?_
      rintro e w1 ⟨rfl, hb1⟩
      have HB1 := Aside0.mk hb1
      clear hb1
      go_wp2_with fail
      refine (isCut_any a0 s _ HW.out HS.out).mono ?_
      rintro e w' ⟨rfl, rfl⟩
      go_wp2_with fail
      refine (printable_any s _ (by omega)).mono ?_
      rintro e w' ⟨rfl, rfl⟩
      go_wp2_with fail
      refine (isCut_any a0 s _ HW.out HS.out).mono ?_
      rintro e w' ⟨rfl, rfl⟩
      go_wp2_with fail
      refine (rprintable_any s _ (by omega)).mono ?_
      rintro e w' ⟨rfl, rfl⟩
      go_wp2_with fail
      go_ret
      exact ⟨rfl, HB1.out⟩

end Go.Proofs.YtdlfdggmdenalaaDoor
