/-
  The law BatchTruncates: in a world that holds what the library reads, the call returns true and leaves what was there. For every list of items and every number.
-/
import Derived.Test.YtceopllngemnnaaGreatDoorME
set_option linter.unusedVariables false
set_option linter.unusedSimpArgs false
namespace Go.Proofs.YtceopllngemnnaaGreatDoor
open Go.RowKit Go.Proofs.YtceopllngemnnaaGreatDoorW.PrintWords Go.Proofs.YtceopllngemnnaaGreatDoorW.PrintLast Go.Proofs.YtceopllngemnnaaGreatDoorW.PrintMore Go.Proofs.YtceopllngemnnaaGreatDoor.PRef
attribute [local go_sem] max2_int min2_int max_two min_two

theorem small_total {l : List It} (h1 : l.length ≤ 10) (h2 : ∀ x ∈ l, x.2.size ≤ 65536) : totalN l ≤ 1000000 := by
  have h3 := frameN_le l.length (by omega)
  have h4 := sumN_le l h2
  unfold totalN; omega
theorem small_check {l : List It} (h1 : l.length ≤ 10) (h2 : ∀ x ∈ l, x.2.size ≤ 65536) : checkN l = 0 := by
  unfold checkN
  rw [if_neg (by omega), if_pos h2, if_neg]
  have := small_total h1 h2
  omega
theorem packS_pos (l : List It) : 0 < (packS l).size := by
  unfold packS endS
  rw [ByteArray.size_append]
  show 0 < _ + 4
  omega

set_option maxHeartbeats 8000000 in
set_option maxRecDepth 100000 in
theorem batchTruncates_walk (A : Option Addr) (n c : Nat) (l : List It) (hn : n ≤ 9223372036854775807) (m : Int) (wm : (Lit.int .u16 m).wf = true) (W : World) (hC : Kit.C W A n l) (he : Env W) :
    Calls Tryz.prog 4 #[.slice A n c, .int .u16 m] W fun r w' => r = .returned (.bool true) ∧ Below W.heap.size W w' := by
  obtain ⟨hm0, hm⟩ : 0 ≤ m ∧ m < 65536 := by
    simp [Lit.wf, IntKind.min, IntKind.max, IntKind.signed, IntKind.bits] at wm
    omega
  clear wm
  have hok : ∀ x ∈ toL l, okIt x := toL_ok l (Kit.ok_all hC)
  have hle := toL_le l
  have hsz := packS_size (toL l) (fun x hx => (hok x hx).1)
  have htot := small_total hle (fun x hx => (hok x hx).2)
  obtain ⟨s, hs⟩ : ∃ s, packS (toL l) = s := ⟨_, rfl⟩
  have hpos := packS_pos (toL l)
  rw [hs] at hsz hpos
  have h1 : s.size ≤ 1000000 := by omega
  obtain ⟨k, hk⟩ : ∃ k, m.toNat % s.size = k := ⟨_, rfl⟩
  have hkl : k < s.size := by rw [← hk]; exact Nat.mod_lt _ hpos
  have hkm : m % (s.size : Int) = (k : Int) := by
    obtain ⟨m', rfl⟩ := Int.eq_ofNat_of_zero_le hm0
    rw [← hk, Int.toNat_natCast]; rfl
  have hu : unpackF (s.extract 0 k) = ([], k, 23) := by
    rw [← hs]; exact unpack_cut _ hok (by omega) k (by rw [hs]; exact hkl)
  have HU := Aside0.mk (fun w he => unpack_any (s.extract 0 k) w he (by rw [← data_length, extract_list, List.length_take]; omega))
  rw [hu] at HU
  have HTO := Aside0.mk (to_any A n c l W hC hn)
  have HTX := Aside0.mk (fun A n c w (h : Kit.C w A n (toL l)) => rtext_any A n c (toL l) w h (by have := h.1; omega) (fun x hx => (hok x hx).2))
  rw [hs] at HTX
  have HE := Aside0.mk he
  have HKM := Aside0.mk hkm
  clear hok hle hsz htot hs hk hkm hu he hC
  go_enter Tryz.func4, Tryz.ntmps4
  go_wp2_with fail
  refine HTO.out.mono ?_
  rintro e w1 ⟨v1, rfl, hr, hb⟩
  have B1 := Aside0.mk hb
  obtain ⟨A1, c1, rfl, hc1, hC1⟩ := Kd.R_reads hr
  have C1 := Aside0.mk hC1
  clear hb hr hC1 hc1 HTO
  go_wp2_with fail
  refine (HTX.out _ _ _ _ C1.out).mono ?_
  rintro e w2 ⟨rfl, hb⟩
  have B2 := Aside0.mk (below_step B1.out hb)
  clear hb HTX C1
  have k0 : (0 : Int) ≤ m % (s.size : Int) := by rw [HKM.out]; omega
  have k1 : m % (s.size : Int) ≤ (s.size : Int) := by rw [HKM.out]; omega
  go_wp2_with fail
  rw [HKM.out, Int.toNat_natCast]
  refine (HU.out _ (HE.out.below B2.out)).mono ?_
  rintro e w3 ⟨v3, rfl, hr, hb⟩
  have B3 := Aside0.mk (below_step B2.out hb)
  obtain ⟨A3, c3, rfl, hc3, hC3⟩ := Kd.R_reads hr
  rw [show ([] : List It).length = 0 from rfl]
  clear hb hr hC3 hc3 HU k0 k1 HKM
  go_wp2_with fail
  refine (known_any _ (HE.out.below B3.out)).mono ?_
  rintro e w4 ⟨rfl, hb⟩
  have B4 := Aside0.mk (below_step B3.out hb)
  clear hb
  go_wp2_with fail
  go_ret
  exact ⟨rfl, B4.out⟩

end Go.Proofs.YtceopllngemnnaaGreatDoor

