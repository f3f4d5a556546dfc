/-
  The law BatchPacks: in a world that holds what the library reads, the call returns true and leaves what was there. For every list of items.
-/
import Derived.Test.YtceopllngemnnaaGreatDoorLBatchTruncates
set_option linter.unusedVariables false
set_option linter.unusedSimpArgs false
namespace Go.Proofs.YtceopllngemnnaaGreatDoor
open Go.RowKit Go.Proofs.YtceopllngemnnaaGreatDoorW.PrintWords Go.Proofs.YtceopllngemnnaaGreatDoorW.PrintLast Go.Proofs.YtceopllngemnnaaGreatDoorW.PrintMore Go.Proofs.YtceopllngemnnaaGreatDoor.PRef
attribute [local go_sem] max2_int min2_int max_two min_two

set_option maxHeartbeats 8000000 in
set_option maxRecDepth 100000 in
theorem batchPacks_walk (A : Option Addr) (n c : Nat) (l : List It) (hn : n ≤ 9223372036854775807) (W : World) (hC : Kit.C W A n l) (he : Env W) :
    Calls Tryz.prog 5 #[.slice A n c] W fun r w' => r = .returned (.bool true) ∧ Below W.heap.size W w' := by
  have hok : ∀ x ∈ toL l, okIt x := toL_ok l (Kit.ok_all hC)
  have hle := toL_le l
  have HTO := Aside0.mk (to_any A n c l W hC hn)
  obtain ⟨p, hp⟩ : ∃ p, toL l = p := ⟨_, rfl⟩
  rw [hp] at hok hle HTO
  have hck := small_check hle (fun x hx => (hok x hx).2)
  have hsz := packS_size p (fun x hx => (hok x hx).1)
  have htot := small_total hle (fun x hx => (hok x hx).2)
  have hsn : sizeOfN p = totalN p := by unfold sizeOfN; rw [if_pos hck]
  have hpr : packR p = (packS p, 0) := by unfold packR; rw [if_pos hck]
  have hup := unpack_pack p hok (by omega)
  obtain ⟨s, hs⟩ : ∃ s, packS p = s := ⟨_, rfl⟩
  rw [hs] at hsz hpr hup
  rw [← hsz] at htot hsn
  obtain ⟨np, hnp⟩ : ∃ np, p.length = np := ⟨_, rfl⟩
  have h10 : np ≤ 10 := by omega
  have HPK := Aside0.mk (fun A c w he h => pack_any A np c p w he h)
  rw [hpr] at HPK
  have HBK := Aside0.mk (fun A c w h => back_any A np c p w h (by omega))
  have HUN := Aside0.mk (fun w he => unpack_any s w he htot)
  rw [hup] at HUN
  have HTX := Aside0.mk (fun A c w h => rtext_any A np c p w h (by omega) (fun x hx => (hok x hx).2))
  rw [hs] at HTX
  have HSZ := Aside0.mk (fun A c w he h => bsize_any A np c p w he h)
  rw [hsn] at HSZ
  have HSM := Aside0.mk (fun A c A2 c2 w h h2 => same_any A np c p A2 np c2 p w h h2 (by omega) (by omega))
  rw [decide_eq_true rfl] at HSM
  have HE := Aside0.mk he
  have HNP := Aside0.mk hnp
  have beq : (s == s) = true := by rw [beq_toListBytes, beq_self_eq_true]
  clear hok hle hp hck hsz hsn hpr hup hs he hC hnp
  go_enter Tryz.func5, Tryz.ntmps5
  go_wp2_with fail
  refine HTO.out.mono ?_
  rintro e w1 ⟨v1, rfl, hr, hb⟩
  have B1 := Aside0.mk hb
  obtain ⟨A1, c1, rfl, hc1, hC1⟩ := Kd.R_reads hr
  rw [HNP.out] at hC1 ⊢
  have C1 := Aside0.mk hC1
  clear hb hr hC1 hc1 HTO
  go_wp2_with fail
  refine (HBK.out _ _ _ C1.out).mono ?_
  rintro e w2 ⟨v2, rfl, hr, hb⟩
  have B2 := Aside0.mk (below_step B1.out hb)
  have CB2 := Aside0.mk hb
  obtain ⟨A2, c2, rfl, hc2, hC2⟩ := Kd.R_reads hr
  rw [HNP.out] at hC2 ⊢
  have C2 := Aside0.mk hC2
  have C1b := Aside0.mk (Kd.C_below C1.out hb)
  clear hb hr hC2 hc2 HBK C1 CB2
  go_wp2_with fail
  refine (HPK.out _ _ _ (HE.out.below B2.out) C2.out).mono ?_
  rintro e w3 ⟨rfl, hb⟩
  have B3 := Aside0.mk (below_step B2.out hb)
  have C13 := Aside0.mk (Kd.C_below C1b.out hb)
  have C23 := Aside0.mk (Kd.C_below C2.out hb)
  clear hb C1b C2 HPK
  go_wp2_with fail
  refine (HUN.out _ (HE.out.below B3.out)).mono ?_
  rintro e w4 ⟨v4, rfl, hr, hb⟩
  have B4 := Aside0.mk (below_step B3.out hb)
  have C14 := Aside0.mk (Kd.C_below C13.out hb)
  have C24 := Aside0.mk (Kd.C_below C23.out hb)
  obtain ⟨A4, c4, rfl, hc4, hC4⟩ := Kd.R_reads hr
  rw [HNP.out] at hC4 ⊢
  have C44 := Aside0.mk hC4
  clear hb hr hC4 hc4 C13 C23 HUN
  go_wp2_with fail
  refine (known_any _ (HE.out.below B4.out)).mono ?_
  rintro e w5 ⟨rfl, hb⟩
  have B5 := Aside0.mk (below_step B4.out hb)
  have C15 := Aside0.mk (Kd.C_below C14.out hb)
  have C25 := Aside0.mk (Kd.C_below C24.out hb)
  have C45 := Aside0.mk (Kd.C_below C44.out hb)
  clear hb C14 C24 C44
  go_wp2_with fail
  refine (HTX.out _ _ _ C15.out).mono ?_
  rintro e w6 ⟨rfl, hb⟩
  have B6 := Aside0.mk (below_step B5.out hb)
  have C16 := Aside0.mk (Kd.C_below C15.out hb)
  have C26 := Aside0.mk (Kd.C_below C25.out hb)
  have C46 := Aside0.mk (Kd.C_below C45.out hb)
  clear hb C15 C25 C45 HTX
  go_wp2_with fail
  refine (HSZ.out _ _ _ (HE.out.below B6.out) C26.out).mono ?_
  rintro e w7 ⟨rfl, hb⟩
  have B7 := Aside0.mk (below_step B6.out hb)
  have C17 := Aside0.mk (Kd.C_below C16.out hb)
  have C47 := Aside0.mk (Kd.C_below C46.out hb)
  clear hb C16 C26 C46 HSZ
  go_wp2_with fail
  refine (HSM.out _ _ _ _ _ C47.out C17.out).mono ?_
  rintro e w8 ⟨rfl, hb⟩
  have B8 := Aside0.mk (below_step B7.out hb)
  clear hb
  go_wp2_with fail
  go_ret
  exact ⟨rfl, B8.out⟩

end Go.Proofs.YtceopllngemnnaaGreatDoor

