/-
  The law BatchRefuses: in a world that holds what the library reads, the call returns true and leaves what was there. For every list of items, every item and every number.
-/
import Derived.Test.YtceopllngemnnaaGreatDoorG9
import Derived.Test.YtceopllngemnnaaGreatDoorLBatchTruncates
set_option linter.unusedVariables false
set_option linter.unusedSimpArgs false
namespace Go.Proofs.YtceopllngemnnaaGreatDoor
open Go.RowKit Go.Proofs.YtceopllngemnnaaGreatDoorW.PrintWords Go.Proofs.YtceopllngemnnaaGreatDoorW.PrintLast Go.Proofs.YtceopllngemnnaaGreatDoorW.PrintMore Go.Proofs.YtceopllngemnnaaGreatDoor.PRef
attribute [local go_sem] max2_int min2_int max_two min_two

/-! ### plain -/
/-- What a builder holds when a list has been added. -/
def bldF (most : Int) (l : List It) : List It := l.foldl (fun a x => (addF most a x).2) []
theorem bldF_step (most : Int) (l : List It) (k : Nat) (x : It) (h : l[k]? = some x) : bldF most (l.take (k + 1)) = (addF most (bldF most (l.take k)) x).2 := by
  unfold bldF
  rw [List.take_add_one, h, List.foldl_append]; rfl
theorem bldF_ok (most : Int) (l : List It) : ∀ k, bOk most (bldF most (l.take k)) := by
  intro k
  induction k with
  | zero => rw [List.take_zero]; exact bOk_nil most
  | succ k ih =>
    cases h : l[k]? with
    | none =>
      rw [List.take_of_length_le (by have := List.getElem?_eq_none_iff.mp h; omega)]
      rw [List.take_of_length_le (by have := List.getElem?_eq_none_iff.mp h; omega)] at ih
      exact ih
    | some x => rw [bldF_step most l k x h]; exact addF_ok ih
theorem tot_one (x : It) : totalN [x] = frameN 1 + sizeN x := by simp [totalN, sumN]
theorem frameN_len (n : Nat) (h : n ≤ 1000) : 12 ≤ frameN n ∧ frameN n ≤ 113 := by
  unfold frameN
  have := dec_len n
  rw [numB_size]; omega
theorem sizeN_pos (x : It) : 116 ≤ sizeN x := by
  unfold sizeN
  have := dec_len x.2.size
  rw [numB_size]; omega
theorem room_tot (most : Int) (l : List It) : roomF most l = if 0 ≤ most - ((totalN l : Nat) : Int) then most - ((totalN l : Nat) : Int) else 0 := by
  unfold roomF totalN
  have e : most - (frameN l.length : Int) - (sumN l : Int) = most - ((frameN l.length + sumN l : Nat) : Int) := by omega
  rw [e]
/-- Add's three answers. -/
theorem refuse_law (most : Int) (l : List It) (x : It) (hx : x.2.size ≤ 3000) (h : bOk most l) :
    (most < ((totalN [x] : Nat) : Int) ∧ addF most l x = (5, l)) ∨
    (¬ most < ((totalN [x] : Nat) : Int) ∧ addF most l x = (0, l ++ [x]) ∧ roomF most (l ++ [x]) < roomF most l ∧ l.length < 1000) ∨
    (¬ most < ((totalN [x] : Nat) : Int) ∧ addF most l x = (9, l) ∧ 0 < l.length) := by
  by_cases h1 : most < ((totalN [x] : Nat) : Int)
  · refine .inl ⟨h1, ?_⟩
    unfold addF
    rw [if_neg]
    intro hf
    have := hf.2
    rw [tot_one] at h1
    omega
  · have hf : fits x most := ⟨by omega, by rw [tot_one] at h1; omega⟩
    by_cases h2 : l.length < 1000 ∧ ((totalN (l ++ [x]) : Nat) : Int) ≤ most
    · refine .inr (.inl ⟨h1, ?_, ?_, h2.1⟩)
      · unfold addF
        rw [if_pos hf, if_pos h2]
      · rw [room_tot, room_tot, if_pos (by omega)]
        have hlt : totalN l < totalN (l ++ [x]) := by
          rw [total_snoc]
          have e1 := (frameN_len l.length h.1).2
          have e2 := (frameN_len (l.length + 1) (by omega)).1
          have e3 := sizeN_pos x
          unfold totalN
          omega
        rw [if_pos (by omega)]
        omega
    · refine .inr (.inr ⟨h1, ?_, ?_⟩)
      · unfold addF
        rw [if_pos hf, if_neg h2]
      · rcases Nat.eq_zero_or_pos l.length with h0 | h0
        · exfalso
          obtain rfl : l = [] := List.eq_nil_of_length_eq_zero h0
          exact h2 ⟨by simp, by rw [List.nil_append]; omega⟩
        · exact h0
def cut3 (x : It) : It := (x.1, x.2.extract 0 (min x.2.size 3000))
theorem cut3_size (x : It) : (cut3 x).2.size ≤ 3000 := by
  show (x.2.extract 0 _).size ≤ _
  rw [← data_length, extract_list, List.length_take]; omega
theorem itV_set (x : It) (t : ByteArray) (h : okId x.1) : (itV x).setIfInBounds 32 (.string t) = itV (x.1, t) := by
  have hs : (u8s x.1).size = 32 := by rw [u8s_size, h.1]
  unfold itV
  apply Array.ext_getElem?
  intro j
  rw [Array.getElem?_setIfInBounds, Array.getElem?_push, Array.getElem?_push, Array.size_push, hs]
  by_cases e : 32 = j
  · subst e; simp
  · rw [if_neg e, if_neg (fun h => e h.symm), if_neg (fun h => e h.symm)]

set_option maxHeartbeats 8000000 in
set_option maxRecDepth 100000 in
theorem batchRefuses_walk (A : Option Addr) (n c : Nat) (l : List It) (hn : n ≤ 9223372036854775807) (x : It) (hx : okId x.1) (hxl : x.2.size ≤ 9223372036854775807) (q : Int) (wq : (Lit.int .u16 q).wf = true) (W : World) (hC : Kit.C W A n l) (he : Env W) :
    Calls Tryz.prog 11 #[.slice A n c, .agg (itV x), .int .u16 q] W fun r w' => r = .returned (.bool true) ∧ Below W.heap.size W w' := by
  obtain ⟨hq0, hq⟩ : 0 ≤ q ∧ q < 65536 := by
    simp [Lit.wf, IntKind.min, IntKind.max, IntKind.signed, IntKind.bits] at wq
    omega
  clear wq
  obtain ⟨m, hm⟩ : ∃ m : Int, 1 + q % 2000 = m := ⟨_, rfl⟩
  have hm1 : 1 ≤ m := by omega
  have hm2 : m ≤ 2000 := by omega
  have HOM := Aside0.mk (show okMost m from ⟨hm1, by omega⟩)
  have HM := Aside0.mk hm
  have hok : ∀ x ∈ toL l, okIt x := toL_ok l (Kit.ok_all hC)
  have hle := toL_le l
  have HTO := Aside0.mk (fun w h => to_any A n c l w h hn)
  obtain ⟨p, hp⟩ : ∃ p, toL l = p := ⟨_, rfl⟩
  rw [hp] at hok hle HTO
  obtain ⟨np, hnp⟩ : ∃ np, p.length = np := ⟨_, rfl⟩
  have h10 : np ≤ 10 := by omega
  have HOK := Aside0.mk hok
  have HNP := Aside0.mk hnp
  have HE := Aside0.mk he
  have HX := Aside0.mk hx
  have HXL := Aside0.mk hxl
  have HC := Aside0.mk hC
  have H4 := Aside0.mk he.big
  have hvs : Aside0 ((itV x).size = 33) := ⟨itV_size hx⟩
  have hv1 : Aside0 ((itV x).all (·.oneCell') = true) := ⟨itV_one x⟩
  clear hok hle hp hC hnp he hx hm hxl
  go_enter Tryz.func11, Tryz.ntmps11
  go_wp2_with (first
    | ((with_reducible refine gate_dst (N := 4) rfl ?_); refine box_blk rfl rfl rfl rfl (by rw [hvs.out]; exact size39) hv1.out ?_; intro gx w1 hg hz hb'; have HGX := Aside0.mk (show W.heap.size ≤ gx by rw [hg]; exact Nat.le_refl _); have X1 := Aside0.mk hz; have B1 := Aside0.mk hb'; clear hg hz hb'))
  refine (flush_nil _).mono ?_
  rintro e w2 ⟨rfl, hb⟩
  have X2 := Aside0.mk (X1.out.below hb)
  have B2 := Aside0.mk (below_step B1.out hb)
  clear hb X1
  go_wp2_with fail
  refine (known_any _ (HE.out.below B2.out)).mono ?_
  rintro e w3 ⟨rfl, hb⟩
  have X3 := Aside0.mk (X2.out.below hb)
  have B3 := Aside0.mk (below_step B2.out hb)
  clear hb X2
  go_wp2_with (first
    | ((with_reducible refine gate_dst (N := 28) rfl ?_); refine event_run_g rfl (exec_load rfl rfl (run_load_cells Tryz.underlying39 rfl (by rw [hvs.out]; exact size39) (blk_head X3.out (fun _ _ h => h)))) ?_))
  refine (add_nil x _ HX.out).mono ?_
  rintro e w4 ⟨rfl, hb⟩
  have X4 := Aside0.mk (X3.out.below hb)
  have B4 := Aside0.mk (below_step B3.out hb)
  clear hb X3
  go_wp2_with fail
  refine (len_nil _).mono ?_
  rintro e w5 ⟨rfl, hb⟩
  have X5 := Aside0.mk (X4.out.below hb)
  have B5 := Aside0.mk (below_step B4.out hb)
  clear hb X4
  go_wp2_with fail
  refine (room_nil _).mono ?_
  rintro e w6 ⟨rfl, hb⟩
  have X6 := Aside0.mk (X5.out.below hb)
  have B6 := Aside0.mk (below_step B5.out hb)
  clear hb X5
  go_wp2_with fail
  rw [HM.out]
  refine (new_ok m _ HOM.out).mono ?_
  rintro e w7 ⟨g, rfl, hg, hbld, hb⟩
  have X7 := Aside0.mk (X6.out.below hb)
  have B7 := Aside0.mk (below_step B6.out hb)
  have HG := Aside0.mk (show W.heap.size ≤ g by have := B6.out.size; omega)
  have HGN := Aside0.mk (show gx ≠ g by have := blk_lt X6.out; omega)
  have D7 := Aside0.mk hbld
  clear hb X6 hg hbld
  go_wp2_with fail
  refine (HTO.out _ (Kd.C_below HC.out B7.out)).mono ?_
  rintro e w8 ⟨v8, rfl, hr, hb⟩
  obtain ⟨b8, hb8⟩ : ∃ b8, w8.heap.size = b8 := ⟨_, rfl⟩
  have X8 := Aside0.mk (X7.out.below hb)
  have B8 := Aside0.mk (below_step B7.out hb)
  have D8 := Aside0.mk ((D7.out b8).below hb)
  have Y8 := Aside0.mk (show Kit.R 36 w8 w7.heap.size (fun k => k ≠ g) v8 p from Kd.R_mono (Kd.R_bound hr) (fun k hk => by have := (D7.out 0).lt; have := hk.2.1; omega))
  obtain ⟨A8, c8, rfl, hc8, hC8⟩ := Kd.R_reads hr
  rw [HNP.out] at Y8 hc8 ⊢
  have HB8 := Aside0.mk hb8
  have HC8 := Aside0.mk hc8
  have HB4 := Aside0.mk (show 4 ≤ b8 ∧ W.heap.size ≤ b8 ∧ gx < b8 ∧ 4 ≤ g by have := H4.out; have := B8.out.size; have := blk_lt X8.out; have := HG.out; omega)
  clear hb X7 D7 hr hC8 hb8 HTO hc8
  go_wp2_with fail
  go_loopg [14] np (fun gf x14 wx => ∃ k : Nat, k ≤ np ∧ x14 = .int .i64 k ∧ Hid (np ≤ k + gf) ∧ Aside0 (Bld wx g b8 m (bldF m (p.take k))) ∧ Aside0 (Bel b8 g w8 wx))
  case atStart => exact ⟨0, Nat.zero_le _, rfl, by unfold Hid; omega, D8, ⟨Bel.refl _ _ _⟩⟩
  case round =>
    obtain ⟨k, hk, rfl, HGF, D, L⟩ := hrel
    have B := Aside0.mk (B8.out.trans (L.out.2.2 W.heap.size HB4.out.2.1 HG.out))
    by_cases hlt : k < np
    · obtain ⟨y, hy⟩ : ∃ y, p[k]? = some y := ⟨_, List.getElem?_eq_getElem (by rw [HNP.out]; exact hlt)⟩
      have hyo := HOK.out y (List.mem_of_getElem? hy)
      have HY := Aside0.mk hyo
      obtain ⟨i36, hi36, hs36⟩ := Option.map_eq_some_iff.1 size36
      obtain ⟨A9, hcut, hC9⟩ := cut_one (P := Tryz.prog) 24 36 Tryz.underlying24 hi36 hs36 A8 np c8 p k y hy HNP.out HC8.out
      have HCUT := Aside0.mk hcut
      have hread : Kit.C wr A8 np p := by
        have h1 := Kd.R_step Y8.out (w1 := wr) (fun j hj hlt => L.out.2.1 j (by rw [← HB8.out]; exact hlt) hj)
        obtain ⟨A', c', e1, _, h2⟩ := Kd.R_reads h1
        injection e1 with e1 e2 e3
        subst e1
        rw [HNP.out] at h2
        exact h2
      have C9 := Aside0.mk (hC9 wr hread)
      have HST := Aside0.mk (bldF_step m p k y hy)
      clear hcut hC9 hread hy hyo hi36 hs36
      go_wp2_with (first
        | ((with_reducible refine gate_dst (N := 70) rfl ?_); refine Kd.event_run rfl (exec_slice Tryz.underlying24 rfl rfl rfl rfl (HCUT.out _)) ?_))
      refine (back_any A9 1 _ [y] _ C9.out (by omega)).mono ?_
      rintro e w9 ⟨v9, rfl, hr, hb⟩
      obtain ⟨A10, c10, rfl, hc10, hC10⟩ := Kd.R_reads hr
      obtain ⟨ad, y', hA, hx', _, hcell⟩ := Kit.at_ hC10 0 (by simp)
      subst hA
      obtain rfl : y = y' := by simpa using hx'
      have HCL := Aside0.mk hcell
      have B9 := Aside0.mk (below_step B.out hb)
      have D9 := Aside0.mk (D.out.below hb)
      have L9 := Aside0.mk (L.out.step (Nat.le_of_eq HB8.out.symm) hb)
      clear hb hr hc10 hC10 hx' hcell D
      go_wp2_with (first
        | ((with_reducible refine gate_dst (N := 73) rfl ?_); refine load_it rfl rfl rfl HCL.out HY.out.1 Tryz.underlying39 rfl size39 ?_))
      refine (add_any y g b8 m _ _ (HE.out.below B9.out) D9.out HY.out.1 (by have := HY.out.2; omega) HOM.out (bldF_ok m p k) (by have := L9.out.1; have := HB8.out; omega) HB4.out.1 HB4.out.2.2.2).mono ?_
      rintro e w10 ⟨rfl, hd, hl⟩
      rw [← HST.out] at hd
      have D10 := Aside0.mk hd
      have L10 := Aside0.mk (L9.out.trans hl)
      clear hd hl
      go_wp2_with fail
      go_roundg (gk - 1)
      case measure => have := HGF.out; omega
      case rel => exact ⟨k + 1, by omega, by go_num, by have := HGF.out; unfold Hid; omega, D10, L10⟩
    · obtain rfl : k = np := by omega
      have X9 := Aside0.mk (show Blk wr gx (itV x) 39 from (L.out.2.1 gx HB4.out.2.2.1 HGN.out).trans X8.out)
      obtain ⟨lb, hlb⟩ : ∃ lb, bldF m (p.take k) = lb := ⟨_, rfl⟩
      have hbo := bldF_ok m p k
      rw [hlb] at D hbo
      have HBO := Aside0.mk hbo
      have hcs : wr.cell? ⟨gx, 32, none⟩ = some (.string x.2) := by rw [Lib.cell_of_heap X9.out]; exact itV_str HX.out
      have hfs : wr.frozen? ⟨gx, 32, none⟩ = false := Lib.frozen_of_heap X9.out 32
      have HLB := Aside0.mk (show b8 ≤ wr.heap.size by have := L.out.1; have := HB8.out; omega)
      clear hlb hbo X8 D8 Y8
      by_cases hlong : x.2.size ≤ 3000
      · have hmn : min (x.2.size : Int) 3000 = (x.2.size : Int) := by omega
        go_wp2_with fail
        obtain ⟨w11, hw11⟩ : ∃ w11, wr.setCell ⟨gx, 32, none⟩ (.string x.2) = w11 := ⟨_, rfl⟩
        have X11 := Aside0.mk (show Blk w11 gx (itV (x.1, x.2)) 39 by rw [← hw11, ← itV_set x x.2 HX.out]; exact blk_set X9.out 32 _)
        have D11 := Aside0.mk (show Bld w11 g b8 m lb by rw [← hw11]; exact D.out.set_other HGN.out HB4.out.2.2.1 32 _)
        have B11 := Aside0.mk (show Below W.heap.size W w11 by rw [← hw11]; exact B.out.setCell (p := ⟨gx, 32, none⟩) HGX.out _)
        have L11 := Aside0.mk (show b8 ≤ w11.heap.size by rw [← hw11]; have := ((Below.refl 0 wr).setCell (p := ⟨gx, 32, none⟩) (Nat.zero_le _) (.string x.2)).size; have := HLB.out; omega)
        rw [hw11]
        clear hw11 hcs hfs X9 D B
        have HLAW := Aside0.mk (refuse_law m lb (x.1, x.2) hlong HBO.out)
        have HADD := Aside0.mk (fun w he h hb => add_any (x.1, x.2) g b8 m lb w he h HX.out (show (x.2).size ≤ _ by have := hlong; omega) HOM.out HBO.out hb HB4.out.1 HB4.out.2.2.2)
        have HLN := Aside0.mk (fun lb w h => len_any g b8 m lb w h)
        have HRM := Aside0.mk (fun lb w he h hbo => room_any g b8 m lb w he h HOM.out (bOk_sum hbo HOM.out) hbo.1)
        have HTE := Aside0.mk (fun A c w h => rtext_any A 1 c [(x.1, x.2)] w h (by omega) (by intro z hz; rw [List.mem_singleton.mp hz]; have := hlong; show (x.2).size ≤ _; omega))
        have HSZ := packS_size [(x.1, x.2)] (by intro z hz; rw [List.mem_singleton.mp hz]; exact HX.out)
        obtain ⟨s, hs⟩ : ∃ s, packS [(x.1, x.2)] = s := ⟨_, rfl⟩
        rw [hs] at HSZ HTE
        rw [← HSZ] at HLAW
        clear HSZ hs
        obtain ⟨nb, hnb⟩ : ∃ nb, lb.length = nb := ⟨_, rfl⟩
        obtain ⟨rm, hrm⟩ : ∃ rm, roomF m lb = rm := ⟨_, rfl⟩
        have HNB := Aside0.mk hnb
        have HRB := Aside0.mk hrm
        clear hnb hrm
        refine (HLN.out lb _ D11.out).mono ?_
        rintro e w12 ⟨rfl, hb⟩
        rw [HNB.out]
        have X12 := Aside0.mk (X11.out.below hb)
        have D12 := Aside0.mk (D11.out.below hb)
        have B12 := Aside0.mk (below_step B11.out hb)
        have L12 := Aside0.mk (show b8 ≤ w12.heap.size by have := hb.size; have := L11.out; omega)
        clear hb X11 D11 L11
        go_wp2_with fail
        refine (HRM.out lb _ (HE.out.below B12.out) D12.out HBO.out).mono ?_
        rintro e w13 ⟨rfl, hb⟩
        rw [HRB.out]
        have X13 := Aside0.mk (X12.out.below hb)
        have D13 := Aside0.mk (D12.out.below hb)
        have B13 := Aside0.mk (below_step B12.out hb)
        have L13 := Aside0.mk (show b8 ≤ w13.heap.size by have := hb.size; have := L12.out; omega)
        have hcs : w13.cell? ⟨gx, 32, none⟩ = some (.string x.2) := by rw [Lib.cell_of_heap X13.out]; exact itV_str (x := (x.1, x.2)) HX.out
        clear hb X12 D12 L12
        go_wp2_with (first
          | ((with_reducible refine gate_dst (N := 88) rfl ?_); refine load_id (x := (x.1, x.2)) rfl rfl rfl X13.out HX.out Tryz.underlying37 rfl size37 ?_)
          | ((with_reducible refine gate_dst (N := 91) rfl ?_); refine Kd.event_run rfl (exec_item rfl rfl rfl (built36 _ x.2 (by rw [u8s_size]; exact HX.out.1)) _) ?_)
          | ((with_reducible refine gate_dst (N := 92) rfl ?_); refine slice_one (cs := itV (x.1, x.2)) rfl rfl rfl Tryz.underlying24 zero36 (itV_size okId_z) (itV_size (x := (x.1, x.2)) HX.out) (by omega) (by omega) ?_; intro g31 w14 hg31 hz hb; have Y14 := Aside0.mk (Kit.of_blk (x := (x.1, x.2)) hz HX.out); have X14 := Aside0.mk (X13.out.below hb); have D14 := Aside0.mk (D13.out.below hb); have B14 := Aside0.mk (below_step B13.out hb); have L14 := Aside0.mk (show b8 ≤ w14.heap.size by have := hb.size; have := L13.out; omega); clear hg31 hz hb))
        refine (HTE.out _ _ _ Y14.out).mono ?_
        rintro e w15 ⟨rfl, hb⟩
        have X15 := Aside0.mk (X14.out.below hb)
        have D15 := Aside0.mk (D14.out.below hb)
        have B15 := Aside0.mk (below_step B14.out hb)
        have L15 := Aside0.mk (show b8 ≤ w15.heap.size by have := hb.size; have := L14.out; omega)
        clear hb X14 D14 L14 Y14
        go_wp2_with (first
          | ((with_reducible refine gate_dst (N := 96) rfl ?_); refine load_blk rfl rfl rfl X15.out Tryz.underlying39 rfl (by rw [itV_size (x := (x.1, x.2)) HX.out]; exact size39) ?_))
        refine (HADD.out _ (HE.out.below B15.out) D15.out L15.out).mono ?_
        rintro e w16 ⟨rfl, hd, hl⟩
        have B16 := Aside0.mk (B15.out.trans (hl.2.2 _ HB4.out.2.1 HG.out))
        have D16 := Aside0.mk hd
        clear hd hl X15 D15
        rcases HLAW.out with ⟨h1, h2⟩ | ⟨h1, h2, h3, h3b⟩ | ⟨h1, h2, h3⟩
        · rw [h2] at D16 ⊢
          clear h2
          go_wp2_with fail
          refine (HLN.out lb _ D16.out).mono ?_
          rintro e w17 ⟨rfl, hb⟩
          rw [HNB.out]
          have D17 := Aside0.mk (D16.out.below hb)
          have B17 := Aside0.mk (below_step B16.out hb)
          clear hb D16
          go_wp2_with fail
          refine (HRM.out lb _ (HE.out.below B17.out) D17.out HBO.out).mono ?_
          rintro e w18 ⟨rfl, hb⟩
          rw [HRB.out]
          have B18 := Aside0.mk (below_step B17.out hb)
          clear hb D17
          go_wp2_with fail
          go_ret
          exact ⟨rfl, B18.out⟩
        · have HBO2 := Aside0.mk (show bOk m (lb ++ [(x.1, x.2)]) by have := addF_ok (x := (x.1, x.2)) HBO.out; rw [h2] at this; exact this)
          rw [h2] at D16 ⊢
          have HNB2 := Aside0.mk (show (lb ++ [(x.1, x.2)]).length = nb + 1 by rw [List.length_append, HNB.out]; rfl)
          rw [HRB.out] at h3
          obtain ⟨rm2, hrm2⟩ : ∃ rm2, roomF m (lb ++ [(x.1, x.2)]) = rm2 := ⟨_, rfl⟩
          rw [hrm2] at h3
          have HRB2 := Aside0.mk hrm2
          have hnb3 : nb < 1000 := by rw [← HNB.out]; exact h3b
          clear h2 hrm2 h3b
          go_wp2_with fail
          refine (HLN.out _ _ D16.out).mono ?_
          rintro e w17 ⟨rfl, hb⟩
          rw [HNB2.out]
          have D17 := Aside0.mk (D16.out.below hb)
          have B17 := Aside0.mk (below_step B16.out hb)
          clear hb D16
          go_wp2_with fail
          refine (HRM.out _ _ (HE.out.below B17.out) D17.out HBO2.out).mono ?_
          rintro e w18 ⟨rfl, hb⟩
          rw [HRB2.out]
          have B18 := Aside0.mk (below_step B17.out hb)
          clear hb D17
          go_wp2_with fail
          go_ret
          exact ⟨rfl, B18.out⟩
        · rw [h2] at D16 ⊢
          rw [HNB.out] at h3
          clear h2
          go_wp2_with fail
          refine (HLN.out lb _ D16.out).mono ?_
          rintro e w17 ⟨rfl, hb⟩
          rw [HNB.out]
          have D17 := Aside0.mk (D16.out.below hb)
          have B17 := Aside0.mk (below_step B16.out hb)
          clear hb D16
          go_wp2_with fail
          refine (HRM.out lb _ (HE.out.below B17.out) D17.out HBO.out).mono ?_
          rintro e w18 ⟨rfl, hb⟩
          rw [HRB.out]
          have B18 := Aside0.mk (below_step B17.out hb)
          clear hb D17
          go_wp2_with fail
          go_ret
          exact ⟨rfl, B18.out⟩
      · have hmn : min (x.2.size : Int) 3000 = 3000 := by omega
        obtain ⟨t3, ht3⟩ : ∃ t3, x.2.extract 0 3000 = t3 := ⟨_, rfl⟩
        have ht3s : t3.size ≤ 3000 := by rw [← ht3, ← data_length, extract_list, List.length_take]; omega
        go_wp2_with fail
        clear ht3
        obtain ⟨w11, hw11⟩ : ∃ w11, wr.setCell ⟨gx, 32, none⟩ (.string t3) = w11 := ⟨_, rfl⟩
        have X11 := Aside0.mk (show Blk w11 gx (itV (x.1, t3)) 39 by rw [← hw11, ← itV_set x t3 HX.out]; exact blk_set X9.out 32 _)
        have D11 := Aside0.mk (show Bld w11 g b8 m lb by rw [← hw11]; exact D.out.set_other HGN.out HB4.out.2.2.1 32 _)
        have B11 := Aside0.mk (show Below W.heap.size W w11 by rw [← hw11]; exact B.out.setCell (p := ⟨gx, 32, none⟩) HGX.out _)
        have L11 := Aside0.mk (show b8 ≤ w11.heap.size by rw [← hw11]; have := ((Below.refl 0 wr).setCell (p := ⟨gx, 32, none⟩) (Nat.zero_le _) (.string t3)).size; have := HLB.out; omega)
        rw [hw11]
        clear hw11 hcs hfs X9 D B
        have HLAW := Aside0.mk (refuse_law m lb (x.1, t3) ht3s HBO.out)
        have HADD := Aside0.mk (fun w he h hb => add_any (x.1, t3) g b8 m lb w he h HX.out (show (t3).size ≤ _ by have := ht3s; omega) HOM.out HBO.out hb HB4.out.1 HB4.out.2.2.2)
        have HLN := Aside0.mk (fun lb w h => len_any g b8 m lb w h)
        have HRM := Aside0.mk (fun lb w he h hbo => room_any g b8 m lb w he h HOM.out (bOk_sum hbo HOM.out) hbo.1)
        have HTE := Aside0.mk (fun A c w h => rtext_any A 1 c [(x.1, t3)] w h (by omega) (by intro z hz; rw [List.mem_singleton.mp hz]; have := ht3s; show (t3).size ≤ _; omega))
        have HSZ := packS_size [(x.1, t3)] (by intro z hz; rw [List.mem_singleton.mp hz]; exact HX.out)
        obtain ⟨s, hs⟩ : ∃ s, packS [(x.1, t3)] = s := ⟨_, rfl⟩
        rw [hs] at HSZ HTE
        rw [← HSZ] at HLAW
        clear HSZ hs
        obtain ⟨nb, hnb⟩ : ∃ nb, lb.length = nb := ⟨_, rfl⟩
        obtain ⟨rm, hrm⟩ : ∃ rm, roomF m lb = rm := ⟨_, rfl⟩
        have HNB := Aside0.mk hnb
        have HRB := Aside0.mk hrm
        clear hnb hrm
        refine (HLN.out lb _ D11.out).mono ?_
        rintro e w12 ⟨rfl, hb⟩
        rw [HNB.out]
        have X12 := Aside0.mk (X11.out.below hb)
        have D12 := Aside0.mk (D11.out.below hb)
        have B12 := Aside0.mk (below_step B11.out hb)
        have L12 := Aside0.mk (show b8 ≤ w12.heap.size by have := hb.size; have := L11.out; omega)
        clear hb X11 D11 L11
        go_wp2_with fail
        refine (HRM.out lb _ (HE.out.below B12.out) D12.out HBO.out).mono ?_
        rintro e w13 ⟨rfl, hb⟩
        rw [HRB.out]
        have X13 := Aside0.mk (X12.out.below hb)
        have D13 := Aside0.mk (D12.out.below hb)
        have B13 := Aside0.mk (below_step B12.out hb)
        have L13 := Aside0.mk (show b8 ≤ w13.heap.size by have := hb.size; have := L12.out; omega)
        have hcs : w13.cell? ⟨gx, 32, none⟩ = some (.string t3) := by rw [Lib.cell_of_heap X13.out]; exact itV_str (x := (x.1, t3)) HX.out
        clear hb X12 D12 L12
        go_wp2_with (first
          | ((with_reducible refine gate_dst (N := 88) rfl ?_); refine load_id (x := (x.1, t3)) rfl rfl rfl X13.out HX.out Tryz.underlying37 rfl size37 ?_)
          | ((with_reducible refine gate_dst (N := 91) rfl ?_); refine Kd.event_run rfl (exec_item rfl rfl rfl (built36 _ t3 (by rw [u8s_size]; exact HX.out.1)) _) ?_)
          | ((with_reducible refine gate_dst (N := 92) rfl ?_); refine slice_one (cs := itV (x.1, t3)) rfl rfl rfl Tryz.underlying24 zero36 (itV_size okId_z) (itV_size (x := (x.1, t3)) HX.out) (by omega) (by omega) ?_; intro g31 w14 hg31 hz hb; have Y14 := Aside0.mk (Kit.of_blk (x := (x.1, t3)) hz HX.out); have X14 := Aside0.mk (X13.out.below hb); have D14 := Aside0.mk (D13.out.below hb); have B14 := Aside0.mk (below_step B13.out hb); have L14 := Aside0.mk (show b8 ≤ w14.heap.size by have := hb.size; have := L13.out; omega); clear hg31 hz hb))
        refine (HTE.out _ _ _ Y14.out).mono ?_
        rintro e w15 ⟨rfl, hb⟩
        have X15 := Aside0.mk (X14.out.below hb)
        have D15 := Aside0.mk (D14.out.below hb)
        have B15 := Aside0.mk (below_step B14.out hb)
        have L15 := Aside0.mk (show b8 ≤ w15.heap.size by have := hb.size; have := L14.out; omega)
        clear hb X14 D14 L14 Y14
        go_wp2_with (first
          | ((with_reducible refine gate_dst (N := 96) rfl ?_); refine load_blk rfl rfl rfl X15.out Tryz.underlying39 rfl (by rw [itV_size (x := (x.1, t3)) HX.out]; exact size39) ?_))
        refine (HADD.out _ (HE.out.below B15.out) D15.out L15.out).mono ?_
        rintro e w16 ⟨rfl, hd, hl⟩
        have B16 := Aside0.mk (B15.out.trans (hl.2.2 _ HB4.out.2.1 HG.out))
        have D16 := Aside0.mk hd
        clear hd hl X15 D15
        rcases HLAW.out with ⟨h1, h2⟩ | ⟨h1, h2, h3, h3b⟩ | ⟨h1, h2, h3⟩
        · rw [h2] at D16 ⊢
          clear h2
          go_wp2_with fail
          refine (HLN.out lb _ D16.out).mono ?_
          rintro e w17 ⟨rfl, hb⟩
          rw [HNB.out]
          have D17 := Aside0.mk (D16.out.below hb)
          have B17 := Aside0.mk (below_step B16.out hb)
          clear hb D16
          go_wp2_with fail
          refine (HRM.out lb _ (HE.out.below B17.out) D17.out HBO.out).mono ?_
          rintro e w18 ⟨rfl, hb⟩
          rw [HRB.out]
          have B18 := Aside0.mk (below_step B17.out hb)
          clear hb D17
          go_wp2_with fail
          go_ret
          exact ⟨rfl, B18.out⟩
        · have HBO2 := Aside0.mk (show bOk m (lb ++ [(x.1, t3)]) by have := addF_ok (x := (x.1, t3)) HBO.out; rw [h2] at this; exact this)
          rw [h2] at D16 ⊢
          have HNB2 := Aside0.mk (show (lb ++ [(x.1, t3)]).length = nb + 1 by rw [List.length_append, HNB.out]; rfl)
          rw [HRB.out] at h3
          obtain ⟨rm2, hrm2⟩ : ∃ rm2, roomF m (lb ++ [(x.1, t3)]) = rm2 := ⟨_, rfl⟩
          rw [hrm2] at h3
          have HRB2 := Aside0.mk hrm2
          have hnb3 : nb < 1000 := by rw [← HNB.out]; exact h3b
          clear h2 hrm2 h3b
          go_wp2_with fail
          refine (HLN.out _ _ D16.out).mono ?_
          rintro e w17 ⟨rfl, hb⟩
          rw [HNB2.out]
          have D17 := Aside0.mk (D16.out.below hb)
          have B17 := Aside0.mk (below_step B16.out hb)
          clear hb D16
          go_wp2_with fail
          refine (HRM.out _ _ (HE.out.below B17.out) D17.out HBO2.out).mono ?_
          rintro e w18 ⟨rfl, hb⟩
          rw [HRB2.out]
          have B18 := Aside0.mk (below_step B17.out hb)
          clear hb D17
          go_wp2_with fail
          go_ret
          exact ⟨rfl, B18.out⟩
        · rw [h2] at D16 ⊢
          rw [HNB.out] at h3
          clear h2
          go_wp2_with fail
          refine (HLN.out lb _ D16.out).mono ?_
          rintro e w17 ⟨rfl, hb⟩
          rw [HNB.out]
          have D17 := Aside0.mk (D16.out.below hb)
          have B17 := Aside0.mk (below_step B16.out hb)
          clear hb D16
          go_wp2_with fail
          refine (HRM.out lb _ (HE.out.below B17.out) D17.out HBO.out).mono ?_
          rintro e w18 ⟨rfl, hb⟩
          rw [HRB.out]
          have B18 := Aside0.mk (below_step B17.out hb)
          clear hb D17
          go_wp2_with fail
          go_ret
          exact ⟨rfl, B18.out⟩

end Go.Proofs.YtceopllngemnnaaGreatDoor

