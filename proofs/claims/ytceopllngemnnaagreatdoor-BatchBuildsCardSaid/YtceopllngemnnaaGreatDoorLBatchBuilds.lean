/-
  The law BatchBuilds: in a world that holds what the library reads, the call returns true and leaves what was there. For every list of items and every limit.
-/
import Derived.Test.YtceopllngemnnaaGreatDoorI0
set_option linter.unusedVariables false
set_option linter.unusedSimpArgs false
namespace Go.Proofs.YtceopllngemnnaaGreatDoor
open Go.RowKit Go.Proofs.YtceopllngemnnaaGreatDoorW.PrintWords Go.Proofs.YtceopllngemnnaaGreatDoorW.PrintLast Go.Proofs.YtceopllngemnnaaGreatDoorW.PrintMore Go.Proofs.YtceopllngemnnaaGreatDoor.PRef
attribute [local go_sem] max2_int min2_int max_two min_two

/-- An element's address. -/
theorem exec_index {P : Program} {o : Oper} {a : Act} {W : World} {t e : TypeId} {x y : Operand} {ad : Addr} {n c k size : Nat} (ho : o.op = .indexAddr t x y) (hx : a.eval x = .slice (some ad) n c) (hy : a.eval y = .int .i64 (k : Int)) (hu : P.underlying t = some (.slice e)) (hi : (P.info? e).map (·.size) = some size) (hk : k < n) :
    (execOp a.eval o).run P W = .ok (.value (.pointer (some (ad.add (k * size))))) W := by
  obtain ⟨i, hi, hn⟩ := Option.map_eq_some_iff.1 hi
  have hr : (Instr.indexAt t (.slice (some ad) n c) (.int .i64 (k : Int))).run P W = .ok (.pointer (some (ad.add (k * size)))) W := by
    have h0 : (0 : Int) ≤ (k : Int) := by omega
    have h1 : (k : Int) < (n : Int) := by omega
    simp [Instr.indexAt, asIntOf, Sem.run_bind, run_underlying hu, sizeOf, typeInfo, hi, hn, hk]
  simp [execOp, ho, hx, hy, hr]
theorem size24 : (Tryz.prog.info? 24).map (·.size) = some 1 := by kernel_rfl
/-! ### plain -/
/-- What stands when k items have been added: F is flushed, the items from fr on are in the builder. -/
def Bst (p : List It) (most : Int) (M : List (List It)) (k fr : Nat) (F : List (List It)) : Prop :=
  (k = 0 ∧ fr = 0 ∧ F = [] ∧ M = grF p most p.length 1 0) ∨ (0 < k ∧ fr < k ∧ M = F ++ grF p most (p.length + 1 - k) k fr ∧ ((totalN ((p.take k).drop fr) : Nat) : Int) ≤ most)
theorem st_le {p : List It} {most : Int} {M F : List (List It)} {k fr : Nat} (h : Bst p most M k fr F) : fr ≤ k := by
  rcases h with ⟨a, b, _⟩ | ⟨a, b, _⟩ <;> omega
theorem st_ok {p : List It} {most : Int} {M F : List (List It)} {k fr : Nat} (h : Bst p most M k fr F) (hp : p.length ≤ 10) : bOk most ((p.take k).drop fr) := by
  refine ⟨by rw [List.length_drop, List.length_take]; omega, ?_⟩
  rcases h with ⟨rfl, rfl, _⟩ | ⟨_, _, _, h⟩
  · exact .inl (by simp)
  · exact .inr h
theorem st_fit {p : List It} {most : Int} {M F : List (List It)} {k fr : Nat} {y : It} (h : Bst p most M k fr F) (hy : p[k]? = some y) (hf : ((totalN ((p.take k).drop fr ++ [y]) : Nat) : Int) ≤ most) : Bst p most M (k + 1) fr F ∧ (p.take (k + 1)).drop fr = (p.take k).drop fr ++ [y] := by
  have hk : k < p.length := (List.getElem?_eq_some_iff.1 hy).1
  have hm := mid_snoc hy (st_le h)
  refine ⟨.inr ⟨by omega, by have := st_le h; omega, ?_, by rw [hm]; exact hf⟩, hm⟩
  rcases h with ⟨rfl, rfl, rfl, h⟩ | ⟨h1, h2, h3, h4⟩
  · rw [List.nil_append, h]; rfl
  · rw [h3, show p.length + 1 - k = (p.length - k) + 1 by omega, gr_go p most _ k fr hk (by rw [hm]; omega), show p.length + 1 - (k + 1) = p.length - k by omega]
theorem st_cut {p : List It} {most : Int} {M F : List (List It)} {k fr : Nat} {y : It} (h : Bst p most M k fr F) (hy : p[k]? = some y) (hy1 : ((totalN [y] : Nat) : Int) ≤ most) (hf : ¬ ((totalN ((p.take k).drop fr ++ [y]) : Nat) : Int) ≤ most) :
    Bst p most M (k + 1) k (F ++ [(p.take k).drop fr]) ∧ (p.take (k + 1)).drop k = [y] ∧ M[F.length]? = some ((p.take k).drop fr) ∧ (p.take k).drop fr ≠ [] := by
  have hk : k < p.length := (List.getElem?_eq_some_iff.1 hy).1
  have hm := mid_snoc hy (st_le h)
  have h1 := mid_one hy
  rcases h with ⟨rfl, rfl, rfl, h⟩ | ⟨h1', h2, h3, h4⟩
  · exfalso
    apply hf
    simpa using hy1
  · have h5 : M = (F ++ [(p.take k).drop fr]) ++ grF p most (p.length + 1 - (k + 1)) (k + 1) k := by
      rw [h3, show p.length + 1 - k = (p.length - k) + 1 by omega, gr_cut p most _ k fr hk (by rw [hm]; omega), show p.length + 1 - (k + 1) = p.length - k by omega, List.append_assoc]; rfl
    refine ⟨.inr ⟨by omega, by omega, h5, by rw [h1]; exact hy1⟩, h1, ?_, ?_⟩
    · rw [h5, List.append_assoc, List.getElem?_append_right (Nat.le_refl _), Nat.sub_self]; rfl
    · intro he
      have := congrArg List.length he
      rw [List.length_drop, List.length_take] at this
      simp at this
      omega
theorem st_end {p : List It} {most : Int} {M F : List (List It)} {fr : Nat} (h : Bst p most M p.length fr F) (hp : 0 < p.length) : M = F ++ [(p.take p.length).drop fr] ∧ (p.take p.length).drop fr ≠ [] := by
  rcases h with ⟨h1, _⟩ | ⟨h1, h2, h3, h4⟩
  · omega
  · refine ⟨?_, ?_⟩
    · rw [h3, show p.length + 1 - p.length = 0 + 1 by omega, gr_end, List.take_of_length_le (Nat.le_refl _)]
    · intro he
      have := congrArg List.length he
      rw [List.length_drop, List.length_take] at this
      simp at this
      omega
theorem fits_of {x : It} {most : Int} (h : x.2.size ≤ 65536 ∧ ((totalN [x] : Nat) : Int) ≤ most) : fits x most := ⟨h.1, by have := h.2; simp only [totalN, sumN, List.length_singleton, List.map_cons, List.map_nil, List.sum_cons, List.sum_nil] at this; omega⟩
theorem add_yes {most : Int} {l : List It} {x : It} (h : fits x most) (hl : l.length < 1000) (ht : ((totalN (l ++ [x]) : Nat) : Int) ≤ most) : addF most l x = (0, l ++ [x]) := by
  unfold addF; rw [if_pos h, if_pos ⟨hl, ht⟩]
theorem room_eq {most : Int} {l : List It} (h : ((totalN l : Nat) : Int) ≤ most) : roomF most l = most - ((totalN l : Nat) : Int) := by
  unfold roomF totalN
  unfold totalN at h
  rw [if_pos (by omega)]; omega
theorem room_none (most : Int) : roomF most [] = if 0 ≤ most - 12 then most - 12 else 0 := by
  have h : Lib.decDigits 0 = [48] := by rw [Lib.decDigits, dif_pos (by omega)]; rfl
  have h1 : frameN 0 = 12 := by unfold frameN; rw [numB_size, h]; rfl
  unfold roomF
  rw [List.length_nil, h1]
  simp [sumN]
/-- A builder beside a row of something else that grows. -/
theorem Bld.grown {W W1 : World} {g base : Nat} {most : Int} {l : List It} {v : Value} (h : Bld W g base most l) (hg : W.grownBy W1 v.ownBlock) (ht : ∀ k, v.ownBlock = some k → ∃ cells, W.heap[k]? = some (.cells cells 36 (0, 0))) : Bld W1 g base most l := by
  obtain ⟨A, c, h1, h2⟩ := h
  refine ⟨A, c, blk_grown h1 hg (fun e => ?_), Kd.R_over' h2 ht (by intro q hq; rcases List.mem_cons.mp hq with rfl | hq; decide; cases hq) hg⟩
  obtain ⟨cells, hc⟩ := ht g e.symm
  have h3 : W.heap[g]? = some (.cells #[.int .i64 most, .int .i64 (sumN l), .slice A l.length c] 97 (0, 0)) := h1
  rw [hc] at h3
  injection h3 with h3
  injection h3 with _ h3
  exact absurd h3 (by decide)
/-- A group out of the reference's batches. -/
theorem get_group {w : World} {A : Option Addr} {n : Nat} {M : List (List It)} (h : KG.C w A n M) (i : Nat) (l : List It) (hl : M[i]? = some l) : ∃ ad A' c', A = some ad ∧ w.cell? (ad.add i) = some (.slice A' l.length c') ∧ Kit.C w A' l.length l := by
  have hi : i < M.length := (List.getElem?_eq_some_iff.1 hl).1
  have hn : M.length = n := h.1
  obtain ⟨ad, c, e, hc1, hk, hcell⟩ := Kd.C_get h [] (i : Int) (by omega) (by omega)
  have hg : M.getD ((i : Int)).toNat [] = l := by rw [Int.toNat_natCast, List.getD_eq_getElem?_getD, hl]; rfl
  rw [hg] at hk
  obtain ⟨A', c', e2, _, h3⟩ := hk
  refine ⟨ad, A', c', e, ?_, h3⟩
  have := hcell 0 (.slice A' l.length c') (by rw [e2]; rfl)
  rw [Int.toNat_natCast] at this
  simpa [Kd.slice] using this

set_option maxHeartbeats 8000000 in
set_option maxRecDepth 100000 in
theorem batchBuilds_walk (A : Option Addr) (n c : Nat) (l : List It) (hn : n ≤ 9223372036854775807) (most : Int) (wq : (Lit.int .i64 most).wf = true) (W : World) (hC : Kit.C W A n l) (he : Env W) :
    Calls Tryz.prog 10 #[.slice A n c, .int .i64 most] W fun r w' => r = .returned (.bool true) ∧ Below W.heap.size W w' := by
  obtain ⟨hq0, hq1⟩ : -9223372036854775808 ≤ most ∧ most ≤ 9223372036854775807 := by
    simp [Lit.wf, IntKind.min, IntKind.max, IntKind.signed, IntKind.bits] at wq
    omega
  clear wq
  have hok : ∀ x ∈ toL l, okIt x := toL_ok l (Kit.ok_all hC)
  have hle := toL_le l
  have HTO := Aside0.mk (to_any A n c l W hC hn)
  obtain ⟨p, hp⟩ : ∃ p, toL l = p := ⟨_, rfl⟩
  rw [hp] at hok hle HTO
  obtain ⟨np, hnp⟩ : ∃ np, p.length = np := ⟨_, rfl⟩
  have h10 : np ≤ 10 := by omega
  have HOK := Aside0.mk hok
  have HNP := Aside0.mk hnp
  have HE := Aside0.mk he
  have H4 := Aside0.mk he.big
  clear hok hle hp hC hnp he
  by_cases hom : okMost most
  · by_cases haf : allFit p most
    · have HOM := Aside0.mk hom
      have h1 : ¬ most < 1 := by have := hom.1; omega
      have h2 : ¬ 4194304 < most := by have := hom.2; omega
      have HAF := Aside0.mk haf
      clear hom haf
      go_enter Tryz.func10, Tryz.ntmps10
      go_wp2_with fail
      refine HTO.out.mono ?_
      rintro e w1 ⟨v1, rfl, hr, hb⟩
      have B1 := Aside0.mk hb
      obtain ⟨A1, c1, rfl, hc1, hC1⟩ := Kd.R_reads hr
      rw [HNP.out] at hC1 hc1 ⊢
      have C1 := Aside0.mk hC1
      have HC1 := Aside0.mk hc1
      clear hb hr hC1 hc1 HTO
      go_wp2_with fail
      refine (rsplit_ok A1 np c1 p most _ C1.out HC1.out h10 (fun x hx => (HOK.out x hx).2) HOM.out HAF.out).mono ?_
      rintro e w3 ⟨v3, rfl, hr, hb⟩
      have B3 := Aside0.mk (below_step B1.out hb)
      have C3 := Aside0.mk (Kd.C_below C1.out hb)
      obtain ⟨A3, c3, rfl, _, hM3⟩ := Kd.R_reads hr
      obtain ⟨M, hM⟩ : ∃ M, splitF p most = M := ⟨_, rfl⟩
      have HM := Aside0.mk (show M = grF p most p.length 1 0 from hM.symm)
      rw [hM] at hM3 ⊢
      obtain ⟨nm, hnm⟩ : ∃ nm, M.length = nm := ⟨_, rfl⟩
      rw [hnm] at hM3 ⊢
      have HNM := Aside0.mk hnm
      have M3 := Aside0.mk hM3
      have hnmB : nm ≤ 9223372036854775807 := hM3.2.1
      obtain ⟨b3, hb3⟩ : ∃ b3, w3.heap.size = b3 := ⟨_, rfl⟩
      have HB3 := Aside0.mk hb3
      have HWB := Aside0.mk (show W.heap.size ≤ b3 by have := B3.out.size; omega)
      have H4B := Aside0.mk (show 4 ≤ b3 by have := B3.out.size; have := H4.out; omega)
      clear hb C1 hr hM3 hM hnm hb3
      go_wp2_with fail
      refine (new_ok most _ HOM.out).mono ?_
      rintro e w4 ⟨g, rfl, hg, hbld, hb⟩
      have B4' := Aside0.mk (below_step B3.out hb)
      have D4 := Aside0.mk (hbld b3)
      have HGB := Aside0.mk (show b3 ≤ g by have := HB3.out; omega)
      have HWG := Aside0.mk (show W.heap.size ≤ g by have := HB3.out; have := HWB.out; omega)
      have H4G := Aside0.mk (show 4 ≤ g by have := HB3.out; have := H4B.out; omega)
      have B34' := Aside0.mk (show Below b3 w3 w4 by rw [← HB3.out]; exact hb)
      clear hb hg hbld
      go_wp2_with fail
      refine (known_any _ (HE.out.below B4'.out)).mono ?_
      rintro e w5 ⟨rfl, hb⟩
      have B4 := Aside0.mk (below_step B4'.out hb)
      have D5 := Aside0.mk (D4.out.below hb)
      have HB4 := Aside0.mk (show b3 ≤ w5.heap.size by have := HB3.out; have := B34'.out.size; have := hb.size; omega)
      have B34 := Aside0.mk (show Below b3 w3 w5 from below_then B34'.out (by have := HB3.out; have := B34'.out.size; omega) hb)
      clear hb B4' B34' D4
      go_wp2_with fail
      go_loopg [10, 11, 12] np (fun gf x10 x11 x12 wx => ∃ (k fr : Nat) (F : List (List It)), k ≤ np ∧ x12 = .int .i64 k ∧ x11 = .int .i64 F.length ∧ Hid (np ≤ k + gf) ∧ Aside0 (Bst p most M k fr F) ∧ Aside0 (Kit.R 36 wx b3 (fun _ => True) x10 ((p.take k).drop fr)) ∧ Aside0 (Bld wx g b3 most ((p.take k).drop fr)) ∧ Aside0 (Below b3 w5 wx))
      case atStart => exact ⟨0, 0, [], Nat.zero_le _, rfl, rfl, by unfold Hid; omega, ⟨.inl ⟨rfl, rfl, rfl, HM.out⟩⟩, ⟨Kd.R_nil _ _ _ _ _⟩, D5, ⟨Below.refl _ _⟩⟩
      case round =>
        clear D5
        obtain ⟨k, fr, F, hk, rfl, rfl, HGF, ST, R, D, L⟩ := hrel
        have B := Aside0.mk (B4.out.trans (L.out.mono HWB.out))
        obtain ⟨cur, hcur⟩ : ∃ cur, (p.take k).drop fr = cur := ⟨_, rfl⟩
        have HCUR := Aside0.mk hcur
        rw [hcur] at R D
        have hBO := st_ok ST.out (by rw [HNP.out]; exact h10)
        rw [hcur] at hBO
        have HBO := Aside0.mk hBO
        have HSUB := Aside0.mk (show cur.length ≤ 10 ∧ ∀ x ∈ cur, okIt x by
          rw [← hcur]
          exact ⟨by rw [List.length_drop, List.length_take, HNP.out]; omega, fun x hx => HOK.out x (List.mem_of_mem_take (List.mem_of_mem_drop hx))⟩)
        clear hcur hBO
        obtain ⟨nf, hnf⟩ : ∃ nf, F.length = nf := ⟨_, rfl⟩
        have HNF := Aside0.mk hnf
        rw [hnf]
        clear hnf
        by_cases hlt : k < np
        · obtain ⟨y, hy⟩ : ∃ y, p[k]? = some y := ⟨_, List.getElem?_eq_getElem (by rw [HNP.out]; exact hlt)⟩
          have HY := Aside0.mk hy
          have HYO := Aside0.mk (HOK.out y (List.mem_of_getElem? hy))
          have HYF := Aside0.mk (HAF.out y (List.mem_of_getElem? hy))
          obtain ⟨i36, hi36, hs36⟩ := Option.map_eq_some_iff.1 size36
          obtain ⟨A9, hcut, hC9⟩ := cut_one (P := Tryz.prog) 24 36 Tryz.underlying24 hi36 hs36 A1 np c1 p k y hy HNP.out HC1.out
          have HCUT := Aside0.mk hcut
          have C9 := Aside0.mk (hC9 wr (Kd.C_below C3.out (by rw [HB3.out]; exact B34.out.trans (L.out))))
          clear hcut hC9 hi36 hs36 hy
          go_wp2_with (first
            | ((with_reducible refine gate_dst (N := 76) rfl ?_); refine Kd.event_run rfl (exec_slice Tryz.underlying24 rfl rfl rfl rfl (HCUT.out _)) ?_))
          refine (back_any A9 1 _ [y] _ C9.out (by omega)).mono ?_
          rintro e w9 ⟨v9, rfl, hr, hb⟩
          obtain ⟨A10, c10, rfl, hc10, hC10⟩ := Kd.R_reads hr
          obtain ⟨ad, y', hA, hx', _, hcell⟩ := Kit.at_ hC10 0 (by simp)
          subst hA
          obtain rfl : y = y' := by simpa using hx'
          have HCL := Aside0.mk hcell
          have B9 := Aside0.mk (below_step B.out hb)
          have D9 := Aside0.mk (D.out.below hb)
          have R9 := Aside0.mk (Kd.R_below R.out hb)
          have L9 := Aside0.mk (below_then L.out (by have := L.out.size; have := HB4.out; omega) hb)
          clear hb hr hc10 hC10 hx' hcell D B R L C9
          go_wp2_with (first
            | ((with_reducible refine gate_dst (N := 79) rfl ?_); refine load_it rfl rfl rfl HCL.out HYO.out.1 Tryz.underlying39 rfl size39 ?_)
            | ((with_reducible refine gate_dst (N := 13) rfl ?_); refine var_blk (cs := itV y) rfl rfl rfl rfl rfl rfl zero39 (itV_size okId_z) (itV_size HYO.out.1) (itV_one y) (fun _ => rfl) (fun _ => rfl) ?_; intro g13 w10 hg hz hb; have Z10 := Aside0.mk hz; have HZN := Aside0.mk (show g13 ≠ g by have := D9.out.lt; omega); have B10 := Aside0.mk (below_step B9.out hb); have D10 := Aside0.mk (D9.out.below hb); have R10 := Aside0.mk (Kd.R_below R9.out hb); have L10 := Aside0.mk (below_then L9.out (by have := L9.out.size; have := HB4.out; omega) hb); clear hg hz hb D9 B9 R9 L9)
            | ((with_reducible refine gate_dst (N := 81) rfl ?_); refine load_blk rfl rfl rfl Z10.out Tryz.underlying39 rfl (by rw [itV_size HYO.out.1]; exact size39) ?_))
          clear HCL
          by_cases hroom : ((totalN (cur ++ [y]) : Nat) : Int) ≤ most
          · obtain ⟨hst, hcu⟩ := st_fit ST.out HY.out (by rw [HCUR.out]; exact hroom)
            rw [HCUR.out] at hcu
            have HST2 := Aside0.mk hst
            have HCU2 := Aside0.mk hcu
            have hadd := add_yes (fits_of HYF.out) (by have := HSUB.out.1; omega) hroom
            have HADD := Aside0.mk hadd
            have hroom2 := hroom
            clear hst hcu hadd hroom
            obtain ⟨nc2, hnc2⟩ : ∃ nc2, (cur ++ [y]).length = nc2 := ⟨_, rfl⟩
            have HNC2 := Aside0.mk hnc2
            have HCL := Aside0.mk (show (cur).length ≤ 10 by exact HSUB.out.1)
            have HOK2 := Aside0.mk (show ∀ x ∈ cur ++ [y], okIt x by intro x hx; rcases List.mem_append.mp hx with hx | hx; exact HSUB.out.2 x hx; rw [List.mem_singleton.mp hx]; exact HYO.out)
            have HLEN := Aside0.mk (show (cur ++ [y]).length ≤ 1000 by have := HCL.out; rw [List.length_append, List.length_singleton]; omega)
            have HSUM := Aside0.mk (show sumN (cur ++ [y]) ≤ 4194304 from bOk_sum (most := most) ⟨HLEN.out, .inr hroom2⟩ HOM.out)
            have hps := packS_size (cur ++ [y]) (fun x hx => (HOK2.out x hx).1)
            have hrm := room_eq hroom2
            rw [← hps] at hrm
            have hss : ((packS (cur ++ [y])).size : Int) ≤ most := by rw [hps]; exact hroom2
            have HTX2 := Aside0.mk (fun A c w h => rtext_any A nc2 c (cur ++ [y]) w h (by rw [← hnc2]; exact HLEN.out) (fun x hx => (HOK2.out x hx).2))
            obtain ⟨sC, hsC⟩ : ∃ sC, packS (cur ++ [y]) = sC := ⟨_, rfl⟩
            rw [hsC] at hrm hss HTX2
            have HRM := Aside0.mk hrm
            have hnc3 : nc2 ≤ 11 := by have := HCL.out; rw [List.length_append] at hnc2; simp at hnc2; omega
            clear hps hrm hsC hnc2 hroom2
            refine (add_any y g b3 most cur _ (HE.out.below B10.out) D10.out HYO.out.1 (by have := HYO.out.2; omega) HOM.out HBO.out (by have := L10.out.size; have := HB4.out; omega) H4B.out H4G.out).mono ?_
            rintro e w11 ⟨rfl, hd, hl⟩
            rw [HADD.out] at hd ⊢
            have L11 := Aside0.mk (L10.out.trans (hl.2.2.1 b3 (Nat.le_refl _) HGB.out))
            have R11 := Aside0.mk (show Kit.R 36 w11 b3 (fun _ => True) u10 cur by obtain ⟨_, _, hbk, _⟩ := D10.out; exact hl.row R10.out hbk (by intro q hq; rcases List.mem_cons.mp hq with rfl | hq; exact ⟨by decide, by decide⟩; cases hq))
            have D11 := Aside0.mk hd
            clear hd hl D10 R10 L10 B10 Z10 HZN HADD
            obtain ⟨ad2, y2, hA2, hx2, _, hcell2⟩ := Kit.at_ (Kd.C_below C3.out (by rw [HB3.out]; exact B34.out.trans L11.out)) k hlt
            obtain rfl : y = y2 := by rw [HY.out] at hx2; exact Option.some.inj hx2
            subst hA2
            have HCL2 := Aside0.mk hcell2
            clear hx2 hcell2
            go_wp2_with (first
              | ((with_reducible refine gate_dst (N := 120) rfl ?_); refine Kd.event_run rfl (exec_index rfl rfl rfl Tryz.underlying24 size36 hlt) ?_)
              | ((with_reducible refine gate_dst (N := 121) rfl ?_); refine load_it rfl rfl rfl HCL2.out HYO.out.1 Tryz.underlying36 rfl size36 ?_)
              | ((with_reducible refine gate_dst (N := 122) rfl ?_); refine slice_one (cs := itV y) rfl rfl rfl Tryz.underlying24 zero36 (itV_size okId_z) (itV_size HYO.out.1) (by omega) (by omega) ?_; intro g22 w22 hg22 hz hb; have Y22 := Aside0.mk (Kit.of_blk hz HYO.out.1); have R22 := Aside0.mk (Kd.R_below R11.out hb); have L22 := Aside0.mk (below_then L11.out (by have := L11.out.size; have := HB4.out; omega) hb); have D22 := Aside0.mk (D11.out.below hb); clear hg22 hz hb)
              | ((with_reducible refine gate_builtin (b := .append) (xs := #[.tmp 117, .tmp 122]) rfl ?_); refine Kd.R_append_rows Kit (Rr := Kit.K w22) (w0 := w22) b3 rfl (.tmp 117) (.tmp 122) 24 36 (.agg (itV zIt)) 48 rfl Tryz.underlying24 info36 (itV_size okId_z) (by decide) (by omega) u10 cur [y] (some ⟨g22, 0, none⟩) 1 1 (fun _ => True) (fun _ => False) rfl rfl R22.out Y22.out (fun _ _ h => h) (fun _ h => h.elim) (fun _ _ => trivial) (Below.refl _ _) (by have := L22.out.size; have := HB4.out; omega) (by have := HCL.out; omega) ?_; intro v23 w23 ho hb hgr _; have R23 := Aside0.mk ho; have HG22 := Aside0.mk hgr; have HB22 := Aside0.mk hb; have HT22 := Aside0.mk (Kd.R_typed R22.out); clear ho hb hgr))
            have L23 := Aside0.mk (L22.out.trans HB22.out)
            have D23 := Aside0.mk (D22.out.grown HG22.out HT22.out)
            have B23 := Aside0.mk (B4.out.trans (L23.out.mono HWB.out))
            obtain ⟨A23, c23, ev23, hc23, hC23⟩ := Kd.R_reads R23.out
            have hl23 : (cur ++ [y]).length = nc2 := HNC2.out
            rw [hl23] at ev23 hC23
            subst ev23
            have C23 := Aside0.mk hC23
            clear hC23 hc23 hl23 R22 L22 D22 HG22 HB22 HT22 Y22 HCL2
            refine (len_any g b3 most _ _ D23.out).mono ?_
            rintro e w24 ⟨rfl, hb⟩
            rw [HNC2.out]
            have D24 := Aside0.mk (D23.out.below hb)
            have B24 := Aside0.mk (below_step B23.out hb)
            have C24 := Aside0.mk (Kd.C_below C23.out hb)
            have L24 := Aside0.mk (below_then L23.out (by have := L23.out.size; have := HB4.out; omega) hb)
            have R24 := Aside0.mk (Kd.R_below R23.out hb)
            clear hb D23 C23 L23 R23
            go_wp2_with fail
            refine (room_any g b3 most _ _ (HE.out.below B24.out) D24.out HOM.out HSUM.out HLEN.out).mono ?_
            rintro e w25 ⟨rfl, hb⟩
            rw [HRM.out]
            have D25 := Aside0.mk (D24.out.below hb)
            have B25 := Aside0.mk (below_step B24.out hb)
            have C25 := Aside0.mk (Kd.C_below C24.out hb)
            have L25 := Aside0.mk (below_then L24.out (by have := L24.out.size; have := HB4.out; omega) hb)
            have R25 := Aside0.mk (Kd.R_below R24.out hb)
            clear hb D24 C24 L24 R24
            go_wp2_with fail
            refine (HTX2.out _ _ _ C25.out).mono ?_
            rintro e w26 ⟨rfl, hb⟩
            have D26 := Aside0.mk (D25.out.below hb)
            have L26 := Aside0.mk (below_then L25.out (by have := L25.out.size; have := HB4.out; omega) hb)
            have R26 := Aside0.mk (Kd.R_below R25.out hb)
            clear hb D25 C25 L25 R25
            go_wp2_with fail
            go_roundg (gk - 1)
            case measure => have := HGF.out; omega
            case rel => exact ⟨k + 1, fr, F, by omega, by go_num, by rw [HNF.out], by have := HGF.out; unfold Hid; omega, HST2, ⟨by rw [HCU2.out]; exact R26.out⟩, ⟨by rw [HCU2.out]; exact D26.out⟩, L26⟩
          · obtain ⟨hst, hcu, hgrp, hne⟩ := st_cut ST.out HY.out HYF.out.2 (by rw [HCUR.out]; exact hroom)
            rw [HCUR.out] at hst hgrp hne
            have HST2 := Aside0.mk hst
            have HCU2 := Aside0.mk (show (p.take (k + 1)).drop k = [] ++ [y] from hcu)
            have HNE := Aside0.mk hne
            have hfl : nf < nm := by rw [← HNF.out, ← HNM.out]; exact (List.getElem?_eq_some_iff.1 hgrp).1
            rw [HNF.out] at hgrp
            have HGRP := Aside0.mk hgrp
            have hroom1 : most < ((frameN (cur.length + 1) + sumN cur + sizeN y : Nat) : Int) := by rw [← total_snoc]; omega
            have HR1 := Aside0.mk hroom1
            have hroom2 : ((totalN ([] ++ [y]) : Nat) : Int) ≤ most := HYF.out.2
            have hadd := add_yes (l := []) (fits_of HYF.out) (by simp) hroom2
            have HADD := Aside0.mk hadd
            clear hst hcu hadd hroom hgrp hne hroom1
            obtain ⟨nc2, hnc2⟩ : ∃ nc2, (([] : List It) ++ [y]).length = nc2 := ⟨_, rfl⟩
            have HNC2 := Aside0.mk hnc2
            have HCL := Aside0.mk (show ([] : List It).length ≤ 10 by simp)
            have HOK2 := Aside0.mk (show ∀ x ∈ ([] : List It) ++ [y], okIt x by intro x hx; rw [List.mem_singleton.mp hx]; exact HYO.out)
            have HLEN := Aside0.mk (show (([] : List It) ++ [y]).length ≤ 1000 by have := HCL.out; rw [List.length_append, List.length_singleton]; omega)
            have HSUM := Aside0.mk (show sumN (([] : List It) ++ [y]) ≤ 4194304 from bOk_sum (most := most) ⟨HLEN.out, .inr hroom2⟩ HOM.out)
            have hps := packS_size (([] : List It) ++ [y]) (fun x hx => (HOK2.out x hx).1)
            have hrm := room_eq hroom2
            rw [← hps] at hrm
            have hss : ((packS (([] : List It) ++ [y])).size : Int) ≤ most := by rw [hps]; exact hroom2
            have HTX2 := Aside0.mk (fun A c w h => rtext_any A nc2 c (([] : List It) ++ [y]) w h (by rw [← hnc2]; exact HLEN.out) (fun x hx => (HOK2.out x hx).2))
            obtain ⟨sC, hsC⟩ : ∃ sC, packS (([] : List It) ++ [y]) = sC := ⟨_, rfl⟩
            rw [hsC] at hrm hss HTX2
            have HRM := Aside0.mk hrm
            have hnc3 : nc2 ≤ 11 := by have := HCL.out; rw [List.length_append] at hnc2; simp at hnc2; omega
            clear hps hrm hsC hnc2 hroom2
            have hckc := small_check HSUB.out.1 (fun x hx => (HSUB.out.2 x hx).2)
            have HCK := Aside0.mk hckc
            obtain ⟨nc, hnc⟩ : ∃ nc, cur.length = nc := ⟨_, rfl⟩
            have hnc10 : nc ≤ 10 := by rw [← hnc]; exact HSUB.out.1
            have HTX := Aside0.mk (fun A c w h => rtext_any A nc c cur w h (by omega) (fun x hx => (HSUB.out.2 x hx).2))
            have HFL := Aside0.mk (fun w he h hb => flush_any g b3 most cur w he h HNE.out HCK.out hb)
            obtain ⟨sF, hsF⟩ : ∃ sF, packS cur = sF := ⟨_, rfl⟩
            rw [hsF] at HTX HFL
            have HNCU := Aside0.mk hnc
            have hbeq : (sF == sF) = true := by rw [beq_toListBytes, beq_self_eq_true]
            have hbne : (sF != sF) = false := by simp [bne, hbeq]
            clear hckc hnc hsF
            refine (add_full y g b3 most cur _ (HE.out.below B10.out) D10.out HYO.out.1 (by have := HYO.out.2; omega) (fits_of HYF.out) (by have := HSUB.out.1; omega) (bOk_sum HBO.out HOM.out) HOM.out HR1.out).mono ?_
            rintro e w11 ⟨rfl, hb⟩
            have B11 := Aside0.mk (below_step B10.out hb)
            have D11 := Aside0.mk (D10.out.below hb)
            have L11 := Aside0.mk (below_then L10.out (by have := L10.out.size; have := HB4.out; omega) hb)
            have Z11 := Aside0.mk (Z10.out.below hb)
            clear hb D10 R10 L10 B10 Z10
            go_wp2_with fail
            refine (HFL.out _ (HE.out.below B11.out) D11.out (by have := L11.out.size; have := HB4.out; omega)).mono ?_
            rintro e w12 ⟨rfl, hd, hl, hkp⟩
            have L12 := Aside0.mk (L11.out.trans (hl.2.2.1 b3 (Nat.le_refl _) HGB.out))
            have D12 := Aside0.mk hd
            have Z12 := Aside0.mk (show Blk w12 g13 (itV y) 39 from hkp.blk Z11.out HZN.out (by simp))
            have B12 := Aside0.mk (B11.out.trans (hl.2.2.1 W.heap.size HWB.out HWG.out))
            clear hd hl hkp D11 L11 Z11 B11
            obtain ⟨adM, A12, c12, hA3, hcM, hC12⟩ := get_group (Kd.C_below M3.out (by rw [HB3.out]; exact B34.out.trans (L12.out))) nf cur HGRP.out
            rw [HNCU.out] at hcM hC12
            have C12 := Aside0.mk hC12
            subst hA3
            clear hC12
            go_wp2_with (first
              | ((with_reducible refine gate_dst (N := 102) rfl ?_); refine event_run_g rfl (exec_index rfl rfl rfl Tryz.underlying61 size24 hfl) ?_))
            refine (HTX.out _ _ _ C12.out).mono ?_
            rintro e w13 ⟨rfl, hb⟩
            have B13 := Aside0.mk (below_step B12.out hb)
            have D13 := Aside0.mk (D12.out.below hb)
            have L13 := Aside0.mk (below_then L12.out (by have := L12.out.size; have := HB4.out; omega) hb)
            have Z13 := Aside0.mk (Z12.out.below hb)
            clear hb D12 L12 Z12 C12 hcM
            go_wp2_with fail
            refine (len_any g b3 most [] _ D13.out).mono ?_
            rintro e w14 ⟨rfl, hb⟩
            rw [List.length_nil]
            have B14 := Aside0.mk (below_step B13.out hb)
            have D14 := Aside0.mk (D13.out.below hb)
            have L14 := Aside0.mk (below_then L13.out (by have := L13.out.size; have := HB4.out; omega) hb)
            have Z14 := Aside0.mk (Z13.out.below hb)
            clear hb D13 L13 Z13
            go_wp2_with (first
              | ((with_reducible refine gate_dst (N := 115) rfl ?_); refine load_blk rfl rfl rfl Z14.out Tryz.underlying39 rfl (by rw [itV_size HYO.out.1]; exact size39) ?_))
            refine (add_any y g b3 most [] _ (HE.out.below B14.out) D14.out HYO.out.1 (by have := HYO.out.2; omega) HOM.out (bOk_nil _) (by have := L14.out.size; have := HB4.out; omega) H4B.out H4G.out).mono ?_
            rintro e w15 ⟨rfl, hd, hl⟩
            rw [HADD.out] at hd ⊢
            have L15 := Aside0.mk (L14.out.trans (hl.2.2.1 b3 (Nat.le_refl _) HGB.out))
            have D15 := Aside0.mk hd
            have R15 := Aside0.mk (show Kit.R 36 w15 b3 (fun _ => True) (.slice none 0 0) [] from Kd.R_nil _ _ _ _ _)
            clear hd hl D14 L14 B14 Z14 HZN HADD
            obtain ⟨ad2, y2, hA2, hx2, _, hcell2⟩ := Kit.at_ (Kd.C_below C3.out (by rw [HB3.out]; exact B34.out.trans L15.out)) k hlt
            obtain rfl : y = y2 := by rw [HY.out] at hx2; exact Option.some.inj hx2
            subst hA2
            have HCL2 := Aside0.mk hcell2
            clear hx2 hcell2
            go_wp2_with (first
              | ((with_reducible refine gate_dst (N := 120) rfl ?_); refine Kd.event_run rfl (exec_index rfl rfl rfl Tryz.underlying24 size36 hlt) ?_)
              | ((with_reducible refine gate_dst (N := 121) rfl ?_); refine load_it rfl rfl rfl HCL2.out HYO.out.1 Tryz.underlying36 rfl size36 ?_)
              | ((with_reducible refine gate_dst (N := 122) rfl ?_); refine slice_one (cs := itV y) rfl rfl rfl Tryz.underlying24 zero36 (itV_size okId_z) (itV_size HYO.out.1) (by omega) (by omega) ?_; intro g22 w22 hg22 hz hb; have Y22 := Aside0.mk (Kit.of_blk hz HYO.out.1); have R22 := Aside0.mk (Kd.R_below R15.out hb); have L22 := Aside0.mk (below_then L15.out (by have := L15.out.size; have := HB4.out; omega) hb); have D22 := Aside0.mk (D15.out.below hb); clear hg22 hz hb)
              | ((with_reducible refine gate_builtin (b := .append) (xs := #[.tmp 117, .tmp 122]) rfl ?_); refine Kd.R_append_rows Kit (Rr := Kit.K w22) (w0 := w22) b3 rfl (.tmp 117) (.tmp 122) 24 36 (.agg (itV zIt)) 48 rfl Tryz.underlying24 info36 (itV_size okId_z) (by decide) (by omega) (.slice none 0 0) ([] : List It) [y] (some ⟨g22, 0, none⟩) 1 1 (fun _ => True) (fun _ => False) rfl rfl R22.out Y22.out (fun _ _ h => h) (fun _ h => h.elim) (fun _ _ => trivial) (Below.refl _ _) (by have := L22.out.size; have := HB4.out; omega) (by have := HCL.out; omega) ?_; intro v23 w23 ho hb hgr _; have R23 := Aside0.mk ho; have HG22 := Aside0.mk hgr; have HB22 := Aside0.mk hb; have HT22 := Aside0.mk (Kd.R_typed R22.out); clear ho hb hgr))
            have L23 := Aside0.mk (L22.out.trans HB22.out)
            have D23 := Aside0.mk (D22.out.grown HG22.out HT22.out)
            have B23 := Aside0.mk (B4.out.trans (L23.out.mono HWB.out))
            obtain ⟨A23, c23, ev23, hc23, hC23⟩ := Kd.R_reads R23.out
            have hl23 : (([] : List It) ++ [y]).length = nc2 := HNC2.out
            rw [hl23] at ev23 hC23
            subst ev23
            have C23 := Aside0.mk hC23
            clear hC23 hc23 hl23 R22 L22 D22 HG22 HB22 HT22 Y22 HCL2
            refine (len_any g b3 most _ _ D23.out).mono ?_
            rintro e w24 ⟨rfl, hb⟩
            rw [HNC2.out]
            have D24 := Aside0.mk (D23.out.below hb)
            have B24 := Aside0.mk (below_step B23.out hb)
            have C24 := Aside0.mk (Kd.C_below C23.out hb)
            have L24 := Aside0.mk (below_then L23.out (by have := L23.out.size; have := HB4.out; omega) hb)
            have R24 := Aside0.mk (Kd.R_below R23.out hb)
            clear hb D23 C23 L23 R23
            go_wp2_with fail
            refine (room_any g b3 most _ _ (HE.out.below B24.out) D24.out HOM.out HSUM.out HLEN.out).mono ?_
            rintro e w25 ⟨rfl, hb⟩
            rw [HRM.out]
            have D25 := Aside0.mk (D24.out.below hb)
            have B25 := Aside0.mk (below_step B24.out hb)
            have C25 := Aside0.mk (Kd.C_below C24.out hb)
            have L25 := Aside0.mk (below_then L24.out (by have := L24.out.size; have := HB4.out; omega) hb)
            have R25 := Aside0.mk (Kd.R_below R24.out hb)
            clear hb D24 C24 L24 R24
            go_wp2_with fail
            refine (HTX2.out _ _ _ C25.out).mono ?_
            rintro e w26 ⟨rfl, hb⟩
            have D26 := Aside0.mk (D25.out.below hb)
            have L26 := Aside0.mk (below_then L25.out (by have := L25.out.size; have := HB4.out; omega) hb)
            have R26 := Aside0.mk (Kd.R_below R25.out hb)
            clear hb D25 C25 L25 R25
            go_wp2_with fail
            go_roundg (gk - 1)
            case measure => have := HGF.out; omega
            case rel => exact ⟨k + 1, k, F ++ [cur], by omega, by go_num, by rw [List.length_append, HNF.out]; go_num, by have := HGF.out; unfold Hid; omega, HST2, ⟨by rw [HCU2.out]; exact R26.out⟩, ⟨by rw [HCU2.out]; exact D26.out⟩, L26⟩
        · obtain rfl : k = np := by omega
          by_cases h0 : k = 0
          · subst h0
            have hcur0 : cur = [] := by rw [← HCUR.out]; simp
            rw [hcur0] at D
            have hrn := room_none most
            have HRN := Aside0.mk hrn
            clear hcur0 hrn
            go_wp2_with fail
            refine (flush_empty g b3 most _ D.out).mono ?_
            rintro e w11 ⟨rfl, hb⟩
            have B11 := Aside0.mk (below_step B.out hb)
            have D11 := Aside0.mk (D.out.below hb)
            clear hb
            go_wp2_with fail
            refine (room_any g b3 most [] _ (HE.out.below B11.out) D11.out HOM.out (by simp [sumN]) (by simp)).mono ?_
            rintro e w12 ⟨rfl, hb⟩
            have B12 := Aside0.mk (below_step B11.out hb)
            rw [HRN.out]
            clear hb
            by_cases h12 : 0 ≤ most - 12
            · rw [if_pos h12]
              have h12' : ¬ (most - 12 < 0) := by omega
              go_wp2_with fail
              go_ret
              exact ⟨rfl, B12.out⟩
            · rw [if_neg h12]
              have h12' : (most - 12 < 0) := by omega
              go_wp2_with fail
              go_ret
              exact ⟨rfl, B12.out⟩
          · have hst : Bst p most M p.length fr F := by rw [HNP.out]; exact ST.out
            obtain ⟨hme, hne⟩ := st_end hst (by rw [HNP.out]; omega)
            rw [HNP.out, HCUR.out] at hme hne
            have HNE := Aside0.mk hne
            have hgrp : M[nf]? = some cur := by rw [hme, ← HNF.out, List.getElem?_append_right (Nat.le_refl _), Nat.sub_self]; rfl
            have hnm2 : nm = nf + 1 := by rw [← HNM.out, hme, List.length_append, HNF.out]; rfl
            have HGRP := Aside0.mk hgrp
            have hckc := small_check HSUB.out.1 (fun x hx => (HSUB.out.2 x hx).2)
            have HCK := Aside0.mk hckc
            obtain ⟨nc, hnc⟩ : ∃ nc, cur.length = nc := ⟨_, rfl⟩
            have hnc10 : nc ≤ 10 := by rw [← hnc]; exact HSUB.out.1
            have HTX := Aside0.mk (fun A c w h => rtext_any A nc c cur w h (by omega) (fun x hx => (HSUB.out.2 x hx).2))
            have HFL := Aside0.mk (fun w he h hb => flush_any g b3 most cur w he h HNE.out HCK.out hb)
            obtain ⟨sF, hsF⟩ : ∃ sF, packS cur = sF := ⟨_, rfl⟩
            rw [hsF] at HTX HFL
            have HNCU := Aside0.mk hnc
            have hbeq : (sF == sF) = true := by rw [beq_toListBytes, beq_self_eq_true]
            have hk0 : ((k : Int) == 0) = false := by simp; omega
            have hnmI : (nm : Int) - 1 = (nf : Int) := by omega
            have hfl : nf < nm := by omega
            clear hckc hnc hsF hst hme hne hgrp hnm2 h0
            go_wp2_with fail
            refine (HFL.out _ (HE.out.below B.out) D.out (by have := L.out.size; have := HB4.out; omega)).mono ?_
            rintro e w12 ⟨rfl, hd, hl, _⟩
            have L12 := Aside0.mk (L.out.trans (hl.2.2.1 b3 (Nat.le_refl _) HGB.out))
            have B12 := Aside0.mk (B.out.trans (hl.2.2.1 W.heap.size HWB.out HWG.out))
            clear hd hl
            obtain ⟨adM, A12, c12, hA3, hcM, hC12⟩ := get_group (Kd.C_below M3.out (by rw [HB3.out]; exact B34.out.trans (L12.out))) nf cur HGRP.out
            rw [HNCU.out] at hcM hC12
            have C12 := Aside0.mk hC12
            subst hA3
            clear hC12
            go_wp2_with (first
              | ((with_reducible refine gate_dst (N := 178) rfl ?_); refine event_run_g rfl (exec_index rfl rfl rfl Tryz.underlying61 size24 hfl) ?_))
            refine (HTX.out _ _ _ C12.out).mono ?_
            rintro e w13 ⟨rfl, hb⟩
            have B13 := Aside0.mk (below_step B12.out hb)
            clear hb
            go_wp2_with fail
            go_ret
            exact ⟨rfl, B13.out⟩
    · have HOM := Aside0.mk hom
      have h1 : ¬ most < 1 := by have := hom.1; omega
      have h2 : ¬ 4194304 < most := by have := hom.2; omega
      have HAF := Aside0.mk haf
      clear hom haf
      go_enter Tryz.func10, Tryz.ntmps10
      go_wp2_with fail
      refine HTO.out.mono ?_
      rintro e w1 ⟨v1, rfl, hr, hb⟩
      have B1 := Aside0.mk hb
      obtain ⟨A1, c1, rfl, hc1, hC1⟩ := Kd.R_reads hr
      rw [HNP.out] at hC1 hc1 ⊢
      have C1 := Aside0.mk hC1
      have HC1 := Aside0.mk hc1
      clear hb hr hC1 hc1 HTO
      go_wp2_with fail
      refine (rsplit_long A1 np c1 p most _ C1.out HC1.out h10 (fun x hx => (HOK.out x hx).2) HOM.out HAF.out).mono ?_
      rintro e w3 ⟨rfl, hb⟩
      have B3 := Aside0.mk (below_step B1.out hb)
      clear hb C1
      go_wp2_with fail
      refine (new_ok most _ HOM.out).mono ?_
      rintro e w4 ⟨g, rfl, hg, hbld, hb⟩
      have B4 := Aside0.mk (below_step B3.out hb)
      clear hb hg hbld
      go_wp2_with fail
      refine (known_any _ (HE.out.below B4.out)).mono ?_
      rintro e w5 ⟨rfl, hb⟩
      have B5 := Aside0.mk (below_step B4.out hb)
      clear hb
      go_wp2_with fail
      go_ret
      exact ⟨rfl, B5.out⟩
  · have HOM := Aside0.mk hom
    rcases (show most < 1 ∨ (1 ≤ most ∧ 4194304 < most) by unfold okMost at hom; omega) with h1 | ⟨h0, h1⟩
    · clear hom
      go_enter Tryz.func10, Tryz.ntmps10
      go_wp2_with fail
      refine HTO.out.mono ?_
      rintro e w1 ⟨v1, rfl, hr, hb⟩
      have B1 := Aside0.mk hb
      obtain ⟨A1, c1, rfl, hc1, hC1⟩ := Kd.R_reads hr
      rw [HNP.out] at hC1 hc1 ⊢
      have C1 := Aside0.mk hC1
      have HC1 := Aside0.mk hc1
      clear hb hr hC1 hc1 HTO
      go_wp2_with fail
      refine (rsplit_range _ most _ HOM.out).mono ?_
      rintro e w2 ⟨rfl, hb⟩
      have B2 := Aside0.mk (below_step B1.out hb)
      clear hb C1
      go_wp2_with fail
      refine (new_bad most _ HOM.out).mono ?_
      rintro e w3 ⟨rfl, hb⟩
      have B3 := Aside0.mk (below_step B2.out hb)
      clear hb
      go_wp2_with fail
      refine (known_any _ (HE.out.below B3.out)).mono ?_
      rintro e w4 ⟨rfl, hb⟩
      have B4 := Aside0.mk (below_step B3.out hb)
      clear hb
      go_wp2_with fail
      go_ret
      exact ⟨rfl, B4.out⟩
    · clear hom
      go_enter Tryz.func10, Tryz.ntmps10
      go_wp2_with fail
      refine HTO.out.mono ?_
      rintro e w1 ⟨v1, rfl, hr, hb⟩
      have B1 := Aside0.mk hb
      obtain ⟨A1, c1, rfl, hc1, hC1⟩ := Kd.R_reads hr
      rw [HNP.out] at hC1 hc1 ⊢
      have C1 := Aside0.mk hC1
      have HC1 := Aside0.mk hc1
      clear hb hr hC1 hc1 HTO
      go_wp2_with fail
      refine (rsplit_range _ most _ HOM.out).mono ?_
      rintro e w2 ⟨rfl, hb⟩
      have B2 := Aside0.mk (below_step B1.out hb)
      clear hb C1
      go_wp2_with fail
      refine (new_bad most _ HOM.out).mono ?_
      rintro e w3 ⟨rfl, hb⟩
      have B3 := Aside0.mk (below_step B2.out hb)
      clear hb
      go_wp2_with fail
      refine (known_any _ (HE.out.below B3.out)).mono ?_
      rintro e w4 ⟨rfl, hb⟩
      have B4 := Aside0.mk (below_step B3.out hb)
      clear hb
      go_wp2_with fail
      go_ret
      exact ⟨rfl, B4.out⟩

end Go.Proofs.YtceopllngemnnaaGreatDoor

