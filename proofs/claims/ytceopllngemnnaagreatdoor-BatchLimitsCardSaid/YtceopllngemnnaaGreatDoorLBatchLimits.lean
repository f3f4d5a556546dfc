/-
  The law BatchLimits: in a world that holds what the library reads, the call returns true and leaves what was there. For every two bytes.
-/
import Derived.Test.YtceopllngemnnaaGreatDoorLBatchTruncates
set_option linter.unusedVariables false
set_option linter.unusedSimpArgs false
namespace Go.Proofs.YtceopllngemnnaaGreatDoor
open Go.RowKit Go.Proofs.YtceopllngemnnaaGreatDoorW.PrintWords Go.Proofs.YtceopllngemnnaaGreatDoorW.PrintLast Go.Proofs.YtceopllngemnnaaGreatDoorW.PrintMore Go.Proofs.YtceopllngemnnaaGreatDoor.PRef
attribute [local go_sem] max2_int min2_int max_two min_two

/-! ### plain -/
theorem sumN_rep (x : It) : ∀ m : Nat, sumN (List.replicate m x) = m * sizeN x
  | 0 => by simp [sumN]
  | m + 1 => by
    have ih := sumN_rep x m
    unfold sumN at ih ⊢
    rw [List.replicate_succ, List.map_cons, List.sum_cons, ih, Nat.succ_mul]; omega
theorem size_zero : sizeN zIt ≤ 200 := by
  have := dec_len 0
  show (numB 0).size + 0 + 115 ≤ 200
  rw [numB_size]; omega
theorem total_rep {m : Nat} (h : m ≤ 1000) : totalN (List.replicate m zIt) ≤ 500000 := by
  have h1 := frameN_le m (by omega)
  have h2 := size_zero
  unfold totalN
  rw [sumN_rep, List.length_replicate]
  have : m * sizeN zIt ≤ 1000 * 200 := Nat.mul_le_mul h h2
  omega
theorem check_rep {m : Nat} (h : m ≤ 1000) : checkN (List.replicate m zIt) = 0 := by
  unfold checkN
  rw [List.length_replicate, if_neg (by omega), if_pos (by intro x hx; rw [List.eq_of_mem_replicate hx]; decide), if_neg]
  have := total_rep h
  omega
theorem check_many {m : Nat} (h : 1000 < m) : checkN (List.replicate m zIt) = 9 := by
  unfold checkN
  rw [List.length_replicate, if_pos h]
theorem check_single {s : ByteArray} : checkN [(zId, s)] = if s.size ≤ 65536 then 0 else 5 := by
  unfold checkN
  rw [if_neg (by simp)]
  by_cases h : s.size ≤ 65536
  · rw [if_pos h, if_pos (by intro x hx; rw [List.mem_singleton.mp hx]; exact h), if_neg]
    have h1 := frameN_le 1 (by omega)
    have h2 := sizeN_le (zId, s) h
    simp only [totalN, sumN, List.length_singleton, List.map_cons, List.map_nil, List.sum_cons, List.sum_nil]
    omega
  · rw [if_neg h, if_neg]
    intro hh
    exact h (hh _ (List.mem_singleton.mpr rfl))
theorem built39_text (s : ByteArray) : Tryz.prog.built 39 [(1, .string s)] = some ((u8s zId).push (.string s)) := by
  refine (show Tryz.prog.built 39 [(1, .string s)] = Instr.fill ((#[(0, 32), (32, 1)] : Array (Nat × Nat))[·]?) (itV zIt) [(1, .string s)] by kernel_rfl).trans ?_
  rw [fill_step (v := .string s) (off := 32) (size := 1) rfl rfl (by rw [itV_size okId_z]; omega)]
  rfl
theorem reads_int {w : World} {A : Option Addr} {n : Nat} {xs : List Int} (h : Kd.C (Kd.int .u8) w A n xs) : ReadsInt w .u8 A n xs := Kd.reads_of_C (d := (0 : Int)) h
section
variable {P : Program} {o : Oper} {a : Act}
theorem exec_conv {src dst : TypeId} {x : Operand} {v r : Value} {w w' : World} (ho : o.op = .convert src dst x) (hx : a.eval x = v) (h : (convert src dst v).run P w = .ok r w') : (execOp a.eval o).run P w = .ok (.value r) w' := by
  simp [execOp, ho, hx, h]
end

set_option maxHeartbeats 8000000 in
set_option maxRecDepth 100000 in
theorem batchLimits_walk (p : Int) (wp : (Lit.int .u8 p).wf = true) (q : Int) (wq : (Lit.int .u8 q).wf = true) (W : World) (he : Env W) :
    Calls Tryz.prog 6 #[.int .u8 p, .int .u8 q] W fun r w' => r = .returned (.bool true) ∧ Below W.heap.size W w' := by
  obtain ⟨hp0, hp⟩ : 0 ≤ p ∧ p < 256 := by
    simp [Lit.wf, IntKind.min, IntKind.max, IntKind.signed, IntKind.bits] at wp
    omega
  obtain ⟨hq0, hq⟩ : 0 ≤ q ∧ q < 256 := by
    simp [Lit.wf, IntKind.min, IntKind.max, IntKind.signed, IntKind.bits] at wq
    omega
  clear wp wq
  obtain ⟨n, hn⟩ : ∃ n : Nat, 65539 - p % 8 = n := ⟨(65539 - p % 8).toNat, by omega⟩
  obtain ⟨m, hm⟩ : ∃ m : Nat, 1002 - q % 5 = m := ⟨(1002 - q % 5).toNat, by omega⟩
  have n0 : 65532 ≤ n := by omega
  have n1 : n ≤ 65539 := by omega
  have m0 : 998 ≤ m := by omega
  have m1 : m ≤ 1002 := by omega
  have HN := Aside0.mk hn
  have HM := Aside0.mk hm
  have HE := Aside0.mk he
  have hpk : ∀ t : ByteArray, t.size = n → packR [(zId, t)] = (if n ≤ 65536 then (packS [(zId, t)], 0) else (ByteArray.empty, 5)) ∧ sizeOfN [(zId, t)] = (if n ≤ 65536 then ((packS [(zId, t)]).size : Int) else 0) := by
    intro t ht
    have hc := check_single (s := t)
    rw [ht] at hc
    unfold packR sizeOfN
    rw [hc]
    by_cases h : n ≤ 65536
    · rw [if_pos h, if_pos rfl, if_pos rfl, if_pos h, if_pos h, packS_size _ (by intro x hx; rw [List.mem_singleton.mp hx]; exact okId_z)]
      exact ⟨rfl, rfl⟩
    · simp only [if_neg h]
      exact ⟨rfl, rfl⟩
  have HPK := Aside0.mk hpk
  have HP1 := Aside0.mk (fun (t : ByteArray) A w he h => pack_any A 1 1 [(zId, t)] w he h)
  have HS1 := Aside0.mk (fun (t : ByteArray) A w he h => bsize_any A 1 1 [(zId, t)] w he h)
  have HPM := Aside0.mk (fun A c w he h => pack_any A m c (List.replicate m zIt) w he h)
  have HZM := Aside0.mk (fun A c w he h => bsize_any A m c (List.replicate m zIt) w he h)
  obtain ⟨s2, hs2⟩ : ∃ s2, packS (List.replicate m zIt) = s2 := ⟨_, rfl⟩
  have hrm : (m ≤ 1000 → packR (List.replicate m zIt) = (s2, 0) ∧ s2.size ≤ 1000000) ∧ (¬ m ≤ 1000 → packR (List.replicate m zIt) = (ByteArray.empty, 9) ∧ sizeOfN (List.replicate m zIt) = 0) := by
    constructor
    · intro h
      unfold packR
      rw [if_pos (check_rep h), ← hs2, packS_size _ (by intro x hx; rw [List.eq_of_mem_replicate hx]; exact okId_z)]
      exact ⟨rfl, by have := total_rep h; omega⟩
    · intro h
      unfold packR sizeOfN
      rw [check_many (by omega)]
      exact ⟨rfl, rfl⟩
  have HRM := Aside0.mk hrm
  have hun : m ≤ 1000 → ∀ w, Env w → Calls Tryz.prog 15 #[.string s2] w fun r w' => ∃ v, r = .returned (.tuple #[v, .int .i64 0, .int .i64 0]) ∧ Kit.R 39 w' w.heap.size (fun _ => True) v (List.replicate m zIt) ∧ Below w.heap.size w w' := by
    intro h w hew
    have h1 := unpack_any s2 w hew (hrm.1 h).2
    have h2 : unpackF s2 = (List.replicate m zIt, 0, 0) := by
      rw [← hs2]
      exact unpack_pack _ (by intro x hx; rw [List.eq_of_mem_replicate hx]; exact ⟨okId_z, by decide⟩) (by rw [List.length_replicate]; exact h)
    rw [h2] at h1
    exact h1
  have HUN := Aside0.mk hun
  clear hn hm he hpk hrm hun hs2
  go_enter Tryz.func6, Tryz.ntmps6
  go_upto_region 2 with fail
  rw [HN.out]
  go_wp2_with (first
    | ((with_reducible refine gate_dst (N := 20) rfl ?_); refine Kd.R_make (Kd.int .u8) (w0 := W) W.heap.size 5 rfl rfl 26 (.tmp 19) (.tmp 19) rfl (n : Int) rfl rfl Tryz.underlying26 (.int .u8 0) 1 info5 rfl (by decide) (by decide) (0 : Int) (ok := fun _ => True) (okp := fun _ => False) rfl (fun _ h => h.elim) trivial (by omega) (by omega) (Below.refl _ _) (Nat.le_refl _) ?_; intro v20 w1 hr hb _ _; have B1 := Aside0.mk hb; obtain ⟨A1, c1, rfl, hc1, hC1⟩ := Kd.R_reads hr; rw [List.length_replicate, Int.toNat_natCast] at hC1 ⊢; have C1 := Aside0.mk hC1; clear hb hr hC1 hc1)
    | ((with_reducible refine gate_dst (N := 21) rfl ?_); refine event_run_g rfl (exec_conv rfl rfl (string_of_reads Tryz.underlying26 Tryz.underlying5 Tryz.underlying9 (reads_int C1.out))) ?_; obtain ⟨t, ht⟩ : ∃ t, strOfNums (List.replicate n (0 : Int)) = t := ⟨_, rfl⟩; have hts : t.size = n := (by rw [← ht, strOfNums_size, List.length_replicate]); rw [ht]; clear ht C1)
    | ((with_reducible refine gate_dst (N := 22) rfl ?_); refine event_run_g rfl (exec_build rfl rfl (built39_text t) _) ?_)
    | ((with_reducible refine gate_dst (N := 23) rfl ?_); refine slice_one (cs := itV (zId, t)) rfl rfl rfl Tryz.underlying22 zero39 (itV_size okId_z) (itV_size (x := (zId, t)) okId_z) (by omega) (by omega) ?_; intro g31 w5 hg31 hz hb; have Y5 := Aside0.mk (Kit.of_blk (x := (zId, t)) hz okId_z); have B5 := Aside0.mk (below_step B1.out hb); clear hg31 hz hb))
  have HTS := Aside0.mk hts
  have HQ := Aside0.mk (HPK.out t hts)
  refine (HP1.out t _ _ (HE.out.below B5.out) Y5.out).mono ?_
  rintro e w6 ⟨rfl, hb⟩
  have B6 := Aside0.mk (below_step B5.out hb)
  have Y6 := Aside0.mk (Kd.C_below Y5.out hb)
  clear hb
  rw [HQ.out.1]
  obtain ⟨s1, hs1⟩ : ∃ s1, packS [(zId, t)] = s1 := ⟨_, rfl⟩
  rw [hs1] at HQ
  rw [hs1]
  clear hs1
  by_cases hlt : n ≤ 65536
  · have nI : (n : Int) ≤ 65536 := by omega
    have HS := Aside0.mk (show sizeOfN [(zId, t)] = (s1.size : Int) by rw [HQ.out.2, if_pos hlt])
    rw [if_pos hlt]
    clear hlt
    go_wp2_with fail
    refine (known_any _ (HE.out.below B6.out)).mono ?_
    rintro e w7 ⟨rfl, hb⟩
    have B7 := Aside0.mk (below_step B6.out hb)
    have Y7 := Aside0.mk (Kd.C_below Y6.out hb)
    clear hb
    go_wp2_with fail
    refine (HS1.out t _ _ (HE.out.below B7.out) Y7.out).mono ?_
    rintro e w8 ⟨rfl, hb⟩
    have B8 := Aside0.mk (below_step B7.out hb)
    rw [HS.out]
    clear hb
    go_wp2_with (first
      | ((with_reducible refine gate_dst (N := 57) rfl ?_); refine Kd.R_make Kit (w0 := W) W.heap.size 39 rfl rfl 22 (.tmp 56) (.tmp 56) rfl (m : Int) (congrArg (Value.int .i64) HM.out) (congrArg (Value.int .i64) HM.out) Tryz.underlying22 (.agg (itV zIt)) 48 info39 (itV_size okId_z) (by decide) (by decide) zIt (ok := fun _ => True) (okp := fun _ => False) ⟨rfl, okId_z⟩ (fun _ h => h.elim) trivial (by omega) (by omega) B8.out B8.out.size ?_; intro v57 w9 hr hb _ _; have B9 := Aside0.mk hb; obtain ⟨A9, c9, rfl, hc9, hC9⟩ := Kd.R_reads hr; rw [List.length_replicate, Int.toNat_natCast] at hC9 ⊢; have C9 := Aside0.mk hC9; clear hb hr hC9 hc9))
    refine (HPM.out _ _ _ (HE.out.below B9.out) C9.out).mono ?_
    rintro e w10 ⟨rfl, hb⟩
    have B10 := Aside0.mk (below_step B9.out hb)
    have C10 := Aside0.mk (Kd.C_below C9.out hb)
    clear hb C9
    by_cases hmm : m ≤ 1000
    · rw [(HRM.out.1 hmm).1]
      have HUM := Aside0.mk (HUN.out hmm)
      have mI : ¬ (1000 < (m : Int)) := by omega
      clear hmm
      go_wp2_with fail
      refine (HUM.out _ (HE.out.below B10.out)).mono ?_
      rintro e w11 ⟨v11, rfl, hr, hb⟩
      have B11 := Aside0.mk (below_step B10.out hb)
      obtain ⟨A11, c11, rfl, hc11, hC11⟩ := Kd.R_reads hr
      rw [List.length_replicate]
      clear hb hr hC11 hc11
      go_wp2_with fail
      go_ret
      exact ⟨rfl, B11.out⟩
    · have HSM := Aside0.mk ((HRM.out.2 hmm).2)
      rw [(HRM.out.2 hmm).1]
      have mI : (1000 < (m : Int)) := by omega
      clear hmm
      go_wp2_with fail
      refine (unpack_any ByteArray.empty _ (HE.out.below B10.out) (by decide)).mono ?_
      rintro e w11 ⟨v11, rfl, hr, hb⟩
      have B11 := Aside0.mk (below_step B10.out hb)
      have C11 := Aside0.mk (Kd.C_below C10.out hb)
      obtain ⟨A11, c11, rfl, hc11, hC11⟩ := Kd.R_reads hr
      clear hb hr hC11 hc11
      go_wp2_with fail
      refine (HZM.out _ _ _ (HE.out.below B11.out) C11.out).mono ?_
      rintro e w12 ⟨rfl, hb⟩
      have B12 := Aside0.mk (below_step B11.out hb)
      rw [HSM.out]
      clear hb
      go_wp2_with fail
      go_ret
      exact ⟨rfl, B12.out⟩
  · have nI : ¬ (n : Int) ≤ 65536 := by omega
    have HS := Aside0.mk (show sizeOfN [(zId, t)] = 0 by rw [HQ.out.2, if_neg hlt])
    rw [if_neg hlt]
    clear hlt
    go_wp2_with fail
    refine (known_any _ (HE.out.below B6.out)).mono ?_
    rintro e w7 ⟨rfl, hb⟩
    have B7 := Aside0.mk (below_step B6.out hb)
    have Y7 := Aside0.mk (Kd.C_below Y6.out hb)
    clear hb
    go_wp2_with fail
    refine (HS1.out t _ _ (HE.out.below B7.out) Y7.out).mono ?_
    rintro e w8 ⟨rfl, hb⟩
    have B8 := Aside0.mk (below_step B7.out hb)
    rw [HS.out]
    clear hb
    go_wp2_with (first
      | ((with_reducible refine gate_dst (N := 57) rfl ?_); refine Kd.R_make Kit (w0 := W) W.heap.size 39 rfl rfl 22 (.tmp 56) (.tmp 56) rfl (m : Int) (congrArg (Value.int .i64) HM.out) (congrArg (Value.int .i64) HM.out) Tryz.underlying22 (.agg (itV zIt)) 48 info39 (itV_size okId_z) (by decide) (by decide) zIt (ok := fun _ => True) (okp := fun _ => False) ⟨rfl, okId_z⟩ (fun _ h => h.elim) trivial (by omega) (by omega) B8.out B8.out.size ?_; intro v57 w9 hr hb _ _; have B9 := Aside0.mk hb; obtain ⟨A9, c9, rfl, hc9, hC9⟩ := Kd.R_reads hr; rw [List.length_replicate, Int.toNat_natCast] at hC9 ⊢; have C9 := Aside0.mk hC9; clear hb hr hC9 hc9))
    refine (HPM.out _ _ _ (HE.out.below B9.out) C9.out).mono ?_
    rintro e w10 ⟨rfl, hb⟩
    have B10 := Aside0.mk (below_step B9.out hb)
    have C10 := Aside0.mk (Kd.C_below C9.out hb)
    clear hb C9
    by_cases hmm : m ≤ 1000
    · rw [(HRM.out.1 hmm).1]
      have HUM := Aside0.mk (HUN.out hmm)
      have mI : ¬ (1000 < (m : Int)) := by omega
      clear hmm
      go_wp2_with fail
      refine (HUM.out _ (HE.out.below B10.out)).mono ?_
      rintro e w11 ⟨v11, rfl, hr, hb⟩
      have B11 := Aside0.mk (below_step B10.out hb)
      obtain ⟨A11, c11, rfl, hc11, hC11⟩ := Kd.R_reads hr
      rw [List.length_replicate]
      clear hb hr hC11 hc11
      go_wp2_with fail
      go_ret
      exact ⟨rfl, B11.out⟩
    · have HSM := Aside0.mk ((HRM.out.2 hmm).2)
      rw [(HRM.out.2 hmm).1]
      have mI : (1000 < (m : Int)) := by omega
      clear hmm
      go_wp2_with fail
      refine (unpack_any ByteArray.empty _ (HE.out.below B10.out) (by decide)).mono ?_
      rintro e w11 ⟨v11, rfl, hr, hb⟩
      have B11 := Aside0.mk (below_step B10.out hb)
      have C11 := Aside0.mk (Kd.C_below C10.out hb)
      obtain ⟨A11, c11, rfl, hc11, hC11⟩ := Kd.R_reads hr
      clear hb hr hC11 hc11
      go_wp2_with fail
      refine (HZM.out _ _ _ (HE.out.below B11.out) C11.out).mono ?_
      rintro e w12 ⟨rfl, hb⟩
      have B12 := Aside0.mk (below_step B11.out hb)
      rw [HSM.out]
      clear hb
      go_wp2_with fail
      go_ret
      exact ⟨rfl, B12.out⟩

end Go.Proofs.YtceopllngemnnaaGreatDoor

