/-
  The law BatchUnpacks: in a world that holds what the library reads, the call returns true and leaves what was there. For every text.
-/
import Derived.Test.YtceopllngemnnaaGreatDoorH3
import Derived.Test.YtceopllngemnnaaGreatDoorH5
import Derived.Test.YtceopllngemnnaaGreatDoorME
set_option linter.unusedVariables false
set_option linter.unusedSimpArgs false
namespace Go.Proofs.YtceopllngemnnaaGreatDoor
open Go.RowKit Go.Proofs.YtceopllngemnnaaGreatDoorW.PrintWords Go.Proofs.YtceopllngemnnaaGreatDoorW.PrintLast Go.Proofs.YtceopllngemnnaaGreatDoorW.PrintMore Go.Proofs.YtceopllngemnnaaGreatDoor.PRef
attribute [local go_sem] max2_int min2_int max_two min_two

section
variable {P : Program} {ops : Array Oper} {o : Oper} {a : Act} {S : World → Prop}
/-- Several cells, from any address. -/
theorem yields_cells {ty : Nat} {cs : Array Value} {d : TypeDesc} {ad : Addr} (hw : Region.wanted o (yielded ops a.tmps) = true) {p : Tmp} (ho : o.op = .load ty (.tmp p)) (haddr : a.eval (.tmp p) = .pointer (some ad)) (hS : ∀ w, S w → ∀ (j : Nat) v, cs[j]? = some v → w.cell? (ad.add j) = some v)
    (hu : P.underlying ty = some d) (hd : d.isRow = true) (hi : (P.info? ty).map (·.size) = some cs.size) : YieldsIf P ops S o (.agg cs) a :=
  .inl ⟨hw, fun w hS' => exec_load ho haddr (run_load_cells hu hd hi (hS w hS'))⟩
end
theorem exec_same_id {o : Oper} {a : Act} {u v : Operand} {l : List Int} (ho : o.op = .binOp .neq 34 u v 34) (hu : a.eval u = .agg (u8s l)) (hv : a.eval v = .agg (u8s l)) (hl : l.length = 32) (w : World) :
    (execOp a.eval o).run Tryz.prog w = .ok (.value (.bool false)) w := by
  have he : (Op.equal 34 (.agg (u8s l)) (.agg (u8s l))).run Tryz.prog w = .ok true w := by
    have := run_eq_id 9998 Tryz.underlying34 l l hl hl w
    rw [decide_eq_true rfl] at this
    exact this
  have hg : Tryz.prog.eqGuardType Tryz.prog.depth 34 = false := by kernel_rfl
  have e : ∀ av yv : Value, av = .agg (u8s l) → yv = .agg (u8s l) → ((do let r ← (do eqGuard .neq 34 u v av yv; binOp .neq 34 av yv); pure (Next.value r)) : Sem Next).run Tryz.prog w = .ok (.value (.bool false)) w := by
    rintro _ _ rfl rfl
    simp [eqGuard, binOp, Sem.run_bind, hg, he]
  have := e _ _ hu hv
  simpa only [execOp, ho] using this
theorem Kid.at_ {w : World} {A : Option Addr} {n : Nat} {l : List (List Int)} (h : Kid.C w A n l) (k : Nat) (hk : k < n) : ∃ ad x, A = some ad ∧ l[k]? = some x ∧ okId x ∧ ∀ (j : Nat) v, (u8s x)[j]? = some v → w.cell? ((ad.add (k * 32)).add j) = some v := by
  obtain ⟨ad, e, hc⟩ := h.2.2 (by omega)
  have hl : k < l.length := by have := h.1; omega
  obtain ⟨c, hs, hr, hcell⟩ := hc k _ (List.getElem?_eq_getElem hl)
  refine ⟨ad, l[k], e, List.getElem?_eq_getElem hl, hr.2, fun j v hv => ?_⟩
  have h1 := hcell j v (by rw [hr.1]; simpa using hv)
  rw [Go.Proofs.YtceopllngemnnaaGreatDoorW.PrintWords.add_add]
  exact h1
theorem size_at {w : World} {A : Option Addr} {n : Nat} {l : List Int} (h : (Kd.int .i64).C w A n l) (k : Nat) (hk : k < n) (x : Int) (hx : l[k]? = some x) : ∃ ad, A = some ad ∧ w.cell? (ad.add k) = some (.int .i64 x) := by
  obtain ⟨ad, e, hc⟩ := h.2.2 (by omega)
  obtain ⟨c, hs, hr, hcell⟩ := hc k x hx
  refine ⟨ad, e, ?_⟩
  have h1 := hcell 0 (.int .i64 x) (by rw [show c = [.int .i64 x] from hr]; rfl)
  simpa [Kd.int, Kd.scalar] using h1
theorem unpack_pack_check {s : ByteArray} (hs : s.size ≤ 6000) (h : (unpackF s).2.2 = 0) : packR (unpackF s).1 = (s, 0) := by
  obtain ⟨h1, h2, h3, _⟩ := unpack_inv s h
  have h4 := packS_size (unpackF s).1 (fun x hx => (h2 x hx).1)
  rw [← h1] at h4
  have hc : checkN (unpackF s).1 = 0 := by
    unfold checkN
    rw [if_neg (by omega), if_pos (fun x hx => (h2 x hx).2), if_neg (by omega)]
  unfold packR
  rw [if_pos hc, ← h1]

/-! Region tables, printed by rg2.py. -/
def r7_10a.T : Bool × List (List Nat × List Nat) := (true, [([], []), ([], []), ([0, 1], [0, 1]), ([2], [2]), ([], []), ([], []), ([4, 5], [4, 5]), ([6], [6]), ([7], [7]), ([3, 8], [3, 8]), ([9], [9]), ([10], [10]), ([10], [10]), ([11, 12, 10], [10, 11, 12]), ([13, 10], [10, 13]), ([10], [10]), ([10], [10]), ([15, 16, 10], [10, 15, 16]), ([17, 10], [10, 17]), ([18, 10], [10, 18]), ([19, 10], [10, 19]), ([14, 20, 10], [10, 14, 20]), ([10, 21], [10, 21])])
def r7_10a.B : List Nat := [0, 0, 3, 7, 0, 0, 48, 112, 240, 511, 1023, 2047, 2047, 8191, 16383, 2047, 2047, 100351, 231423, 493567, 1017855, 2097151, 4194303]
theorem r7_10a.tab : rtab .any (opsOf Tryz.f7 10) = r7_10a.T := by kernel_rfl
theorem r7_10a.bits : waitsOk r7_10a.T.2 r7_10a.B = true := by kernel_rfl
def r7_10b.T : Bool × List (List Nat × List Nat) := (true, [([], []), ([], []), ([0, 1], [0, 1]), ([2], [2]), ([], []), ([], []), ([4, 5], [4, 5]), ([6], [6]), ([7], [7]), ([3, 8], [3, 8]), ([9], [9]), ([10], [10]), ([10], [10]), ([11, 12, 10], [10, 11, 12]), ([13, 10], [10, 13]), ([10], [10]), ([10], [10]), ([15, 16, 10], [10, 15, 16]), ([17, 10], [10, 17]), ([18, 10], [10, 18]), ([19, 10], [10, 19]), ([14, 20, 10], [10, 14, 20]), ([10, 21], [10, 21])])
def r7_10b.B : List Nat := [0, 0, 3, 7, 0, 0, 48, 112, 240, 511, 1023, 2047, 2047, 8191, 16383, 2047, 2047, 100351, 231423, 493567, 1017855, 2097151, 4194303]
theorem r7_10b.tab : rtab .any (opsOf Tryz.f7 10) = r7_10b.T := by kernel_rfl
theorem r7_10b.bits : waitsOk r7_10b.T.2 r7_10b.B = true := by kernel_rfl

set_option maxHeartbeats 8000000 in
set_option maxRecDepth 100000 in
theorem batchUnpacks_walk (s : ByteArray) (hs : s.size ≤ 140737488351232) (W : World) (he : Env W) :
    Calls Tryz.prog 7 #[.string s] W fun r w' => r = .returned (.bool true) ∧ Below W.heap.size W w' := by
  obtain ⟨t, ht⟩ : ∃ t, s.extract 0 (min s.size 6000) = t := ⟨_, rfl⟩
  have hts : t.size ≤ 6000 := by rw [← ht, ← data_length, extract_list, List.length_take]; omega
  have HUN := Aside0.mk (fun w he => unpack_any t w he (by omega))
  have HRU := Aside0.mk (fun w => runpack_any t w (by omega))
  have HIX := Aside0.mk (fun w he => index_any t w he (by omega))
  have hpc : (unpackF t).2.2 = 0 → packR (unpackF t).1 = (t, 0) := unpack_pack_check hts
  have hok := unpackF_ok t
  obtain ⟨l, hl⟩ : ∃ l, (unpackF t).1 = l := ⟨_, rfl⟩
  obtain ⟨av, hav⟩ : ∃ a, (unpackF t).2.1 = a := ⟨_, rfl⟩
  obtain ⟨ec, hec⟩ : ∃ e, (unpackF t).2.2 = e := ⟨_, rfl⟩
  rw [hl, hav, hec] at HUN HRU
  rw [hl, hec] at HIX hpc
  rw [hl] at hok
  obtain ⟨n, hn⟩ : ∃ n, l.length = n := ⟨_, rfl⟩
  have hn1 : n ≤ 1000 := by have := hok.2; omega
  have hil : (idsF l).length = n := by unfold idsF; rw [List.length_map, hn]
  have hsl : (sizesF l).length = n := by unfold sizesF; rw [List.length_map, hn]
  have hsame := fun A c A2 c2 w h h2 => same_any A n c l A2 n c2 l w h h2 (by omega) (by omega)
  rw [decide_eq_true rfl] at hsame
  have HSM := Aside0.mk hsame
  have HPK := Aside0.mk (fun A c w he h => pack_any A n c l w he h)
  have HPC := Aside0.mk hpc
  have HOK := Aside0.mk hok.1
  have HN := Aside0.mk hn
  have HIL := Aside0.mk hil
  have HSL := Aside0.mk hsl
  have HE := Aside0.mk he
  have HT := Aside0.mk ht
  have beq : (t == t) = true := by rw [beq_toListBytes, beq_self_eq_true]
  clear hsame he hn ht hl hav hec hok hpc hil hsl
  by_cases hlen : s.size ≤ 6000
  · have hmn : min (s.size : Int) 6000 = (s.size : Int) := by omega
    have e : s = t := by
      rw [← HT.out, Nat.min_eq_left hlen]
      exact data_inj (by rw [extract_list, List.drop_zero, List.take_of_length_le (by rw [data_length]; omega)])
    clear HT
    subst e
    go_enter Tryz.func7, Tryz.ntmps7
    go_wp2_with fail
    refine (HUN.out _ HE.out).mono ?_
    rintro e w1 ⟨v1, rfl, hr, hb⟩
    obtain ⟨A1, c1, rfl, _, hC1⟩ := Kd.R_reads hr
    rw [HN.out] at hC1 ⊢
    have B1 := Aside0.mk hb
    have L1 := Aside0.mk hC1
    clear hr hb hC1 HUN
    go_wp2_with fail
    refine (HRU.out _).mono ?_
    rintro e w2 ⟨v2, rfl, hr, hb⟩
    obtain ⟨A2, c2, rfl, _, hC2⟩ := Kd.R_reads hr
    rw [HN.out] at hC2 ⊢
    have B2 := Aside0.mk (below_step B1.out hb)
    have L2 := Aside0.mk (Kd.C_below L1.out hb)
    have M2 := Aside0.mk hC2
    clear hr hb hC2 HRU L1
    go_wp2_with fail
    refine (HIX.out _ (HE.out.below B2.out)).mono ?_
    rintro e w3 ⟨v3, v4, rfl, hr, hr2, hb⟩
    obtain ⟨A3, c3, rfl, _, hC3⟩ := Kd.R_reads hr
    obtain ⟨A4, c4, rfl, _, hC4⟩ := Kd.R_reads hr2
    rw [HIL.out] at hC3 ⊢
    rw [HSL.out] at hC4 ⊢
    have B3 := Aside0.mk (below_step B2.out hb)
    have L3 := Aside0.mk (Kd.C_below L2.out hb)
    have M3 := Aside0.mk (Kd.C_below M2.out hb)
    have I3 := Aside0.mk hC3
    have S3 := Aside0.mk hC4
    clear hr hr2 hb hC3 hC4 HIX L2 M2
    go_wp2_with fail
    refine (known_any _ (HE.out.below B3.out)).mono ?_
    rintro e w4 ⟨rfl, hb⟩
    have B4 := Aside0.mk (below_step B3.out hb)
    have L4 := Aside0.mk (Kd.C_below L3.out hb)
    have M4 := Aside0.mk (Kd.C_below M3.out hb)
    have I4 := Aside0.mk (Kd.C_below I3.out hb)
    have S4 := Aside0.mk (Kd.C_below S3.out hb)
    clear hb L3 M3 I3 S3
    go_wp2_with fail
    refine (HSM.out _ _ _ _ _ L4.out M4.out).mono ?_
    rintro e w5 ⟨rfl, hb⟩
    have B5 := Aside0.mk (below_step B4.out hb)
    have L5 := Aside0.mk (Kd.C_below L4.out hb)
    have M5 := Aside0.mk (Kd.C_below M4.out hb)
    have I5 := Aside0.mk (Kd.C_below I4.out hb)
    have S5 := Aside0.mk (Kd.C_below S4.out hb)
    clear hb L4 M4 I4 S4 HSM
    go_wp2_with fail
    go_loopg [12] n (fun gf x12 wx => ∃ k : Nat, k ≤ n ∧ x12 = .int .i64 k ∧ Hid (n ≤ k + gf) ∧ Aside0 (Below w5.heap.size w5 wx))
    case atStart => exact ⟨0, Nat.zero_le _, rfl, by unfold Hid; omega, ⟨Below.refl _ _⟩⟩
    case round =>
      obtain ⟨k, hk, rfl, HG, F⟩ := hrel
      have B := Aside0.mk (below_step B5.out F.out)
      by_cases hlt : k < n
      · obtain ⟨ad2, x, hA2, hx, hxo, hcell2⟩ := Kit.at_ (Kd.C_below M5.out F.out) k hlt
        obtain ⟨ad3, y, hA3, hy, _, hcell3⟩ := Kid.at_ (Kd.C_below I5.out F.out) k hlt
        have hyx : y = x.1 := by
          unfold idsF at hy
          rw [List.getElem?_map, hx] at hy
          exact (Option.some.inj hy).symm
        subst hyx
        obtain ⟨ad4, hA4, hcell4⟩ := size_at (Kd.C_below S5.out F.out) k hlt (x.2.size : Int) (by unfold sizesF; rw [List.getElem?_map, hx]; rfl)
        have HX := Aside0.mk hxo
        have HIT := Aside0.mk (show ItAt wr (ad2.add (k * 33)) x from hcell2)
        have HID := Aside0.mk hcell3
        have HSZ := Aside0.mk hcell4
        have hxs : x.2.size ≤ 65536 := (HOK.out x (mem_at hx)).2
        subst hA2 hA3 hA4
        clear hxo hcell2 hcell3 hcell4 hx hy
        go_wp2_with fail
        refine start_ (n := 23) (S := fun w' => Below wr.heap.size wr w') (ds := []) (fl 23 0) (by kernel_rfl) rfl rfl (below_drew (Below.refl _ _)) (fun hHeld => ?_)
        refine with_tabW r7_10a.tab r7_10a.bits (fun HT_ HW_ => ?_)
        generalize wr.drew = wd at hHeld ⊢
        have HH := Aside0.mk hHeld
        clear hHeld
        refine pure_ (i := 0) (N := some 81) (v := ?_) (a' := ?_) (fl 23 1) rfl rfl (any_of HT_.out (by kernel_rfl)) (fun _ _ _ h => h) (Or.inl ⟨by rfl, ?_⟩) ?_ ?_
        rotate_left
        · intro w'
          go_simp
          with_reducible rfl
        rotate_left
        · simp only [Act.put, List.setIfInBounds_toArray, List.set_cons_zero, List.set_cons_succ, i64_w, i32_w]
          rfl
        refine pure_ (i := 1) (N := some 82) (v := ?_) (a' := ?_) (fl 23 3) rfl rfl (any_of HT_.out (by kernel_rfl)) (fun _ _ _ h => h) (Or.inl ⟨by rfl, ?_⟩) ?_ ?_
        rotate_left
        · intro w'
          go_simp
          with_reducible rfl
        rotate_left
        · simp only [Act.put, List.setIfInBounds_toArray, List.set_cons_zero, List.set_cons_succ, i64_w, i32_w]
          rfl
        refine pure_ (i := 2) (N := some 83) (v := ?_) (a' := ?_) (fl 23 7) rfl rfl (any_of HT_.out (by kernel_rfl)) (fun _ _ _ h => h) (Or.inl ⟨by rfl, ?_⟩) ?_ ?_
        rotate_left
        · intro w'
          go_simp
          with_reducible rfl
        rotate_left
        · simp only [Act.put, List.setIfInBounds_toArray, List.set_cons_zero, List.set_cons_succ, i64_w, i32_w]
          rfl
        refine pure_ (i := 4) (N := some 85) (v := ?_) (a' := ?_) (fl 23 23) rfl rfl (any_of HT_.out (by kernel_rfl)) (fun _ _ _ h => h) (Or.inl ⟨by rfl, ?_⟩) ?_ ?_
        rotate_left
        · intro w'
          go_simp
          with_reducible rfl
        rotate_left
        · simp only [Act.put, List.setIfInBounds_toArray, List.set_cons_zero, List.set_cons_succ, i64_w, i32_w]
          rfl
        refine pure_ (i := 5) (N := some 86) (v := ?_) (a' := ?_) (fl 23 55) rfl rfl (any_of HT_.out (by kernel_rfl)) (fun _ _ _ h => h) (Or.inl ⟨by rfl, ?_⟩) ?_ ?_
        rotate_left
        · intro w'
          go_simp
          with_reducible rfl
        rotate_left
        · simp only [Act.put, List.setIfInBounds_toArray, List.set_cons_zero, List.set_cons_succ, i64_w, i32_w]
          rfl
        refine pure_ (i := 6) (N := some 87) (v := ?_) (a' := ?_) (fl 23 119) rfl rfl (any_of HT_.out (by kernel_rfl)) (fun _ _ _ h => h) (Or.inl ⟨by rfl, ?_⟩) ?_ ?_
        rotate_left
        · intro w'
          go_simp
          with_reducible rfl
        rotate_left
        · simp only [Act.put, List.setIfInBounds_toArray, List.set_cons_zero, List.set_cons_succ, i64_w, i32_w]
          rfl
        refine pure_ (i := 7) (N := some 88) (v := ?_) (a' := ?_) (fl 23 247) rfl rfl (any_of HT_.out (by kernel_rfl)) (fun _ _ _ h => h) (Or.inl ⟨by rfl, ?_⟩) ?_ ?_
        rotate_left
        · intro w'
          go_simp
          with_reducible rfl
        rotate_left
        · simp only [Act.put, List.setIfInBounds_toArray, List.set_cons_zero, List.set_cons_succ, i64_w, i32_w]
          rfl
        refine take_ (i := 3) (N := some 84) (v := .agg (u8s x.1)) (a' := ?_) (fl 23 255) rfl rfl (take_ofW HT_.out HW_.out (by kernel_rfl)) (fun _ _ _ h => h) ?_ HH.out ?_ ?_
        · exact yields_cells (by rfl) rfl rfl (fun w h j v hv => pw_cell_below h (HID.out j v hv)) Tryz.underlying37 rfl (by rw [u8s_size, HX.out.1]; exact size37)
        rotate_left
        · simp only [Act.put, List.setIfInBounds_toArray, List.set_cons_zero, List.set_cons_succ, i64_w, i32_w]
          rfl
        refine take_ (i := 8) (N := some 89) (v := .agg (u8s x.1)) (a' := ?_) (fl 23 511) rfl rfl (take_ofW HT_.out HW_.out (by kernel_rfl)) (fun _ _ _ h => h) ?_ HH.out ?_ ?_
        · exact yields_at_id (by rfl) rfl rfl (fun w h => HIT.out.below h) HX.out Tryz.underlying34 rfl size34
        rotate_left
        · simp only [Act.put, List.setIfInBounds_toArray, List.set_cons_zero, List.set_cons_succ, i64_w, i32_w]
          rfl
        refine pure_ (i := 9) (N := some 90) (v := ?_) (a' := ?_) (fl 23 1023) rfl rfl (any_of HT_.out (by kernel_rfl)) (fun _ _ _ h => h) (Or.inl ⟨by rfl, ?_⟩) ?_ ?_
        rotate_left
        · intro w'
          refine (exec_same_id (l := x.1) rfl rfl rfl HX.out.1 w').trans ?_
          with_reducible rfl
        rotate_left
        · simp only [Act.put, List.setIfInBounds_toArray, List.set_cons_zero, List.set_cons_succ, i64_w, i32_w]
          rfl
        refine pure_ (i := 10) (N := some 91) (v := ?_) (a' := ?_) (fl 23 2047) rfl rfl (any_of HT_.out (by kernel_rfl)) (fun _ _ _ h => h) (Or.inl ⟨by rfl, ?_⟩) ?_ ?_
        rotate_left
        · intro w'
          go_simp
          with_reducible rfl
        rotate_left
        · simp only [Act.put, List.setIfInBounds_toArray, List.set_cons_zero, List.set_cons_succ, i64_w, i32_w]
          rfl
        refine pure_ (i := 11) (N := some 92) (v := ?_) (a' := ?_) (fl 23 4095) rfl rfl (any_of HT_.out (by kernel_rfl)) (fun _ _ _ h => h) (Or.inl ⟨by rfl, ?_⟩) ?_ ?_
        rotate_left
        · intro w'
          go_simp
          with_reducible rfl
        rotate_left
        · simp only [Act.put, List.setIfInBounds_toArray, List.set_cons_zero, List.set_cons_succ, i64_w, i32_w]
          rfl
        refine pure_ (i := 12) (N := some 93) (v := ?_) (a' := ?_) (fl 23 8191) rfl rfl (any_of HT_.out (by kernel_rfl)) (fun _ _ _ h => h) (Or.inl ⟨by rfl, ?_⟩) ?_ ?_
        rotate_left
        · intro w'
          go_simp
          with_reducible rfl
        rotate_left
        · simp only [Act.put, List.setIfInBounds_toArray, List.set_cons_zero, List.set_cons_succ, i64_w, i32_w]
          rfl
        refine pure_ (i := 13) (N := some 94) (v := ?_) (a' := ?_) (fl 23 16383) rfl rfl (any_of HT_.out (by kernel_rfl)) (fun _ _ _ h => h) (Or.inl ⟨by rfl, ?_⟩) ?_ ?_
        rotate_left
        · intro w'
          go_simp
          with_reducible rfl
        rotate_left
        · simp only [Act.put, List.setIfInBounds_toArray, List.set_cons_zero, List.set_cons_succ, i64_w, i32_w]
          rfl
        refine pure_ (i := 15) (N := some 96) (v := ?_) (a' := ?_) (fl 23 49151) rfl rfl (any_of HT_.out (by kernel_rfl)) (fun _ _ _ h => h) (Or.inl ⟨by rfl, ?_⟩) ?_ ?_
        rotate_left
        · intro w'
          go_simp
          with_reducible rfl
        rotate_left
        · simp only [Act.put, List.setIfInBounds_toArray, List.set_cons_zero, List.set_cons_succ, i64_w, i32_w]
          rfl
        refine pure_ (i := 16) (N := some 97) (v := ?_) (a' := ?_) (fl 23 114687) rfl rfl (any_of HT_.out (by kernel_rfl)) (fun _ _ _ h => h) (Or.inl ⟨by rfl, ?_⟩) ?_ ?_
        rotate_left
        · intro w'
          go_simp
          with_reducible rfl
        rotate_left
        · simp only [Act.put, List.setIfInBounds_toArray, List.set_cons_zero, List.set_cons_succ, i64_w, i32_w]
          rfl
        refine pure_ (i := 17) (N := some 98) (v := ?_) (a' := ?_) (fl 23 245759) rfl rfl (any_of HT_.out (by kernel_rfl)) (fun _ _ _ h => h) (Or.inl ⟨by rfl, ?_⟩) ?_ ?_
        rotate_left
        · intro w'
          go_simp
          with_reducible rfl
        rotate_left
        · simp only [Act.put, List.setIfInBounds_toArray, List.set_cons_zero, List.set_cons_succ, i64_w, i32_w]
          rfl
        refine pure_ (i := 18) (N := some 99) (v := ?_) (a' := ?_) (fl 23 507903) rfl rfl (any_of HT_.out (by kernel_rfl)) (fun _ _ _ h => h) (Or.inl ⟨by rfl, ?_⟩) ?_ ?_
        rotate_left
        · intro w'
          go_simp
          with_reducible rfl
        rotate_left
        · simp only [Act.put, List.setIfInBounds_toArray, List.set_cons_zero, List.set_cons_succ, i64_w, i32_w]
          rfl
        refine take_ (i := 14) (N := some 95) (v := ?_) (a' := ?_) (fl 23 524287) rfl rfl (take_ofW HT_.out HW_.out (by kernel_rfl)) (fun _ _ _ h => h) (Or.inl ⟨by rfl, ?_⟩) HH.out ?_ ?_
        rotate_left
        · intro w' hS'
          have hc := pw_cell_below hS' HSZ.out
          go_simp
          with_reducible rfl
        rotate_left
        · simp only [Act.put, List.setIfInBounds_toArray, List.set_cons_zero, List.set_cons_succ, i64_w, i32_w]
          rfl
        refine take_ (i := 19) (N := some 100) (v := ?_) (a' := ?_) (fl 23 1048575) rfl rfl (take_ofW HT_.out HW_.out (by kernel_rfl)) (fun _ _ _ h => h) (Or.inl ⟨by rfl, ?_⟩) HH.out ?_ ?_
        rotate_left
        · intro w' hS'
          have hit := (HIT.out.below hS').str HX.out
          go_simp
          with_reducible rfl
        rotate_left
        · simp only [Act.put, List.setIfInBounds_toArray, List.set_cons_zero, List.set_cons_succ, i64_w, i32_w]
          rfl
        refine pure_ (i := 20) (N := some 101) (v := ?_) (a' := ?_) (fl 23 2097151) rfl rfl (any_of HT_.out (by kernel_rfl)) (fun _ _ _ h => h) (Or.inl ⟨by rfl, ?_⟩) ?_ ?_
        rotate_left
        · intro w'
          go_simp
          with_reducible rfl
        rotate_left
        · simp only [Act.put, List.setIfInBounds_toArray, List.set_cons_zero, List.set_cons_succ, i64_w, i32_w]
          rfl
        refine pure_ (i := 21) (N := some 102) (v := ?_) (a' := ?_) (fl 23 4194303) rfl rfl (any_of HT_.out (by kernel_rfl)) (fun _ _ _ h => h) (Or.inl ⟨by rfl, ?_⟩) ?_ ?_
        rotate_left
        · intro w'
          go_simp
          with_reducible rfl
        rotate_left
        · simp only [Act.put, List.setIfInBounds_toArray, List.set_cons_zero, List.set_cons_succ, i64_w, i32_w]
          rfl
        refine pure_ (i := 22) (N := some 103) (v := ?_) (a' := ?_) (fl 23 8388607) rfl rfl (any_of HT_.out (by kernel_rfl)) (fun _ _ _ h => h) (Or.inl ⟨by rfl, ?_⟩) ?_ ?_
        rotate_left
        · intro w'
          go_simp
          with_reducible rfl
        rotate_left
        · simp only [Act.put, List.setIfInBounds_toArray, List.set_cons_zero, List.set_cons_succ, i64_w, i32_w]
          rfl
        refine done_ (done_of HT_.out (by kernel_rfl)) ?_
        have F2 := Aside0.mk (below_step F.out HH.out)
        go_wp2_with fail
        go_roundg (gk - 1)
        case measure => have := HG.out; omega
        case rel => exact ⟨k + 1, by omega, by go_num, by have := HG.out; unfold Hid; omega, F2⟩
      · obtain rfl : k = n := by omega
        by_cases h0 : ec = 0
        · subst h0
          have hpk := HPC.out rfl
          have hpk2 := fun A c w he h => HPK.out A c w he h
          rw [hpk] at hpk2
          have HPK2 := Aside0.mk hpk2
          clear hpk hpk2
          go_wp2_with fail
          refine (HPK2.out _ _ _ (HE.out.below B.out) (Kd.C_below L5.out F.out)).mono ?_
          rintro e w7 ⟨rfl, hb⟩
          have B7 := Aside0.mk (below_step B.out hb)
          clear hb
          go_wp2_with fail
          go_ret
          exact ⟨rfl, B7.out⟩
        · have h0b : (ec != 0) = true := by simp [h0]
          go_wp2_with fail
          go_ret
          exact ⟨rfl, B.out⟩
  · have hmn : min (s.size : Int) 6000 = 6000 := by omega
    have e : s.extract 0 6000 = t := by rw [← HT.out, Nat.min_eq_right (by omega)]
    clear HT
    go_enter Tryz.func7, Tryz.ntmps7
    go_wp2_with fail
    clear e
    refine (HUN.out _ HE.out).mono ?_
    rintro e w1 ⟨v1, rfl, hr, hb⟩
    obtain ⟨A1, c1, rfl, _, hC1⟩ := Kd.R_reads hr
    rw [HN.out] at hC1 ⊢
    have B1 := Aside0.mk hb
    have L1 := Aside0.mk hC1
    clear hr hb hC1 HUN
    go_wp2_with fail
    refine (HRU.out _).mono ?_
    rintro e w2 ⟨v2, rfl, hr, hb⟩
    obtain ⟨A2, c2, rfl, _, hC2⟩ := Kd.R_reads hr
    rw [HN.out] at hC2 ⊢
    have B2 := Aside0.mk (below_step B1.out hb)
    have L2 := Aside0.mk (Kd.C_below L1.out hb)
    have M2 := Aside0.mk hC2
    clear hr hb hC2 HRU L1
    go_wp2_with fail
    refine (HIX.out _ (HE.out.below B2.out)).mono ?_
    rintro e w3 ⟨v3, v4, rfl, hr, hr2, hb⟩
    obtain ⟨A3, c3, rfl, _, hC3⟩ := Kd.R_reads hr
    obtain ⟨A4, c4, rfl, _, hC4⟩ := Kd.R_reads hr2
    rw [HIL.out] at hC3 ⊢
    rw [HSL.out] at hC4 ⊢
    have B3 := Aside0.mk (below_step B2.out hb)
    have L3 := Aside0.mk (Kd.C_below L2.out hb)
    have M3 := Aside0.mk (Kd.C_below M2.out hb)
    have I3 := Aside0.mk hC3
    have S3 := Aside0.mk hC4
    clear hr hr2 hb hC3 hC4 HIX L2 M2
    go_wp2_with fail
    refine (known_any _ (HE.out.below B3.out)).mono ?_
    rintro e w4 ⟨rfl, hb⟩
    have B4 := Aside0.mk (below_step B3.out hb)
    have L4 := Aside0.mk (Kd.C_below L3.out hb)
    have M4 := Aside0.mk (Kd.C_below M3.out hb)
    have I4 := Aside0.mk (Kd.C_below I3.out hb)
    have S4 := Aside0.mk (Kd.C_below S3.out hb)
    clear hb L3 M3 I3 S3
    go_wp2_with fail
    refine (HSM.out _ _ _ _ _ L4.out M4.out).mono ?_
    rintro e w5 ⟨rfl, hb⟩
    have B5 := Aside0.mk (below_step B4.out hb)
    have L5 := Aside0.mk (Kd.C_below L4.out hb)
    have M5 := Aside0.mk (Kd.C_below M4.out hb)
    have I5 := Aside0.mk (Kd.C_below I4.out hb)
    have S5 := Aside0.mk (Kd.C_below S4.out hb)
    clear hb L4 M4 I4 S4 HSM
    go_wp2_with fail
    go_loopg [12] n (fun gf x12 wx => ∃ k : Nat, k ≤ n ∧ x12 = .int .i64 k ∧ Hid (n ≤ k + gf) ∧ Aside0 (Below w5.heap.size w5 wx))
    case atStart => exact ⟨0, Nat.zero_le _, rfl, by unfold Hid; omega, ⟨Below.refl _ _⟩⟩
    case round =>
      obtain ⟨k, hk, rfl, HG, F⟩ := hrel
      have B := Aside0.mk (below_step B5.out F.out)
      by_cases hlt : k < n
      · obtain ⟨ad2, x, hA2, hx, hxo, hcell2⟩ := Kit.at_ (Kd.C_below M5.out F.out) k hlt
        obtain ⟨ad3, y, hA3, hy, _, hcell3⟩ := Kid.at_ (Kd.C_below I5.out F.out) k hlt
        have hyx : y = x.1 := by
          unfold idsF at hy
          rw [List.getElem?_map, hx] at hy
          exact (Option.some.inj hy).symm
        subst hyx
        obtain ⟨ad4, hA4, hcell4⟩ := size_at (Kd.C_below S5.out F.out) k hlt (x.2.size : Int) (by unfold sizesF; rw [List.getElem?_map, hx]; rfl)
        have HX := Aside0.mk hxo
        have HIT := Aside0.mk (show ItAt wr (ad2.add (k * 33)) x from hcell2)
        have HID := Aside0.mk hcell3
        have HSZ := Aside0.mk hcell4
        have hxs : x.2.size ≤ 65536 := (HOK.out x (mem_at hx)).2
        subst hA2 hA3 hA4
        clear hxo hcell2 hcell3 hcell4 hx hy
        go_wp2_with fail
        refine start_ (n := 23) (S := fun w' => Below wr.heap.size wr w') (ds := []) (fl 23 0) (by kernel_rfl) rfl rfl (below_drew (Below.refl _ _)) (fun hHeld => ?_)
        refine with_tabW r7_10b.tab r7_10b.bits (fun HT_ HW_ => ?_)
        generalize wr.drew = wd at hHeld ⊢
        have HH := Aside0.mk hHeld
        clear hHeld
        refine pure_ (i := 0) (N := some 81) (v := ?_) (a' := ?_) (fl 23 1) rfl rfl (any_of HT_.out (by kernel_rfl)) (fun _ _ _ h => h) (Or.inl ⟨by rfl, ?_⟩) ?_ ?_
        rotate_left
        · intro w'
          go_simp
          with_reducible rfl
        rotate_left
        · simp only [Act.put, List.setIfInBounds_toArray, List.set_cons_zero, List.set_cons_succ, i64_w, i32_w]
          rfl
        refine pure_ (i := 1) (N := some 82) (v := ?_) (a' := ?_) (fl 23 3) rfl rfl (any_of HT_.out (by kernel_rfl)) (fun _ _ _ h => h) (Or.inl ⟨by rfl, ?_⟩) ?_ ?_
        rotate_left
        · intro w'
          go_simp
          with_reducible rfl
        rotate_left
        · simp only [Act.put, List.setIfInBounds_toArray, List.set_cons_zero, List.set_cons_succ, i64_w, i32_w]
          rfl
        refine pure_ (i := 2) (N := some 83) (v := ?_) (a' := ?_) (fl 23 7) rfl rfl (any_of HT_.out (by kernel_rfl)) (fun _ _ _ h => h) (Or.inl ⟨by rfl, ?_⟩) ?_ ?_
        rotate_left
        · intro w'
          go_simp
          with_reducible rfl
        rotate_left
        · simp only [Act.put, List.setIfInBounds_toArray, List.set_cons_zero, List.set_cons_succ, i64_w, i32_w]
          rfl
        refine pure_ (i := 4) (N := some 85) (v := ?_) (a' := ?_) (fl 23 23) rfl rfl (any_of HT_.out (by kernel_rfl)) (fun _ _ _ h => h) (Or.inl ⟨by rfl, ?_⟩) ?_ ?_
        rotate_left
        · intro w'
          go_simp
          with_reducible rfl
        rotate_left
        · simp only [Act.put, List.setIfInBounds_toArray, List.set_cons_zero, List.set_cons_succ, i64_w, i32_w]
          rfl
        refine pure_ (i := 5) (N := some 86) (v := ?_) (a' := ?_) (fl 23 55) rfl rfl (any_of HT_.out (by kernel_rfl)) (fun _ _ _ h => h) (Or.inl ⟨by rfl, ?_⟩) ?_ ?_
        rotate_left
        · intro w'
          go_simp
          with_reducible rfl
        rotate_left
        · simp only [Act.put, List.setIfInBounds_toArray, List.set_cons_zero, List.set_cons_succ, i64_w, i32_w]
          rfl
        refine pure_ (i := 6) (N := some 87) (v := ?_) (a' := ?_) (fl 23 119) rfl rfl (any_of HT_.out (by kernel_rfl)) (fun _ _ _ h => h) (Or.inl ⟨by rfl, ?_⟩) ?_ ?_
        rotate_left
        · intro w'
          go_simp
          with_reducible rfl
        rotate_left
        · simp only [Act.put, List.setIfInBounds_toArray, List.set_cons_zero, List.set_cons_succ, i64_w, i32_w]
          rfl
        refine pure_ (i := 7) (N := some 88) (v := ?_) (a' := ?_) (fl 23 247) rfl rfl (any_of HT_.out (by kernel_rfl)) (fun _ _ _ h => h) (Or.inl ⟨by rfl, ?_⟩) ?_ ?_
        rotate_left
        · intro w'
          go_simp
          with_reducible rfl
        rotate_left
        · simp only [Act.put, List.setIfInBounds_toArray, List.set_cons_zero, List.set_cons_succ, i64_w, i32_w]
          rfl
        refine take_ (i := 3) (N := some 84) (v := .agg (u8s x.1)) (a' := ?_) (fl 23 255) rfl rfl (take_ofW HT_.out HW_.out (by kernel_rfl)) (fun _ _ _ h => h) ?_ HH.out ?_ ?_
        · exact yields_cells (by rfl) rfl rfl (fun w h j v hv => pw_cell_below h (HID.out j v hv)) Tryz.underlying37 rfl (by rw [u8s_size, HX.out.1]; exact size37)
        rotate_left
        · simp only [Act.put, List.setIfInBounds_toArray, List.set_cons_zero, List.set_cons_succ, i64_w, i32_w]
          rfl
        refine take_ (i := 8) (N := some 89) (v := .agg (u8s x.1)) (a' := ?_) (fl 23 511) rfl rfl (take_ofW HT_.out HW_.out (by kernel_rfl)) (fun _ _ _ h => h) ?_ HH.out ?_ ?_
        · exact yields_at_id (by rfl) rfl rfl (fun w h => HIT.out.below h) HX.out Tryz.underlying34 rfl size34
        rotate_left
        · simp only [Act.put, List.setIfInBounds_toArray, List.set_cons_zero, List.set_cons_succ, i64_w, i32_w]
          rfl
        refine pure_ (i := 9) (N := some 90) (v := ?_) (a' := ?_) (fl 23 1023) rfl rfl (any_of HT_.out (by kernel_rfl)) (fun _ _ _ h => h) (Or.inl ⟨by rfl, ?_⟩) ?_ ?_
        rotate_left
        · intro w'
          refine (exec_same_id (l := x.1) rfl rfl rfl HX.out.1 w').trans ?_
          with_reducible rfl
        rotate_left
        · simp only [Act.put, List.setIfInBounds_toArray, List.set_cons_zero, List.set_cons_succ, i64_w, i32_w]
          rfl
        refine pure_ (i := 10) (N := some 91) (v := ?_) (a' := ?_) (fl 23 2047) rfl rfl (any_of HT_.out (by kernel_rfl)) (fun _ _ _ h => h) (Or.inl ⟨by rfl, ?_⟩) ?_ ?_
        rotate_left
        · intro w'
          go_simp
          with_reducible rfl
        rotate_left
        · simp only [Act.put, List.setIfInBounds_toArray, List.set_cons_zero, List.set_cons_succ, i64_w, i32_w]
          rfl
        refine pure_ (i := 11) (N := some 92) (v := ?_) (a' := ?_) (fl 23 4095) rfl rfl (any_of HT_.out (by kernel_rfl)) (fun _ _ _ h => h) (Or.inl ⟨by rfl, ?_⟩) ?_ ?_
        rotate_left
        · intro w'
          go_simp
          with_reducible rfl
        rotate_left
        · simp only [Act.put, List.setIfInBounds_toArray, List.set_cons_zero, List.set_cons_succ, i64_w, i32_w]
          rfl
        refine pure_ (i := 12) (N := some 93) (v := ?_) (a' := ?_) (fl 23 8191) rfl rfl (any_of HT_.out (by kernel_rfl)) (fun _ _ _ h => h) (Or.inl ⟨by rfl, ?_⟩) ?_ ?_
        rotate_left
        · intro w'
          go_simp
          with_reducible rfl
        rotate_left
        · simp only [Act.put, List.setIfInBounds_toArray, List.set_cons_zero, List.set_cons_succ, i64_w, i32_w]
          rfl
        refine pure_ (i := 13) (N := some 94) (v := ?_) (a' := ?_) (fl 23 16383) rfl rfl (any_of HT_.out (by kernel_rfl)) (fun _ _ _ h => h) (Or.inl ⟨by rfl, ?_⟩) ?_ ?_
        rotate_left
        · intro w'
          go_simp
          with_reducible rfl
        rotate_left
        · simp only [Act.put, List.setIfInBounds_toArray, List.set_cons_zero, List.set_cons_succ, i64_w, i32_w]
          rfl
        refine pure_ (i := 15) (N := some 96) (v := ?_) (a' := ?_) (fl 23 49151) rfl rfl (any_of HT_.out (by kernel_rfl)) (fun _ _ _ h => h) (Or.inl ⟨by rfl, ?_⟩) ?_ ?_
        rotate_left
        · intro w'
          go_simp
          with_reducible rfl
        rotate_left
        · simp only [Act.put, List.setIfInBounds_toArray, List.set_cons_zero, List.set_cons_succ, i64_w, i32_w]
          rfl
        refine pure_ (i := 16) (N := some 97) (v := ?_) (a' := ?_) (fl 23 114687) rfl rfl (any_of HT_.out (by kernel_rfl)) (fun _ _ _ h => h) (Or.inl ⟨by rfl, ?_⟩) ?_ ?_
        rotate_left
        · intro w'
          go_simp
          with_reducible rfl
        rotate_left
        · simp only [Act.put, List.setIfInBounds_toArray, List.set_cons_zero, List.set_cons_succ, i64_w, i32_w]
          rfl
        refine pure_ (i := 17) (N := some 98) (v := ?_) (a' := ?_) (fl 23 245759) rfl rfl (any_of HT_.out (by kernel_rfl)) (fun _ _ _ h => h) (Or.inl ⟨by rfl, ?_⟩) ?_ ?_
        rotate_left
        · intro w'
          go_simp
          with_reducible rfl
        rotate_left
        · simp only [Act.put, List.setIfInBounds_toArray, List.set_cons_zero, List.set_cons_succ, i64_w, i32_w]
          rfl
        refine pure_ (i := 18) (N := some 99) (v := ?_) (a' := ?_) (fl 23 507903) rfl rfl (any_of HT_.out (by kernel_rfl)) (fun _ _ _ h => h) (Or.inl ⟨by rfl, ?_⟩) ?_ ?_
        rotate_left
        · intro w'
          go_simp
          with_reducible rfl
        rotate_left
        · simp only [Act.put, List.setIfInBounds_toArray, List.set_cons_zero, List.set_cons_succ, i64_w, i32_w]
          rfl
        refine take_ (i := 14) (N := some 95) (v := ?_) (a' := ?_) (fl 23 524287) rfl rfl (take_ofW HT_.out HW_.out (by kernel_rfl)) (fun _ _ _ h => h) (Or.inl ⟨by rfl, ?_⟩) HH.out ?_ ?_
        rotate_left
        · intro w' hS'
          have hc := pw_cell_below hS' HSZ.out
          go_simp
          with_reducible rfl
        rotate_left
        · simp only [Act.put, List.setIfInBounds_toArray, List.set_cons_zero, List.set_cons_succ, i64_w, i32_w]
          rfl
        refine take_ (i := 19) (N := some 100) (v := ?_) (a' := ?_) (fl 23 1048575) rfl rfl (take_ofW HT_.out HW_.out (by kernel_rfl)) (fun _ _ _ h => h) (Or.inl ⟨by rfl, ?_⟩) HH.out ?_ ?_
        rotate_left
        · intro w' hS'
          have hit := (HIT.out.below hS').str HX.out
          go_simp
          with_reducible rfl
        rotate_left
        · simp only [Act.put, List.setIfInBounds_toArray, List.set_cons_zero, List.set_cons_succ, i64_w, i32_w]
          rfl
        refine pure_ (i := 20) (N := some 101) (v := ?_) (a' := ?_) (fl 23 2097151) rfl rfl (any_of HT_.out (by kernel_rfl)) (fun _ _ _ h => h) (Or.inl ⟨by rfl, ?_⟩) ?_ ?_
        rotate_left
        · intro w'
          go_simp
          with_reducible rfl
        rotate_left
        · simp only [Act.put, List.setIfInBounds_toArray, List.set_cons_zero, List.set_cons_succ, i64_w, i32_w]
          rfl
        refine pure_ (i := 21) (N := some 102) (v := ?_) (a' := ?_) (fl 23 4194303) rfl rfl (any_of HT_.out (by kernel_rfl)) (fun _ _ _ h => h) (Or.inl ⟨by rfl, ?_⟩) ?_ ?_
        rotate_left
        · intro w'
          go_simp
          with_reducible rfl
        rotate_left
        · simp only [Act.put, List.setIfInBounds_toArray, List.set_cons_zero, List.set_cons_succ, i64_w, i32_w]
          rfl
        refine pure_ (i := 22) (N := some 103) (v := ?_) (a' := ?_) (fl 23 8388607) rfl rfl (any_of HT_.out (by kernel_rfl)) (fun _ _ _ h => h) (Or.inl ⟨by rfl, ?_⟩) ?_ ?_
        rotate_left
        · intro w'
          go_simp
          with_reducible rfl
        rotate_left
        · simp only [Act.put, List.setIfInBounds_toArray, List.set_cons_zero, List.set_cons_succ, i64_w, i32_w]
          rfl
        refine done_ (done_of HT_.out (by kernel_rfl)) ?_
        have F2 := Aside0.mk (below_step F.out HH.out)
        go_wp2_with fail
        go_roundg (gk - 1)
        case measure => have := HG.out; omega
        case rel => exact ⟨k + 1, by omega, by go_num, by have := HG.out; unfold Hid; omega, F2⟩
      · obtain rfl : k = n := by omega
        by_cases h0 : ec = 0
        · subst h0
          have hpk := HPC.out rfl
          have hpk2 := fun A c w he h => HPK.out A c w he h
          rw [hpk] at hpk2
          have HPK2 := Aside0.mk hpk2
          clear hpk hpk2
          go_wp2_with fail
          refine (HPK2.out _ _ _ (HE.out.below B.out) (Kd.C_below L5.out F.out)).mono ?_
          rintro e w7 ⟨rfl, hb⟩
          have B7 := Aside0.mk (below_step B.out hb)
          clear hb
          go_wp2_with fail
          go_ret
          exact ⟨rfl, B7.out⟩
        · have h0b : (ec != 0) = true := by simp [h0]
          go_wp2_with fail
          go_ret
          exact ⟨rfl, B.out⟩

end Go.Proofs.YtceopllngemnnaaGreatDoor

