/-
  Add of a builder that has room: what it returns and leaves.
-/
import Derived.Test.YtceopllngemnnaaGreatDoorG6
import Derived.Test.YtceopllngemnnaaGreatDoorPL5
set_option linter.unusedVariables false
set_option linter.unusedSimpArgs false
namespace Go.Proofs.YtceopllngemnnaaGreatDoor
open Go.RowKit Go.Proofs.YtceopllngemnnaaGreatDoorW.PrintWords Go.Proofs.YtceopllngemnnaaGreatDoorW.PrintLast Go.Proofs.YtceopllngemnnaaGreatDoorW.PrintMore Go.Proofs.YtceopllngemnnaaGreatDoor.PRef
attribute [local go_sem] max2_int min2_int max_two min_two

/-! Region tables, printed by rg2.py. -/
def r29_3d.T : Bool × List (List Nat × List Nat) := (true, [([], []), ([], []), ([1], [1]), ([2], [2]), ([3], [3]), ([0, 4], [0, 4]), ([5, 5, 0, 1, 2, 3, 4, 5], [5])])
def r29_3d.B : List Nat := [0, 0, 2, 6, 14, 31, 63]
theorem r29_3d.tab : rtab .any (opsOf Tryz.f29 3) = r29_3d.T := by kernel_rfl
theorem r29_3d.bits : waitsOk r29_3d.T.2 r29_3d.B = true := by kernel_rfl
def r29_7d.T : Bool × List (List Nat × List Nat) := (true, [([], []), ([0], [0]), ([1], [1]), ([2], [2]), ([3, 2, 2], [2, 3]), ([2], [2]), ([5, 2], [2, 5]), ([6, 2], [2, 6]), ([7, 2], [2, 7]), ([4, 8, 2], [2, 4, 8]), ([2], [2]), ([10, 4, 2], [2, 10]), ([9, 11, 2], [2, 9, 11]), ([2], [2]), ([13, 2], [2, 13]), ([14, 2], [2, 14]), ([15, 2], [2, 15]), ([12, 16, 2], [2, 12, 16]), ([2, 17], [2, 17])])
def r29_7d.B : List Nat := [0, 1, 3, 7, 15, 7, 39, 103, 231, 511, 7, 1055, 4095, 7, 8199, 24583, 57351, 131071, 262143]
theorem r29_7d.tab : rtab .any (opsOf Tryz.f29 7) = r29_7d.T := by kernel_rfl
theorem r29_7d.bits : waitsOk r29_7d.T.2 r29_7d.B = true := by kernel_rfl
def r29_9.T : Bool × List (List Nat × List Nat) := (true, [([], []), ([], []), ([1], [1]), ([2], [2]), ([3], [3]), ([], []), ([5], [5]), ([4, 6], [4, 6]), ([0, 0, 1, 2, 3, 4, 5, 6, 7], [0]), ([8, 0, 1, 2, 3, 4, 5, 6, 7], [8]), ([9, 7, 7, 0, 1, 2, 3, 4, 5, 6, 7], [7, 9])])
def r29_9.B : List Nat := [0, 0, 2, 6, 14, 0, 32, 126, 255, 511, 1023]
theorem r29_9.tab : rtab .any (opsOf Tryz.f29 9) = r29_9.T := by kernel_rfl
theorem r29_9.bits : waitsOk r29_9.T.2 r29_9.B = true := by kernel_rfl
def r29_10.T : Bool × List (List Nat × List Nat) := (true, [([], []), ([0], [0]), ([1], [1]), ([2], [2]), ([], []), ([4], [4]), ([3, 5], [3, 5]), ([0, 0, 1, 2, 3, 4, 5, 6], [0]), ([7, 0, 1, 2, 3, 4, 5, 6], [7]), ([8, 6, 5, 0, 1, 2, 3, 4, 5, 6], [6, 8])])
def r29_10.B : List Nat := [0, 1, 3, 7, 0, 16, 63, 127, 255, 511]
theorem r29_10.tab : rtab .any (opsOf Tryz.f29 10) = r29_10.T := by kernel_rfl
theorem r29_10.bits : waitsOk r29_10.T.2 r29_10.B = true := by kernel_rfl

section
variable {P : Program} {ops : Array Oper} {o : Oper} {a : Act} {Q : Exit → Act → World → Prop} {Kc : Act → World → Prop}
/-- A store of one cell into a block. -/
theorem store_cell_step {W : World} {g t i : Nat} {cs : Array Value} {v old : Value} (hw : Region.wanted o (yielded ops a.tmps) = true) {p : Tmp} {y : Operand} {ty : TypeId} (ho : o.op = .store ty (.tmp p) y) (hN : o.dst = none) (haddr : a.eval (.tmp p) = .pointer (some ⟨g, i, none⟩)) (hv : a.eval y = v) (h : Blk W g cs t) (hi : cs[i]? = some old)
    (hc1 : (∃ k x, v = .int k x) ∨ ∃ A n c, v = .slice A n c) (hs : (P.info? ty).map (·.size) = some 1) (hk : ∀ w1, w1 = W.setCell ⟨g, i, none⟩ v → Blk w1 g (cs.setIfInBounds i v) t → Kc (a.put none undef) w1) : if Region.wanted o (yielded ops a.tmps) = true then Oper.wp P o a W Kc Q else Kc (a.put none undef) W := by
  refine skip_step hw hN ?_ (hk _ rfl (blk_set h i v))
  have hc : W.cell? ⟨g, i, none⟩ = some old := by rw [Lib.cell_of_heap h]; exact hi
  have hf : W.frozen? ⟨g, i, none⟩ = false := Lib.frozen_of_heap h i
  cases hq : P.info? ty with
  | none => simp [hq] at hs
  | some j =>
    have h1 : j.size = 1 := by simpa [hq] using hs
    have e : ∀ av yv : Value, av = .pointer (some ⟨g, i, none⟩) → yv = v → ((do Instr.storeAt ty av yv; pure Next.skip) : Sem Next).run P W = .ok .skip (W.setCell ⟨g, i, none⟩ v) := by
      rcases hc1 with ⟨k, x, rfl⟩ | ⟨A, n, c, rfl⟩
      · rintro _ _ rfl rfl
        simp [Instr.storeAt, Instr.sureAddr, storeVar, sizeOf, typeInfo, hq, h1, Value.cells, storeCells, go_sem, hc, hf]
      · rintro _ _ rfl rfl
        simp [Instr.storeAt, Instr.sureAddr, storeVar, sizeOf, typeInfo, hq, h1, Value.cells, storeCells, go_sem, hc, hf]
    have := e _ _ haddr hv
    simpa only [execOp, ho] using this
end

theorem size22 : (Tryz.prog.info? 22).map (·.size) = some 1 := by kernel_rfl
theorem size3 : (Tryz.prog.info? 3).map (·.size) = some 1 := by kernel_rfl
theorem add_wrap4 (b s : Nat) (h2 : b ≤ 4194304) (h3 : s ≤ 80000) : IntKind.i64.wrap ((b : Int) + (s : Int)) = (b : Int) + (s : Int) := by
  rw [i64_w]; unfold wrap64; omega
theorem env_base {W W1 : World} {base : Nat} (he : Env W) (hb0 : Below base W W1) (h4 : 4 ≤ base) : Env W1 := by
  obtain ⟨⟨m, hm⟩, ht, ⟨tp, p, hp⟩, ⟨tq, q, hq⟩, hbig⟩ := he
  have hb := hb0.mono h4
  exact ⟨⟨m, (hb.cell (p := ⟨0, 0, none⟩) (by show 0 < _; omega)).trans hm⟩, var?_below hb tab_named (by omega) ht, ⟨tp, p, (hb.cell (p := ⟨2, 0, none⟩) (by show 2 < _; omega)).trans hp⟩, ⟨tq, q, (hb.cell (p := ⟨1, 0, none⟩) (by show 1 < _; omega)).trans hq⟩, by have := hb.size; omega⟩

/-- Below base all but block g stands as it stood; and so do all blocks but g and those of items (type 39). -/
def Bel (base g : Nat) (W W1 : World) : Prop := W.heap.size ≤ W1.heap.size ∧ (∀ k, k < base → k ≠ g → W1.heap[k]? = W.heap[k]?) ∧ (∀ b, b ≤ base → b ≤ g → Below b W W1) ∧
  ∀ k, k < W.heap.size → k ≠ g → (∀ cells, W.heap[k]? ≠ some (.cells cells 39 (0, 0))) → W1.heap[k]? = W.heap[k]?
theorem Bel.refl (base g : Nat) (W : World) : Bel base g W W := ⟨Nat.le_refl _, fun _ _ _ => rfl, fun _ _ _ => Below.refl _ _, fun _ _ _ _ => rfl⟩
theorem Bel.of {base g : Nat} {W W1 : World} (h : Below W.heap.size W W1) (hbw : base ≤ W.heap.size) : Bel base g W W1 := ⟨h.size, fun k hk _ => h.block k (by omega), fun _ hb _ => h.mono (by omega), fun k hk _ _ => h.block k hk⟩
theorem Bel.trans {base g : Nat} {W W1 W2 : World} (h : Bel base g W W1) (k : Bel base g W1 W2) : Bel base g W W2 :=
  ⟨Nat.le_trans h.1 k.1, fun j hj hg => (k.2.1 j hj hg).trans (h.2.1 j hj hg), fun b h1 h2 => (h.2.2.1 b h1 h2).trans (k.2.2.1 b h1 h2), fun j hj hg hn => by
    have h1 := h.2.2.2 j hj hg hn
    exact (k.2.2.2 j (Nat.lt_of_lt_of_le hj h.1) hg (fun cells => by rw [h1]; exact hn cells)).trans h1⟩
theorem Bel.size {base g : Nat} {W W1 : World} (h : Bel base g W W1) : W.heap.size ≤ W1.heap.size := h.1
theorem Bel.step {base g : Nat} {W W1 W2 : World} (h : Bel base g W W1) (hbw : base ≤ W.heap.size) (k : Below W1.heap.size W1 W2) : Bel base g W W2 := h.trans (Bel.of k (Nat.le_trans hbw h.1))
theorem Bel.drew {base g : Nat} {W W1 : World} (h : Bel base g W W1) (hbw : base ≤ W.heap.size) : Bel base g W W1.drew := h.step hbw (below_drew (Below.refl _ _))
theorem Bel.set_ {base g : Nat} {W W1 : World} (h : Bel base g W W1) (j : Nat) (u : Value) : Bel base g W (W1.setCell ⟨g, j, none⟩ u) :=
  h.trans ⟨((Below.refl 0 W1).setCell (p := ⟨g, j, none⟩) (Nat.zero_le _) u).size, fun k _ hk => Below.heap_setCell W1 ⟨g, j, none⟩ u k hk, fun _ _ hg => (Below.refl _ W1).setCell (p := ⟨g, j, none⟩) hg u, fun k _ hk _ => Below.heap_setCell W1 ⟨g, j, none⟩ u k hk⟩
theorem Bel.grown {base g : Nat} {W W1 : World} {row : Option Nat} (hb : Below base W W1) (hg : W.grownBy W1 row) (ht : ∀ k, row = some k → ∃ cells, W.heap[k]? = some (.cells cells 39 (0, 0))) : Bel base g W W1 :=
  ⟨hb.size, fun k hk _ => hb.block k hk, fun _ h _ => hb.mono h, fun k hk _ hn => hg.block k hk (fun e => by obtain ⟨cells, hc⟩ := ht k e.symm; exact hn cells hc)⟩
theorem Bel.env {base g : Nat} {W W1 : World} (h : Bel base g W W1) (he : Env W) (h4 : 4 ≤ base) (h4g : 4 ≤ g) : Env W1 := env_base he (h.2.2.1 4 h4 h4g) (Nat.le_refl _)
/-- A row of other things than items. -/
theorem Bel.row {base g b e : Nat} {W W1 : World} {α : Type} {d : Kd α} {ok : Nat → Prop} {v : Value} {xs : List α} {cs : Array Value} (h : Bel base g W W1) (hR : d.R e W b ok v xs) (hg : Blk W g cs 97) (ht : ∀ q, q ∈ e :: d.E → q ≠ 39 ∧ q ≠ 97) : d.R e W1 b ok v xs := by
  have h1 := Kd.R_bound (Kd.R_types hR hg (fun q hq => (ht q hq).2))
  refine Kd.R_mono (Kd.R_step h1 (fun k hk hlt => h.2.2.2 k hlt hk.1.2 (fun cells hc => ?_))) (fun k hk => hk.1.1)
  obtain ⟨_, _, _, q, hq, cells', hc'⟩ := hk
  rw [hc] at hc'
  injection hc' with hc'
  injection hc' with _ hc'
  exact (ht q hq).1 hc'.symm

set_option maxHeartbeats 8000000 in
set_option maxRecDepth 100000 in
theorem add_room (x : It) (g base : Nat) (most : Int) (l : List It) (W : World) (he : Env W) (h : Bld W g base most l) (hx : okId x.1) (hl : x.2.size ≤ 9223372036854775807) (hf : fits x most) (hn : l.length < 1000) (hs : sumN l ≤ 4194304) (hm : okMost most) (ht : ((frameN (l.length + 1) + sumN l + sizeN x : Nat) : Int) ≤ most) (hbw : base ≤ W.heap.size) (h4 : 4 ≤ base) (h4g : 4 ≤ g) :
    Calls Tryz.prog 29 #[.pointer (some ⟨g, 0, none⟩), .agg (itV x)] W fun e w' => e = .returned (.int .i64 0) ∧ Bld w' g base most (l ++ [x]) ∧ Bel base g W w' := by
  obtain ⟨A, c, hb, hR⟩ := h
  have HS := Aside0.mk (fun w he => single_any x most w he hx hl)
  rw [if_pos hf] at HS
  obtain ⟨n, hn'⟩ : ∃ n, l.length = n := ⟨_, rfl⟩
  obtain ⟨b, hb'⟩ : ∃ b, sumN l = b := ⟨_, rfl⟩
  obtain ⟨f, hf'⟩ : ∃ f, frameN (n + 1) = f := ⟨_, rfl⟩
  obtain ⟨sz, hsz⟩ : ∃ sz, sizeN x = sz := ⟨_, rfl⟩
  have HLN := Aside0.mk (show (l ++ [x]).length = n + 1 by rw [List.length_append, hn']; rfl)
  have HSN := Aside0.mk (show ((sumN (l ++ [x]) : Nat) : Int) = (b : Int) + (sz : Int) by rw [sumN_snoc, hb', hsz]; omega)
  have HNL := Aside0.mk hn'
  have HXL := Aside0.mk (fun k hk => let ⟨_, ho⟩ := Kd.R_own hR; own_lt ho k hk)
  rw [hn'] at hR HXL
  rw [hn', hb'] at hb
  rw [hn', hb', hf', hsz] at ht
  rw [hn'] at hn
  rw [hb'] at hs
  have hfl := frameN_le (n + 1) (by omega)
  have hsl := sizeN_le x hf.1
  rw [hf'] at hfl
  rw [hsz] at hsl
  have HF := Aside0.mk (fun w he => hf' ▸ frame_any (n + 1) w he (by omega))
  have HZ := Aside0.mk (fun w he => hsz ▸ size_any x w he hx (by have := hf.1; omega))
  have q1 : decide ((1000 : Int) < (n : Int) + 1) = false := decide_eq_false (by omega)
  have q2 : ¬ (most < (f : Int) + (b : Int) + (sz : Int)) := by omega
  have HRO := Aside0.mk hR
  have HE := Aside0.mk he
  have HX := Aside0.mk hx
  have HB := Aside0.mk hb
  have hvs : Aside0 ((itV x).size = 33) := ⟨itV_size hx⟩
  have hv1 : Aside0 ((itV x).all (·.oneCell') = true) := ⟨itV_one x⟩
  clear hR hx he hb hf hn' hb' hf' hsz ht hm
  go_enter Tryz.func29, Tryz.ntmps29
  go_upto_region 3 with (first
    | ((with_reducible refine gate_dst (N := 3) rfl ?_); refine box_blk rfl rfl rfl rfl (by rw [hvs.out]; exact size39) hv1.out ?_; intro gx w1 hg hz hb'; have HGX := Aside0.mk (show W.heap.size ≤ gx by rw [hg]; exact Nat.le_refl _); have HGN := Aside0.mk (show gx ≠ g by have h1 := blk_lt HB.out; have h2 := HGX.out; omega); have Z1 := Aside0.mk hz; have B1 := Aside0.mk hb'; have D1 := Aside0.mk (HB.out.below hb'); clear hg hz hb'))
  refine start_ (n := 7) (S := fun w' => Blk w' gx (itV x) 39 ∧ Blk w' g #[.int .i64 most, .int .i64 b, .slice A n c] 97 ∧ Below W.heap.size W w') (ds := []) (fl 7 0) (by kernel_rfl) rfl rfl ⟨Z1.out, D1.out, below_drew B1.out⟩ (fun hHeld => ?_)
  refine with_tabW r29_3d.tab r29_3d.bits (fun HT_ HW_ => ?_)
  generalize w1.drew = wd at hHeld ⊢
  have HH := Aside0.mk hHeld
  clear hHeld
  refine pure_ (i := 1) (N := some 10) (v := ?_) (a' := ?_) (fl 7 2) rfl rfl (any_of HT_.out (by kernel_rfl)) (fun _ _ _ h => h) (Or.inl ⟨by rfl, ?_⟩) ?_ ?_
  rotate_left
  · intro w'
    go_simp
    with_reducible rfl
  rotate_left
  · simp only [Act.put, List.setIfInBounds_toArray, List.set_cons_zero, List.set_cons_succ, i64_w, i32_w]
    rfl
  refine pure_ (i := 2) (N := some 11) (v := ?_) (a' := ?_) (fl 7 6) rfl rfl (any_of HT_.out (by kernel_rfl)) (fun _ _ _ h => h) (Or.inl ⟨by rfl, ?_⟩) ?_ ?_
  rotate_left
  · intro w'
    go_simp
    with_reducible rfl
  rotate_left
  · simp only [Act.put, List.setIfInBounds_toArray, List.set_cons_zero, List.set_cons_succ, i64_w, i32_w]
    rfl
  refine pure_ (i := 3) (N := some 12) (v := ?_) (a' := ?_) (fl 7 14) rfl rfl (any_of HT_.out (by kernel_rfl)) (fun _ _ _ h => h) (Or.inl ⟨by rfl, ?_⟩) ?_ ?_
  rotate_left
  · intro w'
    go_simp
    with_reducible rfl
  rotate_left
  · simp only [Act.put, List.setIfInBounds_toArray, List.set_cons_zero, List.set_cons_succ, i64_w, i32_w]
    rfl
  refine take_ (i := 0) (N := some 9) (v := .agg (itV x)) (a' := ?_) (fl 7 15) rfl rfl (take_ofW HT_.out HW_.out (by kernel_rfl)) (fun _ _ _ h => h) ?_ HH.out ?_ ?_
  · exact yields_blk (by rfl) rfl rfl (fun w h => h.1) Tryz.underlying39 rfl (by rw [itV_size HX.out]; exact size39)
  rotate_left
  · simp only [Act.put, List.setIfInBounds_toArray, List.set_cons_zero, List.set_cons_succ, i64_w, i32_w]
    rfl
  refine take_ (i := 4) (N := some 13) (v := ?_) (a' := ?_) (fl 7 31) rfl rfl (take_ofW HT_.out HW_.out (by kernel_rfl)) (fun _ _ _ h => h) (Or.inl ⟨by rfl, ?_⟩) HH.out ?_ ?_
  rotate_left
  · intro w' hS'
    have hc : w'.cell? ⟨g, 0, none⟩ = some (.int .i64 most) := by rw [Lib.cell_of_heap hS'.2.1]; rfl
    go_simp
    with_reducible rfl
  rotate_left
  · simp only [Act.put, List.setIfInBounds_toArray, List.set_cons_zero, List.set_cons_succ, i64_w, i32_w]
    rfl
  refine one_ (i := 5) (N := some 14) (fl 7 63) rfl rfl (one_of HT_.out (by kernel_rfl)) (by decide) (fun K hK => ?_)
  refine goes_ Tryz.func52 (by kernel_rfl) rfl #[.agg (itV x), .int .i64 most] (by rfl) rfl rfl (by simp only [List.map_toArray, List.map_cons, List.map_nil]; rfl) ?_
  refine (HS.out _ (HE.out.below HH.out.2.2)).mono ?_
  rintro e w' ⟨rfl, hb⟩
  refine ⟨_, rfl, hK.out _ _ ⟨HH.out.1.below hb, HH.out.2.1.below hb, below_step HH.out.2.2 hb⟩ (fun hHeld => ?_)⟩
  have HH2 := Aside0.mk hHeld
  clear hHeld HH
  have HH := HH2
  clear HH2
  try clear hb
  try clear hK K
  refine norm_ (a' := ?_) ?_ ?_
  rotate_left
  · show Act.put _ (some 14) _ = _
    simp only [Act.put, List.setIfInBounds_toArray, List.set_cons_zero, List.set_cons_succ, i64_w, i32_w]
    rfl
  refine pure_ (i := 6) (N := some 5) (v := ?_) (a' := ?_) (fl 7 127) rfl rfl (any_of HT_.out (by kernel_rfl)) (fun _ _ _ h => h) (Or.inl ⟨by rfl, ?_⟩) ?_ ?_
  rotate_left
  · intro w'
    go_simp
    with_reducible rfl
  rotate_left
  · simp only [Act.put, List.setIfInBounds_toArray, List.set_cons_zero, List.set_cons_succ, i64_w, i32_w]
    rfl
  refine done_ (done_of HT_.out (by kernel_rfl)) ?_
  try clear hb
  have HQ := HH
  clear HH
  have hq2 : w'.cell? ⟨g, 2, none⟩ = some (.slice A n c) := by rw [Lib.cell_of_heap HQ.out.2.1]; rfl
  go_wp2_with fail
  refine start_ (n := 19) (S := fun w' => Blk w' gx (itV x) 39 ∧ Blk w' g #[.int .i64 most, .int .i64 b, .slice A n c] 97 ∧ Below W.heap.size W w') (ds := []) (fl 19 0) (by kernel_rfl) rfl rfl ⟨HQ.out.1, HQ.out.2.1, below_drew HQ.out.2.2⟩ (fun hHeld => ?_)
  refine with_tabW r29_7d.tab r29_7d.bits (fun HT_ HW_ => ?_)
  generalize w'.drew = wd at hHeld ⊢
  have HH := Aside0.mk hHeld
  clear hHeld
  refine pure_ (i := 0) (N := some 24) (v := ?_) (a' := ?_) (fl 19 1) rfl rfl (any_of HT_.out (by kernel_rfl)) (fun _ _ _ h => h) (Or.inl ⟨by rfl, ?_⟩) ?_ ?_
  rotate_left
  · intro w'
    go_simp
    with_reducible rfl
  rotate_left
  · simp only [Act.put, List.setIfInBounds_toArray, List.set_cons_zero, List.set_cons_succ, i64_w, i32_w]
    rfl
  refine pure_ (i := 1) (N := some 25) (v := ?_) (a' := ?_) (fl 19 3) rfl rfl (any_of HT_.out (by kernel_rfl)) (fun _ _ _ h => h) (Or.inl ⟨by rfl, ?_⟩) ?_ ?_
  rotate_left
  · intro w'
    go_simp
    with_reducible rfl
  rotate_left
  · simp only [Act.put, List.setIfInBounds_toArray, List.set_cons_zero, List.set_cons_succ, i64_w, i32_w]
    rfl
  refine pure_ (i := 2) (N := some 26) (v := ?_) (a' := ?_) (fl 19 7) rfl rfl (any_of HT_.out (by kernel_rfl)) (fun _ _ _ h => h) (Or.inl ⟨by rfl, ?_⟩) ?_ ?_
  rotate_left
  · intro w'
    go_simp
    with_reducible rfl
  rotate_left
  · simp only [Act.put, List.setIfInBounds_toArray, List.set_cons_zero, List.set_cons_succ, i64_w, i32_w]
    rfl
  refine pure_ (i := 3) (N := some 27) (v := ?_) (a' := ?_) (fl 19 15) rfl rfl (any_of HT_.out (by kernel_rfl)) (fun _ _ _ h => h) (Or.inl ⟨by rfl, ?_⟩) ?_ ?_
  rotate_left
  · intro w'
    go_simp
    with_reducible rfl
  rotate_left
  · simp only [Act.put, List.setIfInBounds_toArray, List.set_cons_zero, List.set_cons_succ, i64_w, i32_w]
    rfl
  refine pure_ (i := 5) (N := some 29) (v := ?_) (a' := ?_) (fl 19 47) rfl rfl (any_of HT_.out (by kernel_rfl)) (fun _ _ _ h => h) (Or.inl ⟨by rfl, ?_⟩) ?_ ?_
  rotate_left
  · intro w'
    go_simp
    with_reducible rfl
  rotate_left
  · simp only [Act.put, List.setIfInBounds_toArray, List.set_cons_zero, List.set_cons_succ, i64_w, i32_w]
    rfl
  refine pure_ (i := 6) (N := some 30) (v := ?_) (a' := ?_) (fl 19 111) rfl rfl (any_of HT_.out (by kernel_rfl)) (fun _ _ _ h => h) (Or.inl ⟨by rfl, ?_⟩) ?_ ?_
  rotate_left
  · intro w'
    go_simp
    with_reducible rfl
  rotate_left
  · simp only [Act.put, List.setIfInBounds_toArray, List.set_cons_zero, List.set_cons_succ, i64_w, i32_w]
    rfl
  refine pure_ (i := 7) (N := some 31) (v := ?_) (a' := ?_) (fl 19 239) rfl rfl (any_of HT_.out (by kernel_rfl)) (fun _ _ _ h => h) (Or.inl ⟨by rfl, ?_⟩) ?_ ?_
  rotate_left
  · intro w'
    go_simp
    with_reducible rfl
  rotate_left
  · simp only [Act.put, List.setIfInBounds_toArray, List.set_cons_zero, List.set_cons_succ, i64_w, i32_w]
    rfl
  refine pure_ (i := 13) (N := some 37) (v := ?_) (a' := ?_) (fl 19 8431) rfl rfl (any_of HT_.out (by kernel_rfl)) (fun _ _ _ h => h) (Or.inl ⟨by rfl, ?_⟩) ?_ ?_
  rotate_left
  · intro w'
    go_simp
    with_reducible rfl
  rotate_left
  · simp only [Act.put, List.setIfInBounds_toArray, List.set_cons_zero, List.set_cons_succ, i64_w, i32_w]
    rfl
  refine pure_ (i := 14) (N := some 38) (v := ?_) (a' := ?_) (fl 19 24815) rfl rfl (any_of HT_.out (by kernel_rfl)) (fun _ _ _ h => h) (Or.inl ⟨by rfl, ?_⟩) ?_ ?_
  rotate_left
  · intro w'
    go_simp
    with_reducible rfl
  rotate_left
  · simp only [Act.put, List.setIfInBounds_toArray, List.set_cons_zero, List.set_cons_succ, i64_w, i32_w]
    rfl
  refine pure_ (i := 15) (N := some 39) (v := ?_) (a' := ?_) (fl 19 57583) rfl rfl (any_of HT_.out (by kernel_rfl)) (fun _ _ _ h => h) (Or.inl ⟨by rfl, ?_⟩) ?_ ?_
  rotate_left
  · intro w'
    go_simp
    with_reducible rfl
  rotate_left
  · simp only [Act.put, List.setIfInBounds_toArray, List.set_cons_zero, List.set_cons_succ, i64_w, i32_w]
    rfl
  refine take_ (i := 8) (N := some 32) (v := ?_) (a' := ?_) (fl 19 57839) rfl rfl (take_ofW HT_.out HW_.out (by kernel_rfl)) (fun _ _ _ h => h) (Or.inl ⟨by rfl, ?_⟩) HH.out ?_ ?_
  rotate_left
  · intro w' hS'
    have hc : w'.cell? ⟨g, 1, none⟩ = some (.int .i64 b) := by rw [Lib.cell_of_heap hS'.2.1]; rfl
    go_simp
    with_reducible rfl
  rotate_left
  · simp only [Act.put, List.setIfInBounds_toArray, List.set_cons_zero, List.set_cons_succ, i64_w, i32_w]
    rfl
  refine take_ (i := 10) (N := some 34) (v := .agg (itV x)) (a' := ?_) (fl 19 58863) rfl rfl (take_ofW HT_.out HW_.out (by kernel_rfl)) (fun _ _ _ h => h) ?_ HH.out ?_ ?_
  · exact yields_blk (by rfl) rfl rfl (fun w h => h.1) Tryz.underlying39 rfl (by rw [itV_size HX.out]; exact size39)
  rotate_left
  · simp only [Act.put, List.setIfInBounds_toArray, List.set_cons_zero, List.set_cons_succ, i64_w, i32_w]
    rfl
  refine take_ (i := 16) (N := some 40) (v := ?_) (a' := ?_) (fl 19 124399) rfl rfl (take_ofW HT_.out HW_.out (by kernel_rfl)) (fun _ _ _ h => h) (Or.inl ⟨by rfl, ?_⟩) HH.out ?_ ?_
  rotate_left
  · intro w' hS'
    have hc : w'.cell? ⟨g, 0, none⟩ = some (.int .i64 most) := by rw [Lib.cell_of_heap hS'.2.1]; rfl
    go_simp
    with_reducible rfl
  rotate_left
  · simp only [Act.put, List.setIfInBounds_toArray, List.set_cons_zero, List.set_cons_succ, i64_w, i32_w]
    rfl
  refine one_ (i := 4) (N := some 28) (fl 19 124415) rfl rfl (one_of HT_.out (by kernel_rfl)) (by decide) (fun K hK => ?_)
  refine goes_ Tryz.func53 (by kernel_rfl) rfl #[.int .i64 (n + 1 : Nat)] (by rfl) rfl rfl (by simp only [List.map_toArray, List.map_cons, List.map_nil]; rfl) ?_
  refine (HF.out _ (HE.out.below HH.out.2.2)).mono ?_
  rintro e w' ⟨rfl, hb⟩
  refine ⟨_, rfl, hK.out _ _ ⟨HH.out.1.below hb, HH.out.2.1.below hb, below_step HH.out.2.2 hb⟩ (fun hHeld => ?_)⟩
  have HH2 := Aside0.mk hHeld
  clear hHeld HH
  have HH := HH2
  clear HH2
  try clear hb
  try clear hK K
  refine norm_ (a' := ?_) ?_ ?_
  rotate_left
  · show Act.put _ (some 28) _ = _
    simp only [Act.put, List.setIfInBounds_toArray, List.set_cons_zero, List.set_cons_succ, i64_w, i32_w]
    rfl
  refine pure_ (i := 9) (N := some 33) (v := ?_) (a' := ?_) (fl 19 124927) rfl rfl (any_of HT_.out (by kernel_rfl)) (fun _ _ _ h => h) (Or.inl ⟨by rfl, ?_⟩) ?_ ?_
  rotate_left
  · intro w'
    go_simp
    exact congrArg (Value.int .i64) (add_wrap2 f b hfl hs)
  rotate_left
  · simp only [Act.put, List.setIfInBounds_toArray, List.set_cons_zero, List.set_cons_succ, i64_w, i32_w]
    rfl
  refine one_ (i := 11) (N := some 35) (fl 19 126975) rfl rfl (one_of HT_.out (by kernel_rfl)) (by decide) (fun K hK => ?_)
  refine goes_ Tryz.func54 (by kernel_rfl) rfl #[.agg (itV x)] (by rfl) rfl rfl (by simp only [List.map_toArray, List.map_cons, List.map_nil]; rfl) ?_
  refine (HZ.out _ (HE.out.below HH.out.2.2)).mono ?_
  rintro e w' ⟨rfl, hb⟩
  refine ⟨_, rfl, hK.out _ _ ⟨HH.out.1.below hb, HH.out.2.1.below hb, below_step HH.out.2.2 hb⟩ (fun hHeld => ?_)⟩
  have HH2 := Aside0.mk hHeld
  clear hHeld HH
  have HH := HH2
  clear HH2
  try clear hb
  try clear hK K
  refine norm_ (a' := ?_) ?_ ?_
  rotate_left
  · show Act.put _ (some 35) _ = _
    simp only [Act.put, List.setIfInBounds_toArray, List.set_cons_zero, List.set_cons_succ, i64_w, i32_w]
    rfl
  refine pure_ (i := 12) (N := some 36) (v := ?_) (a' := ?_) (fl 19 131071) rfl rfl (any_of HT_.out (by kernel_rfl)) (fun _ _ _ h => h) (Or.inl ⟨by rfl, ?_⟩) ?_ ?_
  rotate_left
  · intro w'
    go_simp
    exact congrArg (Value.int .i64) (add_wrap3 f b sz hfl hs hsl)
  rotate_left
  · simp only [Act.put, List.setIfInBounds_toArray, List.set_cons_zero, List.set_cons_succ, i64_w, i32_w]
    rfl
  refine pure_ (i := 17) (N := some 41) (v := ?_) (a' := ?_) (fl 19 262143) rfl rfl (any_of HT_.out (by kernel_rfl)) (fun _ _ _ h => h) (Or.inl ⟨by rfl, ?_⟩) ?_ ?_
  rotate_left
  · intro w'
    go_simp
    with_reducible rfl
  rotate_left
  · simp only [Act.put, List.setIfInBounds_toArray, List.set_cons_zero, List.set_cons_succ, i64_w, i32_w]
    rfl
  refine pure_ (i := 18) (N := some 42) (v := ?_) (a' := ?_) (fl 19 524287) rfl rfl (any_of HT_.out (by kernel_rfl)) (fun _ _ _ h => h) (Or.inl ⟨by rfl, ?_⟩) ?_ ?_
  rotate_left
  · intro w'
    go_simp
    with_reducible rfl
  rotate_left
  · simp only [Act.put, List.setIfInBounds_toArray, List.set_cons_zero, List.set_cons_succ, i64_w, i32_w]
    rfl
  refine done_ (done_of HT_.out (by kernel_rfl)) ?_
  have HQ7 := HH
  clear HH
  go_wp2_with fail
  refine start_ (n := 11) (S := fun w' => Blk w' gx (itV x) 39 ∧ Blk w' g #[.int .i64 most, .int .i64 b, .slice A n c] 97 ∧ Kit.R 39 w' base (fun k => k ≠ g) (.slice A n c) l ∧ Bel base g W w') (ds := [7, 10]) (fl 11 0) (by kernel_rfl) rfl rfl ⟨HQ7.out.1, HQ7.out.2.1, Kd.R_drew (Kd.R_below HRO.out HQ7.out.2.2), (Bel.of HQ7.out.2.2 hbw).drew hbw⟩ (fun hHeld => ?_)
  refine with_tabW r29_9.tab r29_9.bits (fun HT_ HW_ => ?_)
  generalize w'.drew = wd at hHeld ⊢
  have HH := Aside0.mk hHeld
  clear hHeld
  refine pure_ (i := 0) (N := some 43) (v := ?_) (a' := ?_) (fl 11 1) rfl rfl (any_of HT_.out (by kernel_rfl)) (fun _ _ _ h => h) (Or.inl ⟨by rfl, ?_⟩) ?_ ?_
  rotate_left
  · intro w'
    go_simp
    with_reducible rfl
  rotate_left
  · simp only [Act.put, List.setIfInBounds_toArray, List.set_cons_zero, List.set_cons_succ, i64_w, i32_w]
    rfl
  refine pure_ (i := 1) (N := some 44) (v := ?_) (a' := ?_) (fl 11 3) rfl rfl (any_of HT_.out (by kernel_rfl)) (fun _ _ _ h => h) (Or.inl ⟨by rfl, ?_⟩) ?_ ?_
  rotate_left
  · intro w'
    go_simp
    with_reducible rfl
  rotate_left
  · simp only [Act.put, List.setIfInBounds_toArray, List.set_cons_zero, List.set_cons_succ, i64_w, i32_w]
    rfl
  refine pure_ (i := 2) (N := some 45) (v := ?_) (a' := ?_) (fl 11 7) rfl rfl (any_of HT_.out (by kernel_rfl)) (fun _ _ _ h => h) (Or.inl ⟨by rfl, ?_⟩) ?_ ?_
  rotate_left
  · intro w'
    go_simp
    with_reducible rfl
  rotate_left
  · simp only [Act.put, List.setIfInBounds_toArray, List.set_cons_zero, List.set_cons_succ, i64_w, i32_w]
    rfl
  refine pure_ (i := 3) (N := some 46) (v := ?_) (a' := ?_) (fl 11 15) rfl rfl (any_of HT_.out (by kernel_rfl)) (fun _ _ _ h => h) (Or.inl ⟨by rfl, ?_⟩) ?_ ?_
  rotate_left
  · intro w'
    go_simp
    with_reducible rfl
  rotate_left
  · simp only [Act.put, List.setIfInBounds_toArray, List.set_cons_zero, List.set_cons_succ, i64_w, i32_w]
    rfl
  refine take_ (i := 4) (N := some 47) (v := ?_) (a' := ?_) (fl 11 31) rfl rfl (take_ofW HT_.out HW_.out (by kernel_rfl)) (fun _ _ _ h => h) (Or.inl ⟨by rfl, ?_⟩) HH.out ?_ ?_
  rotate_left
  · intro w' hS'
    have hc : w'.cell? ⟨g, 2, none⟩ = some (.slice A n c) := by rw [Lib.cell_of_heap hS'.2.1]; rfl
    go_simp
    with_reducible rfl
  rotate_left
  · simp only [Act.put, List.setIfInBounds_toArray, List.set_cons_zero, List.set_cons_succ, i64_w, i32_w]
    rfl
  refine take_ (i := 5) (N := some 48) (v := .agg (itV x)) (a' := ?_) (fl 11 63) rfl rfl (take_ofW HT_.out HW_.out (by kernel_rfl)) (fun _ _ _ h => h) ?_ HH.out ?_ ?_
  · exact yields_blk (by rfl) rfl rfl (fun w h => h.1) Tryz.underlying39 rfl (by rw [itV_size HX.out]; exact size39)
  rotate_left
  · simp only [Act.put, List.setIfInBounds_toArray, List.set_cons_zero, List.set_cons_succ, i64_w, i32_w]
    rfl
  refine one_ (i := 6) (N := some 49) (fl 11 127) rfl rfl (one_of HT_.out (by kernel_rfl)) (by decide) (fun K hK => ?_)
  refine slice_one_step (by rfl) rfl rfl Tryz.underlying22 zero39 (itV_size okId_z) (itV_size HX.out) (by omega) (by omega) ?_
  intro g31 w' hg31 hz hb
  refine hK.out _ _ ⟨HH.out.1.below hb, HH.out.2.1.below hb, Kd.R_below HH.out.2.2.1 hb, HH.out.2.2.2.step hbw hb⟩ (fun hHeld => ?_)
  have HY := Aside0.mk (Kit.of_blk hz HX.out)
  clear hz hg31
  have HH2 := Aside0.mk hHeld
  clear hHeld HH
  have HH := HH2
  clear HH2
  try clear hb
  try clear hK K
  refine norm_ (a' := ?_) ?_ ?_
  rotate_left
  · show Act.put _ (some 49) _ = _
    simp only [Act.put, List.setIfInBounds_toArray, List.set_cons_zero, List.set_cons_succ, i64_w, i32_w]
    rfl
  refine last_ (i := 7) (N := some 50) (fl 11 255) rfl rfl (one_of HT_.out (by kernel_rfl)) (by decide) (fun K hK => ?_)
  refine Kd.R_append_rows_step Kit (Rr := Kit.K wd) (w0 := w') base (by rfl) (.tmp 47) (.tmp 49) 22 39 (.agg (itV zIt)) 48 rfl Tryz.underlying22 info39 (itV_size okId_z) (by decide) (by omega) (.slice A n c) l [x] (some ⟨g31, 0, none⟩) 1 1 (fun k => k ≠ g) (fun _ => False) rfl rfl ?aO ?aR (fun _ _ h => h) (fun _ h => h.elim) ?aF ?aB ?aS ?aL ?_
  case aR => exact HY.out
  case aB => exact Below.refl _ _
  case aF => exact (fun k hk e => by have := blk_lt HH.out.2.1; omega)
  case aO => exact HH.out.2.2.1
  case aS => exact (by have := HH.out.2.2.2.size; omega)
  case aL => have := HNL.out; omega
  intro v6 w6 ho hb6 hgr _
  refine hK.out _ _ ?_
  have C6 := Aside0.mk (show Blk w6 gx (itV x) 39 from blk_grown HH.out.1 hgr (fun e => by have := HXL.out gx e.symm; have := HGX.out; omega))
  have D6 := Aside0.mk (show Blk w6 g #[.int .i64 most, .int .i64 b, .slice A n c] 97 from blk_grown HH.out.2.1 hgr (fun e => HH.out.2.2.1.1 g e.symm rfl))
  have B6 := Aside0.mk (HH.out.2.2.2.trans (Bel.grown hb6 hgr (Kd.R_typed HH.out.2.2.1)))
  obtain ⟨A6, c6, ev6⟩ := Kd.R_slice ho
  rw [List.length_append, HNL.out] at ev6
  subst ev6
  have R6 := Aside0.mk ho
  clear ho hb6 hgr
  try clear hK K
  refine norm_ (a' := ?_) ?_ ?_
  rotate_left
  · show Act.put _ (some 50) _ = _
    simp only [Act.put, List.setIfInBounds_toArray, List.set_cons_zero, List.set_cons_succ, i64_w, i32_w]
    rfl
  refine pure_ (i := 8) (N := some 51) (v := ?_) (a' := ?_) (fl 11 511) rfl rfl (any_of HT_.out (by kernel_rfl)) (fun _ _ _ h => h) (Or.inl ⟨by rfl, ?_⟩) ?_ ?_
  rotate_left
  · intro w'
    go_simp
    with_reducible rfl
  rotate_left
  · simp only [Act.put, List.setIfInBounds_toArray, List.set_cons_zero, List.set_cons_succ, i64_w, i32_w]
    rfl
  refine pure_ (i := 9) (N := some 52) (v := ?_) (a' := ?_) (fl 11 1023) rfl rfl (any_of HT_.out (by kernel_rfl)) (fun _ _ _ h => h) (Or.inl ⟨by rfl, ?_⟩) ?_ ?_
  rotate_left
  · intro w'
    go_simp
    with_reducible rfl
  rotate_left
  · simp only [Act.put, List.setIfInBounds_toArray, List.set_cons_zero, List.set_cons_succ, i64_w, i32_w]
    rfl
  refine last_ (i := 10) (N := none) (fl 11 2047) rfl rfl (one_of HT_.out (by kernel_rfl)) (by decide) (fun K hK => ?_)
  refine store_cell_step (by rfl) rfl rfl rfl rfl D6.out rfl (Or.inr ⟨_, _, _, rfl⟩) size22 ?_
  intro w7 hw7 hz7
  refine hK.out _ _ ?_
  have C7 := Aside0.mk (show Blk w7 gx (itV x) 39 by rw [hw7]; exact blk_far C6.out HGN.out _)
  have R7 := Aside0.mk (show Kit.R 39 w7 base (fun k => k ≠ g) (.slice A6 (n + 1) c6) (l ++ [x]) by rw [hw7]; exact Kd.R_far R6.out (fun k hk => hk) _)
  have B7 := Aside0.mk (show Bel base g W w7 by rw [hw7]; exact B6.out.set_ 2 _)
  have D7 := Aside0.mk (show Blk w7 g #[.int .i64 most, .int .i64 b, .slice A6 (n + 1) c6] 97 from hz7)
  clear hw7 hz7 C6 D6 R6 B6
  try clear hK K
  refine done_ (done_of HT_.out (by kernel_rfl)) ?_
  go_wp2_with fail
  refine start_ (n := 10) (S := fun w' => Blk w' gx (itV x) 39 ∧ Blk w' g #[.int .i64 most, .int .i64 b, .slice A6 (n + 1) c6] 97 ∧ Kit.R 39 w' base (fun k => k ≠ g) (.slice A6 (n + 1) c6) (l ++ [x]) ∧ Bel base g W w') (ds := [9]) (fl 10 0) (by kernel_rfl) rfl rfl ⟨C7.out, D7.out, Kd.R_drew R7.out, B7.out.drew hbw⟩ (fun hHeld => ?_)
  refine with_tabW r29_10.tab r29_10.bits (fun HT_ HW_ => ?_)
  generalize w7.drew = wd at hHeld ⊢
  have HH := Aside0.mk hHeld
  clear hHeld
  refine pure_ (i := 0) (N := some 53) (v := ?_) (a' := ?_) (fl 10 1) rfl rfl (any_of HT_.out (by kernel_rfl)) (fun _ _ _ h => h) (Or.inl ⟨by rfl, ?_⟩) ?_ ?_
  rotate_left
  · intro w'
    go_simp
    with_reducible rfl
  rotate_left
  · simp only [Act.put, List.setIfInBounds_toArray, List.set_cons_zero, List.set_cons_succ, i64_w, i32_w]
    rfl
  refine pure_ (i := 1) (N := some 54) (v := ?_) (a' := ?_) (fl 10 3) rfl rfl (any_of HT_.out (by kernel_rfl)) (fun _ _ _ h => h) (Or.inl ⟨by rfl, ?_⟩) ?_ ?_
  rotate_left
  · intro w'
    go_simp
    with_reducible rfl
  rotate_left
  · simp only [Act.put, List.setIfInBounds_toArray, List.set_cons_zero, List.set_cons_succ, i64_w, i32_w]
    rfl
  refine pure_ (i := 2) (N := some 55) (v := ?_) (a' := ?_) (fl 10 7) rfl rfl (any_of HT_.out (by kernel_rfl)) (fun _ _ _ h => h) (Or.inl ⟨by rfl, ?_⟩) ?_ ?_
  rotate_left
  · intro w'
    go_simp
    with_reducible rfl
  rotate_left
  · simp only [Act.put, List.setIfInBounds_toArray, List.set_cons_zero, List.set_cons_succ, i64_w, i32_w]
    rfl
  refine take_ (i := 3) (N := some 56) (v := ?_) (a' := ?_) (fl 10 15) rfl rfl (take_ofW HT_.out HW_.out (by kernel_rfl)) (fun _ _ _ h => h) (Or.inl ⟨by rfl, ?_⟩) HH.out ?_ ?_
  rotate_left
  · intro w' hS'
    have hc : w'.cell? ⟨g, 1, none⟩ = some (.int .i64 b) := by rw [Lib.cell_of_heap hS'.2.1]; rfl
    go_simp
    with_reducible rfl
  rotate_left
  · simp only [Act.put, List.setIfInBounds_toArray, List.set_cons_zero, List.set_cons_succ, i64_w, i32_w]
    rfl
  refine take_ (i := 4) (N := some 57) (v := .agg (itV x)) (a' := ?_) (fl 10 31) rfl rfl (take_ofW HT_.out HW_.out (by kernel_rfl)) (fun _ _ _ h => h) ?_ HH.out ?_ ?_
  · exact yields_blk (by rfl) rfl rfl (fun w h => h.1) Tryz.underlying39 rfl (by rw [itV_size HX.out]; exact size39)
  rotate_left
  · simp only [Act.put, List.setIfInBounds_toArray, List.set_cons_zero, List.set_cons_succ, i64_w, i32_w]
    rfl
  refine one_ (i := 5) (N := some 58) (fl 10 63) rfl rfl (one_of HT_.out (by kernel_rfl)) (by decide) (fun K hK => ?_)
  refine goes_ Tryz.func54 (by kernel_rfl) rfl #[.agg (itV x)] (by rfl) rfl rfl (by simp only [List.map_toArray, List.map_cons, List.map_nil]; rfl) ?_
  refine (HZ.out _ (HH.out.2.2.2.env HE.out h4 h4g)).mono ?_
  rintro e w' ⟨rfl, hb⟩
  refine ⟨_, rfl, hK.out _ _ ⟨HH.out.1.below hb, HH.out.2.1.below hb, Kd.R_below HH.out.2.2.1 hb, HH.out.2.2.2.step hbw hb⟩ (fun hHeld => ?_)⟩
  have HH2 := Aside0.mk hHeld
  clear hHeld HH
  have HH := HH2
  clear HH2
  try clear hb
  try clear hK K
  refine norm_ (a' := ?_) ?_ ?_
  rotate_left
  · show Act.put _ (some 58) _ = _
    simp only [Act.put, List.setIfInBounds_toArray, List.set_cons_zero, List.set_cons_succ, i64_w, i32_w]
    rfl
  refine pure_ (i := 6) (N := some 59) (v := ?_) (a' := ?_) (fl 10 127) rfl rfl (any_of HT_.out (by kernel_rfl)) (fun _ _ _ h => h) (Or.inl ⟨by rfl, ?_⟩) ?_ ?_
  rotate_left
  · intro w'
    go_simp
    exact congrArg (Value.int .i64) (add_wrap4 b sz hs hsl)
  rotate_left
  · simp only [Act.put, List.setIfInBounds_toArray, List.set_cons_zero, List.set_cons_succ, i64_w, i32_w]
    rfl
  refine pure_ (i := 7) (N := some 60) (v := ?_) (a' := ?_) (fl 10 255) rfl rfl (any_of HT_.out (by kernel_rfl)) (fun _ _ _ h => h) (Or.inl ⟨by rfl, ?_⟩) ?_ ?_
  rotate_left
  · intro w'
    go_simp
    with_reducible rfl
  rotate_left
  · simp only [Act.put, List.setIfInBounds_toArray, List.set_cons_zero, List.set_cons_succ, i64_w, i32_w]
    rfl
  refine pure_ (i := 8) (N := some 61) (v := ?_) (a' := ?_) (fl 10 511) rfl rfl (any_of HT_.out (by kernel_rfl)) (fun _ _ _ h => h) (Or.inl ⟨by rfl, ?_⟩) ?_ ?_
  rotate_left
  · intro w'
    go_simp
    with_reducible rfl
  rotate_left
  · simp only [Act.put, List.setIfInBounds_toArray, List.set_cons_zero, List.set_cons_succ, i64_w, i32_w]
    rfl
  refine last_ (i := 9) (N := none) (fl 10 1023) rfl rfl (one_of HT_.out (by kernel_rfl)) (by decide) (fun K hK => ?_)
  refine store_cell_step (by rfl) rfl rfl rfl rfl HH.out.2.1 rfl (Or.inl ⟨_, _, rfl⟩) size3 ?_
  intro w8 hw8 hz8
  refine hK.out _ _ ?_
  have R8 := Aside0.mk (show Kit.R 39 w8 base (fun k => k ≠ g) (.slice A6 (n + 1) c6) (l ++ [x]) by rw [hw8]; exact Kd.R_far HH.out.2.2.1 (fun k hk => hk) _)
  have B8 := Aside0.mk (show Bel base g W w8 by rw [hw8]; exact HH.out.2.2.2.set_ 1 _)
  have D8 := Aside0.mk (show Blk w8 g #[.int .i64 most, .int .i64 ((b : Int) + (sz : Int)), .slice A6 (n + 1) c6] 97 from hz8)
  clear hw8 hz8
  try clear hK K
  refine done_ (done_of HT_.out (by kernel_rfl)) ?_
  go_wp2_with fail
  go_ret
  exact ⟨rfl, ⟨A6, c6, by rw [HSN.out, HLN.out]; exact D8.out, by rw [HLN.out]; exact R8.out⟩, B8.out⟩

end Go.Proofs.YtceopllngemnnaaGreatDoor

