/-
  The room of a builder of batches: what it returns.
-/
import Derived.Test.YtceopllngemnnaaGreatDoorG0
set_option linter.unusedVariables false
set_option linter.unusedSimpArgs false
namespace Go.Proofs.YtceopllngemnnaaGreatDoor
open Go.RowKit Go.Proofs.YtceopllngemnnaaGreatDoorW.PrintWords Go.Proofs.YtceopllngemnnaaGreatDoorW.PrintLast Go.Proofs.YtceopllngemnnaaGreatDoorW.PrintMore Go.Proofs.YtceopllngemnnaaGreatDoor.PRef
attribute [local go_sem] max2_int min2_int max_two min_two

/-! Region tables, printed by rg2.py. -/
def r32_3.T : Bool × List (List Nat × List Nat) := (true, [([], []), ([0], [0]), ([1], [1]), ([2], [2]), ([], []), ([4], [4]), ([5], [5]), ([6], [6]), ([7], [7]), ([8], [8]), ([3, 9], [3, 9]), ([], []), ([11], [11]), ([12], [12]), ([13], [13]), ([10, 14], [10, 14]), ([15], [15]), ([16, 9, 0, 1, 2, 3, 4, 5, 6, 7, 8, 9, 10, 11, 12, 13, 14, 15, 16], [16])])
def r32_3.B : List Nat := [0, 1, 3, 7, 0, 16, 48, 112, 240, 496, 1023, 0, 2048, 6144, 14336, 32767, 65535, 131071]
theorem r32_3.tab : rtab .any (opsOf Tryz.f32 3) = r32_3.T := by kernel_rfl
theorem r32_3.bits : waitsOk r32_3.T.2 r32_3.B = true := by kernel_rfl

theorem room_nil (W : World) : Calls Tryz.prog 32 #[.pointer none] W fun e w' => e = .returned (.int .i64 0) ∧ Below W.heap.size W w' := by
  go_enter Tryz.func32, Tryz.ntmps32
  go_wp2_with fail
  go_ret
  exact ⟨rfl, Below.refl _ _⟩
theorem room_wrap (m : Int) (f b : Nat) (h1 : 1 ≤ m) (h2 : m ≤ 4194304) (h3 : f ≤ 200000) (h4 : b ≤ 4194304) : wrap64 (wrap64 (m - f) - b) = m - f - b := by
  unfold wrap64; omega
def roomF (most : Int) (l : List It) : Int := if 0 ≤ most - frameN l.length - sumN l then most - frameN l.length - sumN l else 0
set_option maxHeartbeats 4000000 in
set_option maxRecDepth 100000 in
theorem room_any (g base : Nat) (most : Int) (l : List It) (W : World) (he : Env W) (h : Bld W g base most l) (hm : okMost most) (hs : sumN l ≤ 4194304) (hn : l.length ≤ 1000) :
    Calls Tryz.prog 32 #[.pointer (some ⟨g, 0, none⟩)] W fun e w' => e = .returned (.int .i64 (roomF most l)) ∧ Below W.heap.size W w' := by
  obtain ⟨A, c, hb, _⟩ := h
  obtain ⟨hm1, hm2⟩ := hm
  obtain ⟨n, hn'⟩ : ∃ n, l.length = n := ⟨_, rfl⟩
  obtain ⟨b, hb'⟩ : ∃ b, sumN l = b := ⟨_, rfl⟩
  obtain ⟨f, hf⟩ : ∃ f, frameN n = f := ⟨_, rfl⟩
  have hfl := frameN_le n (by omega)
  rw [hf] at hfl
  have hrf : roomF most l = (if 0 ≤ most - f - b then most - f - b else 0) := by unfold roomF; rw [hn', hb', hf]
  generalize roomF most l = rr at hrf ⊢
  have HRF := Aside0.mk hrf
  rw [hn', hb'] at hb
  rw [hn'] at hn
  rw [hb'] at hs
  have HF := Aside0.mk (fun w he => hf ▸ frame_any n w he (by omega))
  have HB := Aside0.mk hb
  have HE := Aside0.mk he
  clear hb he hn' hb' hf hrf
  go_enter Tryz.func32, Tryz.ntmps32
  go_wp2_with fail
  refine start_ (n := 18) (S := fun w' => Blk w' g #[.int .i64 most, .int .i64 b, .slice A n c] 97 ∧ Below W.heap.size W w') (ds := []) (fl 18 0) (by kernel_rfl) rfl rfl ⟨HB.out, below_drew (Below.refl _ _)⟩ (fun hHeld => ?_)
  refine with_tabW r32_3.tab r32_3.bits (fun HT_ HW_ => ?_)
  generalize W.drew = wd at hHeld ⊢
  have HH := Aside0.mk hHeld
  clear hHeld
  refine pure_ (i := 0) (N := some 5) (v := ?_) (a' := ?_) (fl 18 1) rfl rfl (any_of HT_.out (by kernel_rfl)) (fun _ _ _ h => h) (Or.inl ⟨by rfl, ?_⟩) ?_ ?_
  rotate_left
  · intro w'
    go_simp
    with_reducible rfl
  rotate_left
  · simp only [Act.put, List.setIfInBounds_toArray, List.set_cons_zero, List.set_cons_succ, i64_w, i32_w]
    rfl
  refine pure_ (i := 1) (N := some 6) (v := ?_) (a' := ?_) (fl 18 3) rfl rfl (any_of HT_.out (by kernel_rfl)) (fun _ _ _ h => h) (Or.inl ⟨by rfl, ?_⟩) ?_ ?_
  rotate_left
  · intro w'
    go_simp
    with_reducible rfl
  rotate_left
  · simp only [Act.put, List.setIfInBounds_toArray, List.set_cons_zero, List.set_cons_succ, i64_w, i32_w]
    rfl
  refine pure_ (i := 2) (N := some 7) (v := ?_) (a' := ?_) (fl 18 7) rfl rfl (any_of HT_.out (by kernel_rfl)) (fun _ _ _ h => h) (Or.inl ⟨by rfl, ?_⟩) ?_ ?_
  rotate_left
  · intro w'
    go_simp
    with_reducible rfl
  rotate_left
  · simp only [Act.put, List.setIfInBounds_toArray, List.set_cons_zero, List.set_cons_succ, i64_w, i32_w]
    rfl
  refine pure_ (i := 4) (N := some 9) (v := ?_) (a' := ?_) (fl 18 23) rfl rfl (any_of HT_.out (by kernel_rfl)) (fun _ _ _ h => h) (Or.inl ⟨by rfl, ?_⟩) ?_ ?_
  rotate_left
  · intro w'
    go_simp
    with_reducible rfl
  rotate_left
  · simp only [Act.put, List.setIfInBounds_toArray, List.set_cons_zero, List.set_cons_succ, i64_w, i32_w]
    rfl
  refine pure_ (i := 5) (N := some 10) (v := ?_) (a' := ?_) (fl 18 55) rfl rfl (any_of HT_.out (by kernel_rfl)) (fun _ _ _ h => h) (Or.inl ⟨by rfl, ?_⟩) ?_ ?_
  rotate_left
  · intro w'
    go_simp
    with_reducible rfl
  rotate_left
  · simp only [Act.put, List.setIfInBounds_toArray, List.set_cons_zero, List.set_cons_succ, i64_w, i32_w]
    rfl
  refine pure_ (i := 6) (N := some 11) (v := ?_) (a' := ?_) (fl 18 119) rfl rfl (any_of HT_.out (by kernel_rfl)) (fun _ _ _ h => h) (Or.inl ⟨by rfl, ?_⟩) ?_ ?_
  rotate_left
  · intro w'
    go_simp
    with_reducible rfl
  rotate_left
  · simp only [Act.put, List.setIfInBounds_toArray, List.set_cons_zero, List.set_cons_succ, i64_w, i32_w]
    rfl
  refine pure_ (i := 11) (N := some 16) (v := ?_) (a' := ?_) (fl 18 2167) rfl rfl (any_of HT_.out (by kernel_rfl)) (fun _ _ _ h => h) (Or.inl ⟨by rfl, ?_⟩) ?_ ?_
  rotate_left
  · intro w'
    go_simp
    with_reducible rfl
  rotate_left
  · simp only [Act.put, List.setIfInBounds_toArray, List.set_cons_zero, List.set_cons_succ, i64_w, i32_w]
    rfl
  refine pure_ (i := 12) (N := some 17) (v := ?_) (a' := ?_) (fl 18 6263) rfl rfl (any_of HT_.out (by kernel_rfl)) (fun _ _ _ h => h) (Or.inl ⟨by rfl, ?_⟩) ?_ ?_
  rotate_left
  · intro w'
    go_simp
    with_reducible rfl
  rotate_left
  · simp only [Act.put, List.setIfInBounds_toArray, List.set_cons_zero, List.set_cons_succ, i64_w, i32_w]
    rfl
  refine pure_ (i := 13) (N := some 18) (v := ?_) (a' := ?_) (fl 18 14455) rfl rfl (any_of HT_.out (by kernel_rfl)) (fun _ _ _ h => h) (Or.inl ⟨by rfl, ?_⟩) ?_ ?_
  rotate_left
  · intro w'
    go_simp
    with_reducible rfl
  rotate_left
  · simp only [Act.put, List.setIfInBounds_toArray, List.set_cons_zero, List.set_cons_succ, i64_w, i32_w]
    rfl
  refine take_ (i := 3) (N := some 8) (v := ?_) (a' := ?_) (fl 18 14463) rfl rfl (take_ofW HT_.out HW_.out (by kernel_rfl)) (fun _ _ _ h => h) (Or.inl ⟨by rfl, ?_⟩) HH.out ?_ ?_
  rotate_left
  · intro w' hS'
    have hc : w'.cell? ⟨g, 0, none⟩ = some (.int .i64 most) := by rw [Lib.cell_of_heap hS'.1]; rfl
    go_simp
    with_reducible rfl
  rotate_left
  · simp only [Act.put, List.setIfInBounds_toArray, List.set_cons_zero, List.set_cons_succ, i64_w, i32_w]
    rfl
  refine take_ (i := 7) (N := some 12) (v := ?_) (a' := ?_) (fl 18 14591) rfl rfl (take_ofW HT_.out HW_.out (by kernel_rfl)) (fun _ _ _ h => h) (Or.inl ⟨by rfl, ?_⟩) HH.out ?_ ?_
  rotate_left
  · intro w' hS'
    have hc : w'.cell? ⟨g, 2, none⟩ = some (.slice A n c) := by rw [Lib.cell_of_heap hS'.1]; rfl
    go_simp
    with_reducible rfl
  rotate_left
  · simp only [Act.put, List.setIfInBounds_toArray, List.set_cons_zero, List.set_cons_succ, i64_w, i32_w]
    rfl
  refine pure_ (i := 8) (N := some 13) (v := ?_) (a' := ?_) (fl 18 14847) rfl rfl (any_of HT_.out (by kernel_rfl)) (fun _ _ _ h => h) (Or.inl ⟨by rfl, ?_⟩) ?_ ?_
  rotate_left
  · intro w'
    go_simp
    with_reducible rfl
  rotate_left
  · simp only [Act.put, List.setIfInBounds_toArray, List.set_cons_zero, List.set_cons_succ, i64_w, i32_w]
    rfl
  refine take_ (i := 14) (N := some 19) (v := ?_) (a' := ?_) (fl 18 31231) rfl rfl (take_ofW HT_.out HW_.out (by kernel_rfl)) (fun _ _ _ h => h) (Or.inl ⟨by rfl, ?_⟩) HH.out ?_ ?_
  rotate_left
  · intro w' hS'
    have hc : w'.cell? ⟨g, 1, none⟩ = some (.int .i64 b) := by rw [Lib.cell_of_heap hS'.1]; rfl
    go_simp
    with_reducible rfl
  rotate_left
  · simp only [Act.put, List.setIfInBounds_toArray, List.set_cons_zero, List.set_cons_succ, i64_w, i32_w]
    rfl
  refine one_ (i := 9) (N := some 14) (fl 18 31743) rfl rfl (one_of HT_.out (by kernel_rfl)) (by decide) (fun K hK => ?_)
  refine goes_ Tryz.func53 (by kernel_rfl) rfl #[.int .i64 n] (by rfl) rfl rfl (by simp only [List.map_toArray, List.map_cons, List.map_nil]; rfl) ?_
  refine (HF.out _ (HE.out.below HH.out.2)).mono ?_
  rintro e w' ⟨rfl, hb⟩
  refine ⟨_, rfl, hK.out _ _ ⟨HH.out.1.below hb, below_step HH.out.2 hb⟩ (fun hHeld => ?_)⟩
  have HH2 := Aside0.mk hHeld
  clear hHeld HH
  have HH := HH2
  clear HH2
  try clear hb
  try clear hK K
  refine norm_ (a' := ?_) ?_ ?_
  rotate_left
  · show Act.put _ (some 14) _ = _
    simp only [Act.put, List.setIfInBounds_toArray, List.set_cons_zero, List.set_cons_succ, i64_w, i32_w]
    rfl
  refine pure_ (i := 10) (N := some 15) (v := ?_) (a' := ?_) (fl 18 32767) rfl rfl (any_of HT_.out (by kernel_rfl)) (fun _ _ _ h => h) (Or.inl ⟨by rfl, ?_⟩) ?_ ?_
  rotate_left
  · intro w'
    go_simp
    with_reducible rfl
  rotate_left
  · simp only [Act.put, List.setIfInBounds_toArray, List.set_cons_zero, List.set_cons_succ, i64_w, i32_w]
    rfl
  refine pure_ (i := 15) (N := some 20) (v := ?_) (a' := ?_) (fl 18 65535) rfl rfl (any_of HT_.out (by kernel_rfl)) (fun _ _ _ h => h) (Or.inl ⟨by rfl, ?_⟩) ?_ ?_
  rotate_left
  · intro w'
    go_simp
    with_reducible rfl
  rotate_left
  · simp only [Act.put, List.setIfInBounds_toArray, List.set_cons_zero, List.set_cons_succ, i64_w, i32_w]
    rfl
  refine pure_ (i := 16) (N := some 21) (v := ?_) (a' := ?_) (fl 18 131071) rfl rfl (any_of HT_.out (by kernel_rfl)) (fun _ _ _ h => h) (Or.inl ⟨by rfl, ?_⟩) ?_ ?_
  rotate_left
  · intro w'
    go_simp
    with_reducible rfl
  rotate_left
  · simp only [Act.put, List.setIfInBounds_toArray, List.set_cons_zero, List.set_cons_succ, i64_w, i32_w]
    rfl
  refine pure_ (i := 17) (N := some 2) (v := ?_) (a' := ?_) (fl 18 262143) rfl rfl (any_of HT_.out (by kernel_rfl)) (fun _ _ _ h => h) (Or.inl ⟨by rfl, ?_⟩) ?_ ?_
  rotate_left
  · intro w'
    go_simp
    with_reducible rfl
  rotate_left
  · simp only [Act.put, List.setIfInBounds_toArray, List.set_cons_zero, List.set_cons_succ, i64_w, i32_w]
    rfl
  refine done_ (done_of HT_.out (by kernel_rfl)) ?_
  have HW := Aside0.mk (room_wrap most f b hm1 hm2 hfl hs)
  rw [HW.out]
  obtain ⟨r, hr⟩ : ∃ r, (if 0 < most - (f : Int) - (b : Int) then most - (f : Int) - (b : Int) else 0) = r := ⟨_, rfl⟩
  rw [hr]
  have HR := Aside0.mk (show r = (if 0 ≤ most - (f : Int) - (b : Int) then most - (f : Int) - (b : Int) else 0) by rw [← hr]; split <;> split <;> omega)
  clear hr
  go_wp2_with fail
  go_ret
  exact ⟨ret_int (by rw [HRF.out]; exact HR.out), HH.out.2⟩

end Go.Proofs.YtceopllngemnnaaGreatDoor

