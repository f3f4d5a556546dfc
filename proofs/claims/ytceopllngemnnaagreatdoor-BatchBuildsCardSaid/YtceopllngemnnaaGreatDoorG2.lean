/-
  Whether an item fits into an empty batch: what single returns. For texts of up to 100,000,000 bytes.
-/
import Derived.Test.YtceopllngemnnaaGreatDoorG1
set_option linter.unusedVariables false
set_option linter.unusedSimpArgs false
namespace Go.Proofs.YtceopllngemnnaaGreatDoor
open Go.RowKit Go.Proofs.YtceopllngemnnaaGreatDoorW.PrintWords Go.Proofs.YtceopllngemnnaaGreatDoorW.PrintLast Go.Proofs.YtceopllngemnnaaGreatDoorW.PrintMore Go.Proofs.YtceopllngemnnaaGreatDoor.PRef
attribute [local go_sem] max2_int min2_int max_two min_two

/-! Region tables, printed by rg2.py. -/
def r52_1.T : Bool × List (List Nat × List Nat) := (true, [([], []), ([0], [0]), ([1], [1]), ([2], [2]), ([3], [3]), ([4, 4], [4]), ([4], [4]), ([6, 5, 4], [4, 6]), ([5, 7, 4], [4, 5, 7]), ([4], [4]), ([8, 9, 4], [4, 8, 9]), ([4, 10], [4, 10])])
def r52_1.B : List Nat := [0, 1, 3, 7, 15, 31, 31, 127, 255, 31, 1023, 2047]
theorem r52_1.tab : rtab .any (opsOf Tryz.f52 1) = r52_1.T := by kernel_rfl
theorem r52_1.bits : waitsOk r52_1.T.2 r52_1.B = true := by kernel_rfl

def fits (x : It) (n : Int) : Prop := x.2.size ≤ 65536 ∧ ((frameN 1 + sizeN x : Nat) : Int) ≤ n
instance (x : It) (n : Int) : Decidable (fits x n) := inferInstanceAs (Decidable (_ ∧ _))
theorem add_wrap (f s : Nat) (h1 : f ≤ 200000) (h2 : s ≤ 80000) : IntKind.i64.wrap ((f : Int) + (s : Int)) = (f : Int) + (s : Int) := by
  rw [i64_w]; unfold wrap64; omega
set_option maxHeartbeats 8000000 in
set_option maxRecDepth 100000 in
theorem single_any (x : It) (n : Int) (W : World) (he : Env W) (hx : okId x.1) (hl : x.2.size ≤ 9223372036854775807) :
    Calls Tryz.prog 52 #[.agg (itV x), .int .i64 n] W fun e w' => e = .returned (.int .i64 (if fits x n then 0 else 5)) ∧ Below W.heap.size W w' := by
  obtain ⟨r, hr⟩ : ∃ r : Int, (if fits x n then 0 else 5) = r := ⟨_, rfl⟩
  rw [hr]
  have HR := Aside0.mk hr
  have HE := Aside0.mk he
  have HX := Aside0.mk hx
  have hvs : Aside0 ((itV x).size = 33) := ⟨itV_size hx⟩
  have hv1 : Aside0 ((itV x).all (·.oneCell') = true) := ⟨itV_one x⟩
  by_cases hlong : x.2.size ≤ 65536
  · obtain ⟨f1, hf1⟩ : ∃ f1, frameN 1 = f1 := ⟨_, rfl⟩
    obtain ⟨sz, hsz⟩ : ∃ sz, sizeN x = sz := ⟨_, rfl⟩
    have hfl := frameN_le 1 (by omega)
    have hsl := sizeN_le x hlong
    rw [hf1] at hfl
    rw [hsz] at hsl
    have HF := Aside0.mk (fun w he => hf1 ▸ frame_any 1 w he (by omega))
    have HS := Aside0.mk (fun w he => hsz ▸ size_any x w he hx (by omega))
    have q1 : ¬ (65536 < (x.2.size : Int)) := by omega
    by_cases hfit : (f1 : Int) + (sz : Int) ≤ n
    · have HRR : Aside0 (r = 0) := ⟨by rw [← hr, if_pos ⟨hlong, by rw [hf1, hsz]; omega⟩]⟩
      have q2 : ¬ (n < (f1 : Int) + (sz : Int)) := by omega
      clear hx he hr hf1 hsz hfit hlong
      go_enter Tryz.func52, Tryz.ntmps52
      go_upto_region 1 with (first
        | ((with_reducible refine gate_dst (N := 2) rfl ?_); refine box_blk rfl rfl rfl rfl (by rw [hvs.out]; exact size39) hv1.out ?_; intro g w1 hg hz hb'; have Z1 := Aside0.mk hz; have B1 := Aside0.mk hb'; clear hg hz hb'))
      refine start_ (n := 12) (S := fun w' => Blk w' g (itV x) 39 ∧ Below W.heap.size W w') (ds := []) (fl 12 0) (by kernel_rfl) rfl rfl ⟨Z1.out, below_drew B1.out⟩ (fun hHeld => ?_)
      refine with_tabW r52_1.tab r52_1.bits (fun HT_ HW_ => ?_)
      generalize w1.drew = wd at hHeld ⊢
      have HH := Aside0.mk hHeld
      clear hHeld
      refine pure_ (i := 0) (N := some 5) (v := ?_) (a' := ?_) (fl 12 1) rfl rfl (any_of HT_.out (by kernel_rfl)) (fun _ _ _ h => h) (Or.inl ⟨by rfl, ?_⟩) ?_ ?_
      rotate_left
      · intro w'
        go_simp
        with_reducible rfl
      rotate_left
      · simp only [Act.put, List.setIfInBounds_toArray, List.set_cons_zero, List.set_cons_succ, i64_w, i32_w]
        rfl
      refine take_ (i := 1) (N := some 6) (v := ?_) (a' := ?_) (fl 12 3) rfl rfl (take_ofW HT_.out HW_.out (by kernel_rfl)) (fun _ _ _ h => h) (Or.inl ⟨by rfl, ?_⟩) HH.out ?_ ?_
      rotate_left
      · intro w' hS'
        have hc32 := it_str_cell hS'.1 HX.out
        go_simp
        with_reducible rfl
      rotate_left
      · simp only [Act.put, List.setIfInBounds_toArray, List.set_cons_zero, List.set_cons_succ, i64_w, i32_w]
        rfl
      refine pure_ (i := 2) (N := some 7) (v := ?_) (a' := ?_) (fl 12 7) rfl rfl (any_of HT_.out (by kernel_rfl)) (fun _ _ _ h => h) (Or.inl ⟨by rfl, ?_⟩) ?_ ?_
      rotate_left
      · intro w'
        go_simp
        with_reducible rfl
      rotate_left
      · simp only [Act.put, List.setIfInBounds_toArray, List.set_cons_zero, List.set_cons_succ, i64_w, i32_w]
        rfl
      refine pure_ (i := 3) (N := some 8) (v := ?_) (a' := ?_) (fl 12 15) rfl rfl (any_of HT_.out (by kernel_rfl)) (fun _ _ _ h => h) (Or.inl ⟨by rfl, ?_⟩) ?_ ?_
      rotate_left
      · intro w'
        go_simp
        with_reducible rfl
      rotate_left
      · simp only [Act.put, List.setIfInBounds_toArray, List.set_cons_zero, List.set_cons_succ, i64_w, i32_w]
        rfl
      refine pure_ (i := 4) (N := some 9) (v := ?_) (a' := ?_) (fl 12 31) rfl rfl (any_of HT_.out (by kernel_rfl)) (fun _ _ _ h => h) (Or.inl ⟨by rfl, ?_⟩) ?_ ?_
      rotate_left
      · intro w'
        go_simp
        with_reducible rfl
      rotate_left
      · simp only [Act.put, List.setIfInBounds_toArray, List.set_cons_zero, List.set_cons_succ, i64_w, i32_w]
        rfl
      refine pure_ (i := 9) (N := some 14) (v := ?_) (a' := ?_) (fl 12 543) rfl rfl (any_of HT_.out (by kernel_rfl)) (fun _ _ _ h => h) (Or.inl ⟨by rfl, ?_⟩) ?_ ?_
      rotate_left
      · intro w'
        go_simp
        with_reducible rfl
      rotate_left
      · simp only [Act.put, List.setIfInBounds_toArray, List.set_cons_zero, List.set_cons_succ, i64_w, i32_w]
        rfl
      refine take_ (i := 6) (N := some 11) (v := .agg (itV x)) (a' := ?_) (fl 12 607) rfl rfl (take_ofW HT_.out HW_.out (by kernel_rfl)) (fun _ _ _ h => h) ?_ HH.out ?_ ?_
      · exact yields_blk (by rfl) rfl rfl (fun w h => h.1) Tryz.underlying39 rfl (by rw [itV_size HX.out]; exact size39)
      rotate_left
      · simp only [Act.put, List.setIfInBounds_toArray, List.set_cons_zero, List.set_cons_succ, i64_w, i32_w]
        rfl
      refine one_ (i := 5) (N := some 10) (fl 12 639) rfl rfl (one_of HT_.out (by kernel_rfl)) (by decide) (fun K hK => ?_)
      refine goes_ Tryz.func53 (by kernel_rfl) rfl #[.int .i64 1] (by rfl) rfl rfl (by simp only [List.map_toArray, List.map_cons, List.map_nil]; rfl) ?_
      refine (HF.out _ (HE.out.below HH.out.2)).mono ?_
      rintro e w' ⟨rfl, hb⟩
      refine ⟨_, rfl, hK.out _ _ ⟨HH.out.1.below hb, below_step HH.out.2 hb⟩ (fun hHeld => ?_)⟩
      have HH2 := Aside0.mk hHeld
      clear hHeld HH
      have HH := HH2
      clear HH2
      try clear hb
      try clear hK K
      refine norm_ (a' := ?_) ?_ ?_
      rotate_left
      · show Act.put _ (some 10) _ = _
        simp only [Act.put, List.setIfInBounds_toArray, List.set_cons_zero, List.set_cons_succ, i64_w, i32_w]
        rfl
      refine one_ (i := 7) (N := some 12) (fl 12 767) rfl rfl (one_of HT_.out (by kernel_rfl)) (by decide) (fun K hK => ?_)
      refine goes_ Tryz.func54 (by kernel_rfl) rfl #[.agg (itV x)] (by rfl) rfl rfl (by simp only [List.map_toArray, List.map_cons, List.map_nil]; rfl) ?_
      refine (HS.out _ (HE.out.below HH.out.2)).mono ?_
      rintro e w' ⟨rfl, hb⟩
      refine ⟨_, rfl, hK.out _ _ ⟨HH.out.1.below hb, below_step HH.out.2 hb⟩ (fun hHeld => ?_)⟩
      have HH2 := Aside0.mk hHeld
      clear hHeld HH
      have HH := HH2
      clear HH2
      try clear hb
      try clear hK K
      refine norm_ (a' := ?_) ?_ ?_
      rotate_left
      · show Act.put _ (some 12) _ = _
        simp only [Act.put, List.setIfInBounds_toArray, List.set_cons_zero, List.set_cons_succ, i64_w, i32_w]
        rfl
      refine pure_ (i := 8) (N := some 13) (v := ?_) (a' := ?_) (fl 12 1023) rfl rfl (any_of HT_.out (by kernel_rfl)) (fun _ _ _ h => h) (Or.inl ⟨by rfl, ?_⟩) ?_ ?_
      rotate_left
      · intro w'
        go_simp
        exact congrArg (Value.int .i64) (add_wrap f1 sz hfl hsl)
      rotate_left
      · simp only [Act.put, List.setIfInBounds_toArray, List.set_cons_zero, List.set_cons_succ, i64_w, i32_w]
        rfl
      refine pure_ (i := 10) (N := some 15) (v := ?_) (a' := ?_) (fl 12 2047) rfl rfl (any_of HT_.out (by kernel_rfl)) (fun _ _ _ h => h) (Or.inl ⟨by rfl, ?_⟩) ?_ ?_
      rotate_left
      · intro w'
        go_simp
        with_reducible rfl
      rotate_left
      · simp only [Act.put, List.setIfInBounds_toArray, List.set_cons_zero, List.set_cons_succ, i64_w, i32_w]
        rfl
      refine pure_ (i := 11) (N := some 16) (v := ?_) (a' := ?_) (fl 12 4095) rfl rfl (any_of HT_.out (by kernel_rfl)) (fun _ _ _ h => h) (Or.inl ⟨by rfl, ?_⟩) ?_ ?_
      rotate_left
      · intro w'
        go_simp
        with_reducible rfl
      rotate_left
      · simp only [Act.put, List.setIfInBounds_toArray, List.set_cons_zero, List.set_cons_succ, i64_w, i32_w]
        rfl
      refine done_ (done_of HT_.out (by kernel_rfl)) ?_
      go_wp2_with fail
      go_ret
      exact ⟨ret_int HRR.out.symm, HH.out.2⟩
    · have HRR : Aside0 (r = 5) := ⟨by rw [← hr, if_neg (fun h => hfit (by have h2 := h.2; rw [hf1, hsz] at h2; omega))]⟩
      have q2 : (n < (f1 : Int) + (sz : Int)) := by omega
      clear hx he hr hf1 hsz hfit hlong
      go_enter Tryz.func52, Tryz.ntmps52
      go_upto_region 1 with (first
        | ((with_reducible refine gate_dst (N := 2) rfl ?_); refine box_blk rfl rfl rfl rfl (by rw [hvs.out]; exact size39) hv1.out ?_; intro g w1 hg hz hb'; have Z1 := Aside0.mk hz; have B1 := Aside0.mk hb'; clear hg hz hb'))
      refine start_ (n := 12) (S := fun w' => Blk w' g (itV x) 39 ∧ Below W.heap.size W w') (ds := []) (fl 12 0) (by kernel_rfl) rfl rfl ⟨Z1.out, below_drew B1.out⟩ (fun hHeld => ?_)
      refine with_tabW r52_1.tab r52_1.bits (fun HT_ HW_ => ?_)
      generalize w1.drew = wd at hHeld ⊢
      have HH := Aside0.mk hHeld
      clear hHeld
      refine pure_ (i := 0) (N := some 5) (v := ?_) (a' := ?_) (fl 12 1) rfl rfl (any_of HT_.out (by kernel_rfl)) (fun _ _ _ h => h) (Or.inl ⟨by rfl, ?_⟩) ?_ ?_
      rotate_left
      · intro w'
        go_simp
        with_reducible rfl
      rotate_left
      · simp only [Act.put, List.setIfInBounds_toArray, List.set_cons_zero, List.set_cons_succ, i64_w, i32_w]
        rfl
      refine take_ (i := 1) (N := some 6) (v := ?_) (a' := ?_) (fl 12 3) rfl rfl (take_ofW HT_.out HW_.out (by kernel_rfl)) (fun _ _ _ h => h) (Or.inl ⟨by rfl, ?_⟩) HH.out ?_ ?_
      rotate_left
      · intro w' hS'
        have hc32 := it_str_cell hS'.1 HX.out
        go_simp
        with_reducible rfl
      rotate_left
      · simp only [Act.put, List.setIfInBounds_toArray, List.set_cons_zero, List.set_cons_succ, i64_w, i32_w]
        rfl
      refine pure_ (i := 2) (N := some 7) (v := ?_) (a' := ?_) (fl 12 7) rfl rfl (any_of HT_.out (by kernel_rfl)) (fun _ _ _ h => h) (Or.inl ⟨by rfl, ?_⟩) ?_ ?_
      rotate_left
      · intro w'
        go_simp
        with_reducible rfl
      rotate_left
      · simp only [Act.put, List.setIfInBounds_toArray, List.set_cons_zero, List.set_cons_succ, i64_w, i32_w]
        rfl
      refine pure_ (i := 3) (N := some 8) (v := ?_) (a' := ?_) (fl 12 15) rfl rfl (any_of HT_.out (by kernel_rfl)) (fun _ _ _ h => h) (Or.inl ⟨by rfl, ?_⟩) ?_ ?_
      rotate_left
      · intro w'
        go_simp
        with_reducible rfl
      rotate_left
      · simp only [Act.put, List.setIfInBounds_toArray, List.set_cons_zero, List.set_cons_succ, i64_w, i32_w]
        rfl
      refine pure_ (i := 4) (N := some 9) (v := ?_) (a' := ?_) (fl 12 31) rfl rfl (any_of HT_.out (by kernel_rfl)) (fun _ _ _ h => h) (Or.inl ⟨by rfl, ?_⟩) ?_ ?_
      rotate_left
      · intro w'
        go_simp
        with_reducible rfl
      rotate_left
      · simp only [Act.put, List.setIfInBounds_toArray, List.set_cons_zero, List.set_cons_succ, i64_w, i32_w]
        rfl
      refine pure_ (i := 9) (N := some 14) (v := ?_) (a' := ?_) (fl 12 543) rfl rfl (any_of HT_.out (by kernel_rfl)) (fun _ _ _ h => h) (Or.inl ⟨by rfl, ?_⟩) ?_ ?_
      rotate_left
      · intro w'
        go_simp
        with_reducible rfl
      rotate_left
      · simp only [Act.put, List.setIfInBounds_toArray, List.set_cons_zero, List.set_cons_succ, i64_w, i32_w]
        rfl
      refine take_ (i := 6) (N := some 11) (v := .agg (itV x)) (a' := ?_) (fl 12 607) rfl rfl (take_ofW HT_.out HW_.out (by kernel_rfl)) (fun _ _ _ h => h) ?_ HH.out ?_ ?_
      · exact yields_blk (by rfl) rfl rfl (fun w h => h.1) Tryz.underlying39 rfl (by rw [itV_size HX.out]; exact size39)
      rotate_left
      · simp only [Act.put, List.setIfInBounds_toArray, List.set_cons_zero, List.set_cons_succ, i64_w, i32_w]
        rfl
      refine one_ (i := 5) (N := some 10) (fl 12 639) rfl rfl (one_of HT_.out (by kernel_rfl)) (by decide) (fun K hK => ?_)
      refine goes_ Tryz.func53 (by kernel_rfl) rfl #[.int .i64 1] (by rfl) rfl rfl (by simp only [List.map_toArray, List.map_cons, List.map_nil]; rfl) ?_
      refine (HF.out _ (HE.out.below HH.out.2)).mono ?_
      rintro e w' ⟨rfl, hb⟩
      refine ⟨_, rfl, hK.out _ _ ⟨HH.out.1.below hb, below_step HH.out.2 hb⟩ (fun hHeld => ?_)⟩
      have HH2 := Aside0.mk hHeld
      clear hHeld HH
      have HH := HH2
      clear HH2
      try clear hb
      try clear hK K
      refine norm_ (a' := ?_) ?_ ?_
      rotate_left
      · show Act.put _ (some 10) _ = _
        simp only [Act.put, List.setIfInBounds_toArray, List.set_cons_zero, List.set_cons_succ, i64_w, i32_w]
        rfl
      refine one_ (i := 7) (N := some 12) (fl 12 767) rfl rfl (one_of HT_.out (by kernel_rfl)) (by decide) (fun K hK => ?_)
      refine goes_ Tryz.func54 (by kernel_rfl) rfl #[.agg (itV x)] (by rfl) rfl rfl (by simp only [List.map_toArray, List.map_cons, List.map_nil]; rfl) ?_
      refine (HS.out _ (HE.out.below HH.out.2)).mono ?_
      rintro e w' ⟨rfl, hb⟩
      refine ⟨_, rfl, hK.out _ _ ⟨HH.out.1.below hb, below_step HH.out.2 hb⟩ (fun hHeld => ?_)⟩
      have HH2 := Aside0.mk hHeld
      clear hHeld HH
      have HH := HH2
      clear HH2
      try clear hb
      try clear hK K
      refine norm_ (a' := ?_) ?_ ?_
      rotate_left
      · show Act.put _ (some 12) _ = _
        simp only [Act.put, List.setIfInBounds_toArray, List.set_cons_zero, List.set_cons_succ, i64_w, i32_w]
        rfl
      refine pure_ (i := 8) (N := some 13) (v := ?_) (a' := ?_) (fl 12 1023) rfl rfl (any_of HT_.out (by kernel_rfl)) (fun _ _ _ h => h) (Or.inl ⟨by rfl, ?_⟩) ?_ ?_
      rotate_left
      · intro w'
        go_simp
        exact congrArg (Value.int .i64) (add_wrap f1 sz hfl hsl)
      rotate_left
      · simp only [Act.put, List.setIfInBounds_toArray, List.set_cons_zero, List.set_cons_succ, i64_w, i32_w]
        rfl
      refine pure_ (i := 10) (N := some 15) (v := ?_) (a' := ?_) (fl 12 2047) rfl rfl (any_of HT_.out (by kernel_rfl)) (fun _ _ _ h => h) (Or.inl ⟨by rfl, ?_⟩) ?_ ?_
      rotate_left
      · intro w'
        go_simp
        with_reducible rfl
      rotate_left
      · simp only [Act.put, List.setIfInBounds_toArray, List.set_cons_zero, List.set_cons_succ, i64_w, i32_w]
        rfl
      refine pure_ (i := 11) (N := some 16) (v := ?_) (a' := ?_) (fl 12 4095) rfl rfl (any_of HT_.out (by kernel_rfl)) (fun _ _ _ h => h) (Or.inl ⟨by rfl, ?_⟩) ?_ ?_
      rotate_left
      · intro w'
        go_simp
        with_reducible rfl
      rotate_left
      · simp only [Act.put, List.setIfInBounds_toArray, List.set_cons_zero, List.set_cons_succ, i64_w, i32_w]
        rfl
      refine done_ (done_of HT_.out (by kernel_rfl)) ?_
      go_wp2_with fail
      go_ret
      exact ⟨ret_int HRR.out.symm, HH.out.2⟩
  · have HRR : Aside0 (r = 5) := ⟨by rw [← hr, if_neg (fun h => hlong h.1)]⟩
    have q1 : (65536 < (x.2.size : Int)) := by omega
    clear hx he hr hlong
    go_enter Tryz.func52, Tryz.ntmps52
    go_upto_region 1 with (first
      | ((with_reducible refine gate_dst (N := 2) rfl ?_); refine box_blk rfl rfl rfl rfl (by rw [hvs.out]; exact size39) hv1.out ?_; intro g w1 hg hz hb'; have Z1 := Aside0.mk hz; have B1 := Aside0.mk hb'; clear hg hz hb'))
    refine start_ (n := 12) (S := fun w' => Blk w' g (itV x) 39 ∧ Below W.heap.size W w') (ds := []) (fl 12 0) (by kernel_rfl) rfl rfl ⟨Z1.out, below_drew B1.out⟩ (fun hHeld => ?_)
    refine with_tabW r52_1.tab r52_1.bits (fun HT_ HW_ => ?_)
    generalize w1.drew = wd at hHeld ⊢
    have HH := Aside0.mk hHeld
    clear hHeld
    refine pure_ (i := 0) (N := some 5) (v := ?_) (a' := ?_) (fl 12 1) rfl rfl (any_of HT_.out (by kernel_rfl)) (fun _ _ _ h => h) (Or.inl ⟨by rfl, ?_⟩) ?_ ?_
    rotate_left
    · intro w'
      go_simp
      with_reducible rfl
    rotate_left
    · simp only [Act.put, List.setIfInBounds_toArray, List.set_cons_zero, List.set_cons_succ, i64_w, i32_w]
      rfl
    refine take_ (i := 1) (N := some 6) (v := ?_) (a' := ?_) (fl 12 3) rfl rfl (take_ofW HT_.out HW_.out (by kernel_rfl)) (fun _ _ _ h => h) (Or.inl ⟨by rfl, ?_⟩) HH.out ?_ ?_
    rotate_left
    · intro w' hS'
      have hc32 := it_str_cell hS'.1 HX.out
      go_simp
      with_reducible rfl
    rotate_left
    · simp only [Act.put, List.setIfInBounds_toArray, List.set_cons_zero, List.set_cons_succ, i64_w, i32_w]
      rfl
    refine pure_ (i := 2) (N := some 7) (v := ?_) (a' := ?_) (fl 12 7) rfl rfl (any_of HT_.out (by kernel_rfl)) (fun _ _ _ h => h) (Or.inl ⟨by rfl, ?_⟩) ?_ ?_
    rotate_left
    · intro w'
      go_simp
      with_reducible rfl
    rotate_left
    · simp only [Act.put, List.setIfInBounds_toArray, List.set_cons_zero, List.set_cons_succ, i64_w, i32_w]
      rfl
    refine pure_ (i := 3) (N := some 8) (v := ?_) (a' := ?_) (fl 12 15) rfl rfl (any_of HT_.out (by kernel_rfl)) (fun _ _ _ h => h) (Or.inl ⟨by rfl, ?_⟩) ?_ ?_
    rotate_left
    · intro w'
      go_simp
      with_reducible rfl
    rotate_left
    · simp only [Act.put, List.setIfInBounds_toArray, List.set_cons_zero, List.set_cons_succ, i64_w, i32_w]
      rfl
    refine pure_ (i := 4) (N := some 9) (v := ?_) (a' := ?_) (fl 12 31) rfl rfl (any_of HT_.out (by kernel_rfl)) (fun _ _ _ h => h) (Or.inl ⟨by rfl, ?_⟩) ?_ ?_
    rotate_left
    · intro w'
      go_simp
      with_reducible rfl
    rotate_left
    · simp only [Act.put, List.setIfInBounds_toArray, List.set_cons_zero, List.set_cons_succ, i64_w, i32_w]
      rfl
    refine pure_ (i := 5) (N := some 10) (v := undef) (a' := ?_) (fl 12 63) rfl rfl (any_of HT_.out (by kernel_rfl)) (fun _ _ _ h => h) (Or.inr ⟨by rfl, rfl⟩) ?_ ?_
    rotate_left
    · simp only [Act.put, List.setIfInBounds_toArray, List.set_cons_zero, List.set_cons_succ, i64_w, i32_w]
      rfl
    refine pure_ (i := 9) (N := some 14) (v := undef) (a' := ?_) (fl 12 575) rfl rfl (any_of HT_.out (by kernel_rfl)) (fun _ _ _ h => h) (Or.inr ⟨by rfl, rfl⟩) ?_ ?_
    rotate_left
    · simp only [Act.put, List.setIfInBounds_toArray, List.set_cons_zero, List.set_cons_succ, i64_w, i32_w]
      rfl
    refine take_ (i := 6) (N := some 11) (v := undef) (a' := ?_) (fl 12 639) rfl rfl (take_ofW HT_.out HW_.out (by kernel_rfl)) (fun _ _ _ h => h) ?_ HH.out ?_ ?_
    · exact Or.inr ⟨by rfl, rfl⟩
    rotate_left
    · simp only [Act.put, List.setIfInBounds_toArray, List.set_cons_zero, List.set_cons_succ, i64_w, i32_w]
      rfl
    refine pure_ (i := 7) (N := some 12) (v := undef) (a' := ?_) (fl 12 767) rfl rfl (any_of HT_.out (by kernel_rfl)) (fun _ _ _ h => h) (Or.inr ⟨by rfl, rfl⟩) ?_ ?_
    rotate_left
    · simp only [Act.put, List.setIfInBounds_toArray, List.set_cons_zero, List.set_cons_succ, i64_w, i32_w]
      rfl
    refine pure_ (i := 8) (N := some 13) (v := undef) (a' := ?_) (fl 12 1023) rfl rfl (any_of HT_.out (by kernel_rfl)) (fun _ _ _ h => h) (Or.inr ⟨by rfl, rfl⟩) ?_ ?_
    rotate_left
    · simp only [Act.put, List.setIfInBounds_toArray, List.set_cons_zero, List.set_cons_succ, i64_w, i32_w]
      rfl
    refine pure_ (i := 10) (N := some 15) (v := undef) (a' := ?_) (fl 12 2047) rfl rfl (any_of HT_.out (by kernel_rfl)) (fun _ _ _ h => h) (Or.inr ⟨by rfl, rfl⟩) ?_ ?_
    rotate_left
    · simp only [Act.put, List.setIfInBounds_toArray, List.set_cons_zero, List.set_cons_succ, i64_w, i32_w]
      rfl
    refine pure_ (i := 11) (N := some 16) (v := ?_) (a' := ?_) (fl 12 4095) rfl rfl (any_of HT_.out (by kernel_rfl)) (fun _ _ _ h => h) (Or.inl ⟨by rfl, ?_⟩) ?_ ?_
    rotate_left
    · intro w'
      go_simp
      with_reducible rfl
    rotate_left
    · simp only [Act.put, List.setIfInBounds_toArray, List.set_cons_zero, List.set_cons_succ, i64_w, i32_w]
      rfl
    refine done_ (done_of HT_.out (by kernel_rfl)) ?_
    go_wp2_with fail
    go_ret
    exact ⟨ret_int HRR.out.symm, HH.out.2⟩

end Go.Proofs.YtceopllngemnnaaGreatDoor

