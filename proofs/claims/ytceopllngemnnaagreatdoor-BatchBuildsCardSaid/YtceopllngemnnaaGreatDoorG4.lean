/-
  Add of a builder, an item that doesn't fit into an empty batch: what it returns.
-/
import Derived.Test.YtceopllngemnnaaGreatDoorG3
set_option linter.unusedVariables false
set_option linter.unusedSimpArgs false
namespace Go.Proofs.YtceopllngemnnaaGreatDoor
open Go.RowKit Go.Proofs.YtceopllngemnnaaGreatDoorW.PrintWords Go.Proofs.YtceopllngemnnaaGreatDoorW.PrintLast Go.Proofs.YtceopllngemnnaaGreatDoorW.PrintMore Go.Proofs.YtceopllngemnnaaGreatDoor.PRef
attribute [local go_sem] max2_int min2_int max_two min_two

/-! Region tables, printed by rg2.py. -/
def r29_3.T : Bool × List (List Nat × List Nat) := (true, [([], []), ([], []), ([1], [1]), ([2], [2]), ([3], [3]), ([0, 4], [0, 4]), ([5, 5, 0, 1, 2, 3, 4, 5], [5])])
def r29_3.B : List Nat := [0, 0, 2, 6, 14, 31, 63]
theorem r29_3.tab : rtab .any (opsOf Tryz.f29 3) = r29_3.T := by kernel_rfl
theorem r29_3.bits : waitsOk r29_3.T.2 r29_3.B = true := by kernel_rfl

set_option maxHeartbeats 8000000 in
set_option maxRecDepth 100000 in
theorem add_long (x : It) (g base : Nat) (most : Int) (l : List It) (W : World) (he : Env W) (h : Bld W g base most l) (hx : okId x.1) (hl : x.2.size ≤ 9223372036854775807) (hf : ¬ fits x most) :
    Calls Tryz.prog 29 #[.pointer (some ⟨g, 0, none⟩), .agg (itV x)] W fun e w' => e = .returned (.int .i64 5) ∧ Below W.heap.size W w' := by
  obtain ⟨A, c, hb, _⟩ := h
  have HS := Aside0.mk (fun w he => single_any x most w he hx hl)
  rw [if_neg hf] at HS
  have HE := Aside0.mk he
  have HX := Aside0.mk hx
  have HB := Aside0.mk hb
  have hvs : Aside0 ((itV x).size = 33) := ⟨itV_size hx⟩
  have hv1 : Aside0 ((itV x).all (·.oneCell') = true) := ⟨itV_one x⟩
  clear hx he hb hf
  go_enter Tryz.func29, Tryz.ntmps29
  go_upto_region 3 with (first
    | ((with_reducible refine gate_dst (N := 3) rfl ?_); refine box_blk rfl rfl rfl rfl (by rw [hvs.out]; exact size39) hv1.out ?_; intro gx w1 hg hz hb'; have Z1 := Aside0.mk hz; have B1 := Aside0.mk hb'; have D1 := Aside0.mk (HB.out.below hb'); clear hg hz hb'))
  refine start_ (n := 7) (S := fun w' => Blk w' gx (itV x) 39 ∧ Blk w' g #[.int .i64 most, .int .i64 (sumN l), .slice A l.length c] 97 ∧ Below W.heap.size W w') (ds := []) (fl 7 0) (by kernel_rfl) rfl rfl ⟨Z1.out, D1.out, below_drew B1.out⟩ (fun hHeld => ?_)
  refine with_tabW r29_3.tab r29_3.bits (fun HT_ HW_ => ?_)
  generalize w1.drew = wd at hHeld ⊢
  have HH := Aside0.mk hHeld
  clear hHeld
  refine pure_ (i := 1) (N := some 10) (v := ?_) (a' := ?_) (fl 7 2) rfl rfl (any_of HT_.out (by kernel_rfl)) (fun _ _ _ h => h) (Or.inl ⟨by rfl, ?_⟩) ?_ ?_
  rotate_left
  · intro w'
    go_simp
    with_reducible rfl
  rotate_left
  · simp only [Act.put, List.setIfInBounds_toArray, List.set_cons_zero, List.set_cons_succ, i64_w, i32_w]
    rfl
  refine pure_ (i := 2) (N := some 11) (v := ?_) (a' := ?_) (fl 7 6) rfl rfl (any_of HT_.out (by kernel_rfl)) (fun _ _ _ h => h) (Or.inl ⟨by rfl, ?_⟩) ?_ ?_
  rotate_left
  · intro w'
    go_simp
    with_reducible rfl
  rotate_left
  · simp only [Act.put, List.setIfInBounds_toArray, List.set_cons_zero, List.set_cons_succ, i64_w, i32_w]
    rfl
  refine pure_ (i := 3) (N := some 12) (v := ?_) (a' := ?_) (fl 7 14) rfl rfl (any_of HT_.out (by kernel_rfl)) (fun _ _ _ h => h) (Or.inl ⟨by rfl, ?_⟩) ?_ ?_
  rotate_left
  · intro w'
    go_simp
    with_reducible rfl
  rotate_left
  · simp only [Act.put, List.setIfInBounds_toArray, List.set_cons_zero, List.set_cons_succ, i64_w, i32_w]
    rfl
  refine take_ (i := 0) (N := some 9) (v := .agg (itV x)) (a' := ?_) (fl 7 15) rfl rfl (take_ofW HT_.out HW_.out (by kernel_rfl)) (fun _ _ _ h => h) ?_ HH.out ?_ ?_
  · exact yields_blk (by rfl) rfl rfl (fun w h => h.1) Tryz.underlying39 rfl (by rw [itV_size HX.out]; exact size39)
  rotate_left
  · simp only [Act.put, List.setIfInBounds_toArray, List.set_cons_zero, List.set_cons_succ, i64_w, i32_w]
    rfl
  refine take_ (i := 4) (N := some 13) (v := ?_) (a' := ?_) (fl 7 31) rfl rfl (take_ofW HT_.out HW_.out (by kernel_rfl)) (fun _ _ _ h => h) (Or.inl ⟨by rfl, ?_⟩) HH.out ?_ ?_
  rotate_left
  · intro w' hS'
    have hc : w'.cell? ⟨g, 0, none⟩ = some (.int .i64 most) := by rw [Lib.cell_of_heap hS'.2.1]; rfl
    go_simp
    with_reducible rfl
  rotate_left
  · simp only [Act.put, List.setIfInBounds_toArray, List.set_cons_zero, List.set_cons_succ, i64_w, i32_w]
    rfl
  refine one_ (i := 5) (N := some 14) (fl 7 63) rfl rfl (one_of HT_.out (by kernel_rfl)) (by decide) (fun K hK => ?_)
  refine goes_ Tryz.func52 (by kernel_rfl) rfl #[.agg (itV x), .int .i64 most] (by rfl) rfl rfl (by simp only [List.map_toArray, List.map_cons, List.map_nil]; rfl) ?_
  refine (HS.out _ (HE.out.below HH.out.2.2)).mono ?_
  rintro e w' ⟨rfl, hb⟩
  refine ⟨_, rfl, hK.out _ _ ⟨HH.out.1.below hb, HH.out.2.1.below hb, below_step HH.out.2.2 hb⟩ (fun hHeld => ?_)⟩
  have HH2 := Aside0.mk hHeld
  clear hHeld HH
  have HH := HH2
  clear HH2
  try clear hb
  try clear hK K
  refine norm_ (a' := ?_) ?_ ?_
  rotate_left
  · show Act.put _ (some 14) _ = _
    simp only [Act.put, List.setIfInBounds_toArray, List.set_cons_zero, List.set_cons_succ, i64_w, i32_w]
    rfl
  refine pure_ (i := 6) (N := some 5) (v := ?_) (a' := ?_) (fl 7 127) rfl rfl (any_of HT_.out (by kernel_rfl)) (fun _ _ _ h => h) (Or.inl ⟨by rfl, ?_⟩) ?_ ?_
  rotate_left
  · intro w'
    go_simp
    with_reducible rfl
  rotate_left
  · simp only [Act.put, List.setIfInBounds_toArray, List.set_cons_zero, List.set_cons_succ, i64_w, i32_w]
    rfl
  refine done_ (done_of HT_.out (by kernel_rfl)) ?_
  go_wp2_with fail
  go_ret
  exact ⟨rfl, HH.out.2.2⟩

end Go.Proofs.YtceopllngemnnaaGreatDoor

