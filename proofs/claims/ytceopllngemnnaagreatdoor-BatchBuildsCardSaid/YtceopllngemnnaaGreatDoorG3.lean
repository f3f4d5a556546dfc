/-
  The Builder's methods on no builder, and Flush of an empty one: what they return.
-/
import Derived.Test.YtceopllngemnnaaGreatDoorG2
set_option linter.unusedVariables false
set_option linter.unusedSimpArgs false
namespace Go.Proofs.YtceopllngemnnaaGreatDoor
open Go.RowKit Go.Proofs.YtceopllngemnnaaGreatDoorW.PrintWords Go.Proofs.YtceopllngemnnaaGreatDoorW.PrintLast Go.Proofs.YtceopllngemnnaaGreatDoorW.PrintMore Go.Proofs.YtceopllngemnnaaGreatDoor.PRef
attribute [local go_sem] max2_int min2_int max_two min_two

theorem flush_nil (W : World) : Calls Tryz.prog 30 #[.pointer none] W fun e w' => e = .returned (.tuple #[.string ByteArray.empty, .int .i64 1]) ∧ Below W.heap.size W w' := by
  go_enter Tryz.func30, Tryz.ntmps30
  go_wp2_with fail
  go_ret2
  exact ⟨rfl, Below.refl _ _⟩
theorem flush_empty (g base : Nat) (most : Int) (W : World) (h : Bld W g base most []) : Calls Tryz.prog 30 #[.pointer (some ⟨g, 0, none⟩)] W fun e w' => e = .returned (.tuple #[.string ByteArray.empty, .int .i64 10]) ∧ Below W.heap.size W w' := by
  obtain ⟨A, c, hb, _⟩ := h
  have h2 : W.cell? ⟨g, 2, none⟩ = some (.slice A 0 c) := by rw [Lib.cell_of_heap hb]; rfl
  clear hb
  go_enter Tryz.func30, Tryz.ntmps30
  go_wp2_with fail
  go_ret2
  exact ⟨rfl, Below.refl _ _⟩
set_option maxHeartbeats 4000000 in
set_option maxRecDepth 100000 in
theorem add_nil (x : It) (W : World) (hx : okId x.1) : Calls Tryz.prog 29 #[.pointer none, .agg (itV x)] W fun e w' => e = .returned (.int .i64 1) ∧ Below W.heap.size W w' := by
  have hvs : Aside0 ((itV x).size = 33) := ⟨itV_size hx⟩
  have hv1 : Aside0 ((itV x).all (·.oneCell') = true) := ⟨itV_one x⟩
  clear hx
  go_enter Tryz.func29, Tryz.ntmps29
  go_wp2_with (first
    | ((with_reducible refine gate_dst (N := 3) rfl ?_); refine box_blk rfl rfl rfl rfl (by rw [hvs.out]; exact size39) hv1.out ?_; intro g w1 hg hz hb'; have B1 := Aside0.mk hb'; clear hg hz hb'))
  go_ret
  exact ⟨rfl, B1.out⟩

end Go.Proofs.YtceopllngemnnaaGreatDoor

