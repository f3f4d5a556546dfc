/-
  A new builder of batches, its length and its room: what they return.
-/
import Derived.Test.YtceopllngemnnaaGreatDoorME
set_option linter.unusedVariables false
set_option linter.unusedSimpArgs false
namespace Go.Proofs.YtceopllngemnnaaGreatDoor
open Go.RowKit Go.Proofs.YtceopllngemnnaaGreatDoorW.PrintWords Go.Proofs.YtceopllngemnnaaGreatDoorW.PrintLast Go.Proofs.YtceopllngemnnaaGreatDoorW.PrintMore Go.Proofs.YtceopllngemnnaaGreatDoor.PRef
attribute [local go_sem] max2_int min2_int max_two min_two

/-- A builder at g: its limit, its bytes, its items (own memory from base on). -/
def Bld (W : World) (g base : Nat) (most : Int) (l : List It) : Prop := ∃ A c, Blk W g #[.int .i64 most, .int .i64 (sumN l), .slice A l.length c] 97 ∧ Kit.R 39 W base (fun k => k ≠ g) (.slice A l.length c) l

def okMost (n : Int) : Prop := 1 ≤ n ∧ n ≤ 4194304
theorem limit_ok (n : Int) (W : World) (h : okMost n) : Calls Tryz.prog 51 #[.int .i64 n] W fun e w' => e = .returned (.int .i64 0) ∧ Below W.heap.size W w' := by
  obtain ⟨h1, h2⟩ := h
  go_enter Tryz.func51, Tryz.ntmps51
  go_wp2_with fail
  go_ret
  exact ⟨rfl, Below.refl _ _⟩
theorem limit_bad (n : Int) (W : World) (h : ¬ okMost n) : Calls Tryz.prog 51 #[.int .i64 n] W fun e w' => e = .returned (.int .i64 2) ∧ Below W.heap.size W w' := by
  by_cases h1 : n < 1
  · clear h
    go_enter Tryz.func51, Tryz.ntmps51
    go_wp2_with fail
    go_ret
    exact ⟨rfl, Below.refl _ _⟩
  · have h2 : 4194304 < n := by unfold okMost at h; omega
    clear h
    go_enter Tryz.func51, Tryz.ntmps51
    go_wp2_with fail
    go_ret
    exact ⟨rfl, Below.refl _ _⟩
theorem size97 : (Tryz.prog.info? 97).map (·.size) = some 3 := by kernel_rfl
theorem built97 (n : Int) : Tryz.prog.built 97 [(0, .int .i64 n)] = some #[.int .i64 n, .int .i64 0, .slice none 0 0] := by kernel_rfl

set_option maxHeartbeats 4000000 in
set_option maxRecDepth 100000 in
theorem new_ok (n : Int) (W : World) (h : okMost n) : Calls Tryz.prog 28 #[.int .i64 n] W fun e w' => ∃ g, e = .returned (.tuple #[.pointer (some ⟨g, 0, none⟩), .int .i64 0]) ∧ W.heap.size ≤ g ∧ (∀ base, Bld w' g base n []) ∧ Below W.heap.size W w' := by
  have HL := Aside0.mk (fun w => limit_ok n w h)
  clear h
  go_enter Tryz.func28, Tryz.ntmps28
  go_wp2_with fail
  refine (HL.out _).mono ?_
  rintro e w1 ⟨rfl, hb⟩
  have B1 := Aside0.mk hb
  clear hb
  go_wp2_with fail
  go_ret2
  exact ⟨w1.heap.size, rfl, B1.out.size, fun _ => ⟨none, 0, blk_new w1 _, Kd.R_nil _ _ _ _ _⟩, below_step B1.out (below_alloc (Below.refl _ _) _)⟩
theorem new_bad (n : Int) (W : World) (h : ¬ okMost n) : Calls Tryz.prog 28 #[.int .i64 n] W fun e w' => e = .returned (.tuple #[.pointer none, .int .i64 2]) ∧ Below W.heap.size W w' := by
  have HL := Aside0.mk (fun w => limit_bad n w h)
  clear h
  go_enter Tryz.func28, Tryz.ntmps28
  go_wp2_with fail
  refine (HL.out _).mono ?_
  rintro e w1 ⟨rfl, hb⟩
  have B1 := Aside0.mk hb
  clear hb
  go_wp2_with fail
  go_ret2
  exact ⟨rfl, B1.out⟩

/-! ### Len -/
theorem len_nil (W : World) : Calls Tryz.prog 31 #[.pointer none] W fun e w' => e = .returned (.int .i64 0) ∧ Below W.heap.size W w' := by
  go_enter Tryz.func31, Tryz.ntmps31
  go_wp2_with fail
  go_ret
  exact ⟨rfl, Below.refl _ _⟩
theorem len_any (g base : Nat) (most : Int) (l : List It) (W : World) (h : Bld W g base most l) : Calls Tryz.prog 31 #[.pointer (some ⟨g, 0, none⟩)] W fun e w' => e = .returned (.int .i64 l.length) ∧ Below W.heap.size W w' := by
  obtain ⟨A, c, hb, _⟩ := h
  have h2 : W.cell? ⟨g, 2, none⟩ = some (.slice A l.length c) := by rw [Lib.cell_of_heap hb]; rfl
  clear hb
  go_enter Tryz.func31, Tryz.ntmps31
  go_wp2_with fail
  go_ret
  exact ⟨rfl, Below.refl _ _⟩

end Go.Proofs.YtceopllngemnnaaGreatDoor

