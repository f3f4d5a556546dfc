/-
  Flush of a builder that holds items: what it returns and leaves.
-/
import Derived.Test.YtceopllngemnnaaGreatDoorG7
set_option linter.unusedVariables false
set_option linter.unusedSimpArgs false
namespace Go.Proofs.YtceopllngemnnaaGreatDoor
open Go.RowKit Go.Proofs.YtceopllngemnnaaGreatDoorW.PrintWords Go.Proofs.YtceopllngemnnaaGreatDoorW.PrintLast Go.Proofs.YtceopllngemnnaaGreatDoorW.PrintMore Go.Proofs.YtceopllngemnnaaGreatDoor.PRef
attribute [local go_sem] max2_int min2_int max_two min_two

set_option maxHeartbeats 4000000 in
set_option maxRecDepth 100000 in
theorem flush_any (g base : Nat) (most : Int) (l : List It) (W : World) (he : Env W) (h : Bld W g base most l) (hl : l ≠ []) (hck : checkN l = 0) (hbw : base ≤ W.heap.size) :
    Calls Tryz.prog 30 #[.pointer (some ⟨g, 0, none⟩)] W fun e w' => e = .returned (.tuple #[.string (packS l), .int .i64 0]) ∧ Bld w' g base most [] ∧ Bel base g W w' ∧ KeepBut W w' g none := by
  obtain ⟨A, c, hb, hR⟩ := h
  obtain ⟨n, hn⟩ : ∃ n, l.length = n := ⟨_, rfl⟩
  obtain ⟨b, hb'⟩ : ∃ b, sumN l = b := ⟨_, rfl⟩
  have hn0 : 0 < n := by
    rw [← hn]
    exact List.length_pos_iff.mpr hl
  have hnI : ¬ ((n : Int) = 0) := by omega
  obtain ⟨A', c', e1, _, hC⟩ := Kd.R_reads hR
  injection e1 with e1 e2 e3
  subst e1 e3
  rw [hn] at hC hb
  rw [hb'] at hb
  have HP := Aside0.mk (pack_any A n c l W he hC)
  have hpr : packR l = (packS l, 0) := by unfold packR; rw [if_pos hck]
  rw [hpr] at HP
  have h2 : W.cell? ⟨g, 2, none⟩ = some (.slice A n c) := by rw [Lib.cell_of_heap hb]; rfl
  have HB := Aside0.mk hb
  clear hb hR hC hl hck hpr hn hb' he
  go_enter Tryz.func30, Tryz.ntmps30
  go_wp2_with fail
  refine HP.out.mono ?_
  rintro e w1 ⟨rfl, hb⟩
  have B1 := Aside0.mk hb
  have D1 := Aside0.mk (HB.out.below hb)
  clear hb h2
  have c1 : w1.cell? ⟨g, 1, none⟩ = some (.int .i64 b) := by rw [Lib.cell_of_heap D1.out]; rfl
  have c2 : w1.cell? ⟨g, 2, none⟩ = some (.slice A n c) := by rw [Lib.cell_of_heap D1.out]; rfl
  have f1 : w1.frozen? ⟨g, 1, none⟩ = false := Lib.frozen_of_heap D1.out 1
  have f2 : w1.frozen? ⟨g, 2, none⟩ = false := Lib.frozen_of_heap D1.out 2
  go_wp2_with fail
  go_ret2
  refine ⟨rfl, ⟨none, 0, ?_, Kd.R_nil _ _ _ _ _⟩, ((Bel.of B1.out hbw).set_ 2 _).set_ 1 _, ((KeepBut.of_below B1.out g none).set_ 2 _).set_ 1 _⟩
  exact blk_set (blk_set D1.out 2 _) 1 _
end Go.Proofs.YtceopllngemnnaaGreatDoor

