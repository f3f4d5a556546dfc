/-
  The law BatchTampering: in a world that holds what the library reads, the call returns true and leaves what was there. For every list of items, every number and every byte.
-/
import Derived.Test.YtceopllngemnnaaGreatDoorF1
import Derived.Test.YtceopllngemnnaaGreatDoorLBatchTruncates
set_option linter.unusedVariables false
set_option linter.unusedSimpArgs false
namespace Go.Proofs.YtceopllngemnnaaGreatDoor
open Go.RowKit Go.Proofs.YtceopllngemnnaaGreatDoorW.PrintWords Go.Proofs.YtceopllngemnnaaGreatDoorW.PrintLast Go.Proofs.YtceopllngemnnaaGreatDoorW.PrintMore Go.Proofs.YtceopllngemnnaaGreatDoor.PRef
attribute [local go_sem] max2_int min2_int max_two min_two

/-! Region tables, printed by rg2.py. -/
/-- Bytes in a block that no string shares. -/
def BB (w : World) (g : Nat) (l : List Int) : Prop := (∀ j, j < l.length → w.cell? ⟨g, j, none⟩ = some (.int .u8 (l.getD j 0))) ∧ ∃ cs t fr, w.heap[g]? = some (.cells cs t fr) ∧ l.length ≤ fr.1
theorem BB.below {w w' : World} {g : Nat} {l : List Int} (h : BB w g l) (hb : Below w.heap.size w w') : BB w' g l := by
  obtain ⟨h1, cs, t, fr, h2, h3⟩ := h
  refine ⟨fun j hj => pw_cell_below hb (h1 j hj), cs, t, fr, ?_, h3⟩
  have hg : g < w.heap.size := by
    have := (Array.getElem?_eq_some_iff.1 h2).1
    exact this
  exact (hb.block g hg).trans h2
theorem BB.reads {w : World} {g : Nat} {l : List Int} (h : BB w g l) (hm : l.length ≤ 9223372036854775807) : ReadsInt w .u8 (some ⟨g, 0, none⟩) l.length l :=
  ⟨rfl, hm, fun _ => ⟨⟨g, 0, none⟩, rfl, fun j hj => by rw [add_plain]; exact h.1 j hj⟩⟩
theorem BB.free {w : World} {g : Nat} {l : List Int} (h : BB w g l) (j : Nat) (hj : j < l.length) : w.frozen? ⟨g, j, none⟩ = false := by
  obtain ⟨_, cs, t, fr, h2, h3⟩ := h
  simp [World.frozen?, h2]
  omega
theorem BB.new (W : World) (s : ByteArray) : BB (Lib.bytesWorld W 5 s) W.heap.size (bytesOf s) := by
  refine ⟨fun j hj => ?_, _, _, _, Lib.bytesWorld_at_new W 5 s, ?_⟩
  · rw [bytesOf_length] at hj
    rw [Lib.bytesWorld_cell W 5 s j hj]
    simp [bytesOf, List.getD_eq_getElem?_getD, hj]
  · rw [bytesOf_length]
    simp [Lib.bytesCells]
theorem BB.set {w : World} {g : Nat} {l : List Int} (h : BB w g l) (hm : l.length ≤ 9223372036854775807) (i : Nat) (hi : i < l.length) (v : Int) : ReadsInt (w.setCell ⟨g, i, none⟩ (.int .u8 v)) .u8 (some ⟨g, 0, none⟩) l.length (l.set i v) := by
  refine ⟨List.length_set, hm, fun _ => ⟨⟨g, 0, none⟩, rfl, fun j hj => ?_⟩⟩
  rw [add_plain]
  by_cases hij : i = j
  · subst hij
    rw [World.cell?_setCell_same _ _ _ (h.1 i hi)]
    simp [List.getD_eq_getElem?_getD, hi]
  · rw [World.cell?_setCell_other _ _ _ _ (by intro e; injection e; omega), h.1 j hj]
    simp [List.getD_eq_getElem?_getD, List.getElem?_set, hij]

end Go.Proofs.YtceopllngemnnaaGreatDoor

