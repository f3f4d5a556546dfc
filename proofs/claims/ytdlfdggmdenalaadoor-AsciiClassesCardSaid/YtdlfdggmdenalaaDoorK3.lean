/-
  Lower of package ascii: what it returns. For every string of up to a million bytes.
-/
import Derived.Test.YtdlfdggmdenalaaDoorK2
namespace Go.Proofs.YtdlfdggmdenalaaDoor
open Go.RowKit Go.Proofs.YtdlfdggmdenalaaDoorW.PrintWords Go.Proofs.YtdlfdggmdenalaaDoorW.PrintMore

def upperI (n : Int) : Bool := decide (65 ≤ n) && decide (n ≤ 90)
def lowerI (n : Int) : Int := if upperI n = true then n + 32 else n

theorem upper_any (n : Int) (w : World) : Calls Tryd.prog 38 #[.int .u8 n] w fun e w' => e = .returned (.bool (upperI n)) ∧ w' = w := by
  go_enter Tryd.func38, Tryd.ntmps38
  go_wp2
  all_goals go_ret
  all_goals (refine ⟨?_, rfl⟩; simp [upperI, *]; try omega)

theorem lowerI_any (n : Int) (w : World) : Calls Tryd.prog 49 #[.int .u8 n] w fun e w' => e = .returned (.int .u8 (lowerI n)) ∧ w' = w := by
  cases h : upperI n
  · have hc : Calls Tryd.prog 38 #[.int .u8 n] w fun e w' => e = .returned (.bool false) ∧ w' = w := h ▸ upper_any n w
    have hl : lowerI n = n := by simp [lowerI, h]
    rw [hl]
    clear hl h
    go_enter Tryd.func49, Tryd.ntmps49
    go_wp2_with (go_at_call 38; refine hc.mono ?_; rintro e w' ⟨rfl, rfl⟩)
    go_ret
    exact ⟨rfl, rfl⟩
  · have hc : Calls Tryd.prog 38 #[.int .u8 n] w fun e w' => e = .returned (.bool true) ∧ w' = w := h ▸ upper_any n w
    have hb : 65 ≤ n ∧ n ≤ 90 := by simpa [upperI] using h
    have hl : lowerI n = n + 32 := by simp [lowerI, h]
    rw [hl]
    clear hl h
    obtain ⟨h1, h2⟩ := hb
    go_enter Tryd.func49, Tryd.ntmps49
    go_wp2_with (go_at_call 38; refine hc.mono ?_; rintro e w' ⟨rfl, rfl⟩)
    go_ret
    exact ⟨ret_int (by omega), rfl⟩

/-- Block N holds these bytes, and they may be written. -/
def ByteRow (N n : Nat) (f : Nat → Int) (W : World) : Prop := N < W.heap.size ∧ ∀ j, j < n → W.cell? ⟨N, j, none⟩ = some (.int .u8 (f j)) ∧ W.frozen? ⟨N, j, none⟩ = false

theorem ByteRow.same {N n : Nat} {f g : Nat → Int} {W : World} (h : ByteRow N n f W) (hfg : ∀ j, j < n → f j = g j) : ByteRow N n g W :=
  ⟨h.1, fun j hj => by rw [← hfg j hj]; exact h.2 j hj⟩

theorem ByteRow.put {N n : Nat} {f : Nat → Int} {W : World} (h : ByteRow N n f W) (i : Nat) (hi : i < n) (c : Int) :
    ByteRow N n (fun j => if j = i then c else f j) (W.setCell ⟨N, i, none⟩ (.int .u8 c)) := by
  refine ⟨by simpa [World.setCell] using h.1, fun j hj => ⟨?_, by rw [World.frozen?_setCell]; exact (h.2 j hj).2⟩⟩
  by_cases he : j = i
  · subst he
    simp only [if_true]
    exact World.cell?_setCell_same _ _ _ (h.2 j hj).1
  · simp only [if_neg he]
    rw [World.cell?_setCell_other]
    · exact (h.2 j hj).1
    · simp [Ne.symm he]

theorem ByteRow.made (w : World) (s : ByteArray) : ByteRow w.heap.size s.size (fun j => bt s j) (Lib.bytesWorld w 5 s) := by
  refine ⟨by rw [Lib.bytesWorld_size]; omega, fun j hj => ⟨?_, ?_⟩⟩
  · show _ = some (Value.int .u8 (bt s j))
    rw [Lib.bytesWorld_cell w 5 s j hj, ← rd_bytesOf]
    have h' : j < s.data.toList.length := by rw [data_length]; exact hj
    simp [rd, bytesOf, List.getD_eq_getElem?_getD, List.getElem?_eq_getElem h']
  · unfold World.frozen?
    rw [Lib.bytesWorld_at_new]
    have : j < (Lib.bytesCells w 5 s).size := by
      unfold Lib.bytesCells
      rw [Array.size_append, Array.size_map]
      show j < s.data.size + _
      have : s.data.size = s.size := rfl
      omega
    simp; omega

theorem ByteRow.reads {N n : Nat} {f : Nat → Int} {W : World} (h : ByteRow N n f W) (hn : n ≤ 9223372036854775807) : ReadsInt W .u8 (some ⟨N, 0, none⟩) n ((List.range n).map f) := by
  refine ⟨by simp, hn, fun _ => ⟨_, rfl, fun j hj => ?_⟩⟩
  rw [add_plain, (h.2 j hj).1]
  simp [List.getD_eq_getElem?_getD, hj]


def lowerS (s : ByteArray) : ByteArray := strOfNums ((List.range s.size).map fun (j : Nat) => lowerI (bt s j))

set_option maxHeartbeats 800000 in
theorem lower_any (s : ByteArray) (w : World) (hs : s.size ≤ 1000000) :
    Calls Tryd.prog 15 #[.string s] w fun e w' => e = .returned (.string (lowerS s)) ∧ Below w.heap.size w w' := by
  have kb := fun W => print_bytes (P := Tryd.prog) 9 39 5 Tryd.underlying9 Tryd.underlying39 Tryd.underlying5 s W
  have hrow := Aside0.mk (ByteRow.made w s)
  have hbel := Aside0.mk (bytes_below (Below.refl w.heap.size w) (Nat.le_refl _) 5 s)
  go_enter Tryd.func15, Tryd.ntmps15
  go_wp2_with fail
  go_loopg [4, 5, 10] s.size (fun gf x4 x5 i wx => ∃ k : Nat, k ≤ s.size ∧ i = .int .i64 k ∧ Hid (s.size ≤ k + gf) ∧ Aside0 (ByteRow w.heap.size s.size (fun j => if j < k then lowerI (bt s j) else bt s j) wx) ∧ Aside0 (Below w.heap.size w wx))
  case atStart => exact ⟨0, Nat.zero_le _, rfl, by unfold Hid; omega, ⟨hrow.out.same (by simp)⟩, hbel⟩
  case round =>
    obtain ⟨k, hk, rfl, HG, HR, HB⟩ := hrel
    clear hrow hbel
    by_cases hlt : k < s.size
    · have hc := (HR.out.2 k hlt).1
      have hf := (HR.out.2 k hlt).2
      simp only [Nat.lt_irrefl, if_false] at hc
      go_wp2_with (go_at_call 49; refine (lowerI_any _ _).mono ?_; rintro e w' ⟨rfl, rfl⟩)
      go_roundg (gk - 1)
      case measure => have := HG.out; omega
      case rel =>
        refine ⟨k + 1, by omega, by go_num, by have := HG.out; unfold Hid; omega, ⟨(HR.out.put k hlt (lowerI (bt s k))).same (fun j hj => ?_)⟩, ⟨HB.out.setCell (p := ⟨w.heap.size, k, none⟩) (Nat.le_refl _) _⟩⟩
        by_cases h1 : j = k
        · subst h1; simp
        · by_cases h2 : j < k
          · simp [h1, h2, show j < k + 1 by omega]
          · simp [h1, h2, show ¬ j < k + 1 by omega]
    · obtain rfl : k = s.size := by omega
      have hr := (HR.out.same (g := fun j => lowerI (bt s j)) (fun j hj => by simp [hj])).reads (by omega)
      have hconv := fun c => string_of_reads (P := Tryd.prog) (c := c) Tryd.underlying39 Tryd.underlying5 Tryd.underlying9 hr
      clear hr HR HG
      go_wp2_with fail
      go_ret
      exact ⟨rfl, HB.out⟩

end Go.Proofs.YtdlfdggmdenalaaDoor
