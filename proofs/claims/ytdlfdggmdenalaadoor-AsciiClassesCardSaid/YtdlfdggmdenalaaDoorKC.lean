/-
  The law's cut and the reference's Lower: what they return. For every string (Lower: of up to a million bytes).
-/
import Derived.Test.YtdlfdggmdenalaaDoorK9
namespace Go.Proofs.YtdlfdggmdenalaaDoor
open Go.RowKit Go.Proofs.YtdlfdggmdenalaaDoorW.PrintWords Go.Proofs.YtdlfdggmdenalaaDoorW.PrintMore

theorem wrap_succ (n : Nat) (h : n ≤ 4000000) : wrap64 ((n : Int) + 1) = ((n + 1 : Nat) : Int) := by unfold wrap64; omega

def cutS (s : ByteArray) : ByteArray := s.extract 0 (min (s.size : Int) 300).toNat
theorem cutS_size (s : ByteArray) : (cutS s).size ≤ 300 := by simp [cutS]; omega

theorem cut_any (s : ByteArray) (w : World) (hs : s.size ≤ 140737488351232) :
    Calls Tryd.prog 12 #[.string s] w fun e w' => e = .returned (.string (cutS s)) ∧ w' = w := by
  have h1 : 0 ≤ min (s.size : Int) 300 := by omega
  have h2 : min (s.size : Int) 300 ≤ (s.size : Int) := by omega
  go_enter Tryd.func12, Tryd.ntmps12
  go_wp2
  go_ret
  exact ⟨rfl, rfl⟩

theorem refUpper_any (n : Int) (w : World) : Calls Tryd.prog 39 #[.int .u8 n] w fun e w' => e = .returned (.bool (upperI n)) ∧ w' = w := by
  go_enter Tryd.func39, Tryd.ntmps39
  go_wp2
  all_goals go_ret
  all_goals (refine ⟨?_, rfl⟩; simp [upperI, *]; try omega)

set_option maxHeartbeats 1600000 in
theorem refLower_any (s : ByteArray) (w : World) (hs : s.size ≤ 1000000) :
    Calls Tryd.prog 13 #[.string s] w fun e w' => e = .returned (.string (lowerS s)) ∧ Below w.heap.size w w' := by
  have kb := fun W => print_bytes (P := Tryd.prog) 9 39 5 Tryd.underlying9 Tryd.underlying39 Tryd.underlying5 s W
  have hrow := Aside0.mk (ByteRow.made w s)
  have hbel := Aside0.mk (bytes_below (Below.refl w.heap.size w) (Nat.le_refl _) 5 s)
  go_enter Tryd.func13, Tryd.ntmps13
  go_wp2_with fail
  go_loopg [4] s.size (fun gf i wx => ∃ k : Nat, k ≤ s.size ∧ i = .int .i64 k ∧ Hid (s.size ≤ k + gf) ∧ Aside0 (ByteRow w.heap.size s.size (fun j => if j < k then lowerI (bt s j) else bt s j) wx) ∧ Aside0 (Below w.heap.size w wx))
  case atStart => exact ⟨0, Nat.zero_le _, rfl, by unfold Hid; omega, ⟨hrow.out.same (by simp)⟩, hbel⟩
  case round =>
    obtain ⟨k, hk, rfl, HG, HR, HB⟩ := hrel
    clear hrow hbel
    by_cases hlt : k < s.size
    · have hc := (HR.out.2 k hlt).1
      have hf := (HR.out.2 k hlt).2
      simp only [Nat.lt_irrefl, if_false] at hc
      obtain ⟨n, hn⟩ : ∃ n, bt s (k : Int) = n := ⟨_, rfl⟩
      have hnr := bt_range s (k : Int)
      rw [hn] at hc hnr
      obtain ⟨hn0, hn1⟩ := hnr
      have HN := Aside0.mk hn
      clear hn
      have cS := refUpper_any n wr
      cases hu : upperI n
      · rw [hu] at cS
        have hl : lowerI n = n := by simp [lowerI, hu]
        have HL := Aside0.mk hl
        clear hu hl
        go_wp2_with (go_at_call 39; refine cS.mono ?_; rintro e w' ⟨rfl, rfl⟩)
        go_roundg (gk - 1)
        case measure => have := HG.out; omega
        case rel =>
          refine ⟨k + 1, by omega, by go_num, by have := HG.out; unfold Hid; omega, ⟨HR.out.same (fun j hj => ?_)⟩, HB⟩
          by_cases h1 : j = k
          · subst h1; simp [HN.out, HL.out]
          · by_cases h2 : j < k
            · simp [h2, show j < k + 1 by omega]
            · simp [h2, show ¬ j < k + 1 by omega]
      · rw [hu] at cS
        have hl : lowerI n = n + 32 := by simp [lowerI, hu]
        have hb : 65 ≤ n ∧ n ≤ 90 := by simpa [upperI] using hu
        obtain ⟨hb0, hb1⟩ := hb
        have hm : (n + 32) % 256 = n + 32 := by omega
        have HL := Aside0.mk hl
        clear hu hl
        go_wp2_with (go_at_call 39; refine cS.mono ?_; rintro e w' ⟨rfl, rfl⟩)
        go_roundg (gk - 1)
        case measure => have := HG.out; omega
        case rel =>
          refine ⟨k + 1, by omega, by go_num, by have := HG.out; unfold Hid; omega, ⟨(HR.out.put k hlt (n + 32)).same (fun j hj => ?_)⟩, ⟨HB.out.setCell (p := ⟨w.heap.size, k, none⟩) (Nat.le_refl _) _⟩⟩
          by_cases h1 : j = k
          · subst h1; simp [HN.out, HL.out]
          · by_cases h2 : j < k
            · simp [h1, h2, show j < k + 1 by omega]
            · simp [h1, h2, show ¬ j < k + 1 by omega]
    · obtain rfl : k = s.size := by omega
      have hr := (HR.out.same (g := fun j => lowerI (bt s j)) (fun j hj => by simp [hj])).reads (by omega)
      have hconv := fun c => string_of_reads (P := Tryd.prog) (c := c) Tryd.underlying39 Tryd.underlying5 Tryd.underlying9 hr
      clear hr HR HG
      go_wp2_with fail
      go_ret
      exact ⟨rfl, HB.out⟩

end Go.Proofs.YtdlfdggmdenalaaDoor
