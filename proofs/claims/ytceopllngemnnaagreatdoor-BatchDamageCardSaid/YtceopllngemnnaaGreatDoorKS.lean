/-
  A pair of bytes that a row hands over, opened.
-/
import Derived.Test.YtceopllngemnnaaGreatDoorKQ
namespace Go.Proofs.YtceopllngemnnaaGreatDoor
open Go.ChangeShapes Go.WideShapes Go.ChangeAt Go.RowKit Go.Proofs.YtceopllngemnnaaGreatDoorW.PrintWords

section
variable {H : Type} {enc : TypeId × Value → H} {w : World} {base : Nat} {spare : Nat → Bool} {held : Bool}

theorem wide_array {P : Program} {r : Reach} {b n : Nat} {t e : TypeId} {v : Value} (ht : P.underlying t = some (.array n e)) (h : Value.okWide P w r b t v) : ∃ cs, v = .agg cs := by
  simp only [Value.okWide, ht] at h
  obtain ⟨cs, h1, _⟩ := h
  exact ⟨cs, h1⟩

theorem open_two {fuel : Nat} {cs : List Value} {x : DataW H × List MemPlace} (h : DataW.trod enc Tryz.prog w base spare held fuel 58 cs = some x) : ∃ a b : Int, (0 ≤ a ∧ a < 256) ∧ (0 ≤ b ∧ b < 256) ∧ cs = (#[Value.int .u8 a, Value.int .u8 b]).toList := by
  obtain ⟨xs, k, hl, hm⟩ := trod_array Tryz.underlying58 h
  have c58 : Tryz.prog.cellsOf 58 = 2 := by kernel_rfl
  have c5 : Tryz.prog.cellsOf 5 = 1 := by kernel_rfl
  rw [c58] at hl
  have each : ∀ i, i < 2 → ∃ n : Int, cs[i]? = some (.int .u8 n) ∧ 0 ≤ n ∧ n < 256 := by
    intro i hi
    have hg := mapM_some_get hm i i (by simp [hi])
    rw [c5, Nat.mul_one] at hg
    have hxl := mapM_some_length hm
    rw [List.length_range] at hxl
    have hxi : ∃ y, xs[i]? = some y := ⟨xs[i], List.getElem?_eq_getElem (by omega)⟩
    obtain ⟨y, hy⟩ := hxi
    rw [hy] at hg
    obtain ⟨v, hc, _, hw⟩ := DataW.trod_int Tryz.underlying5 hg
    have h0 : cs[i]? = some (.int .u8 v) := by
      have : ((cs.drop i).take 1)[0]? = some (.int .u8 v) := by rw [hc]; rfl
      simpa using this
    have hw2 : 0 ≤ v ∧ v < 256 := by
      simp [Lit.wf, IntKind.min, IntKind.max, IntKind.signed, IntKind.bits] at hw
      omega
    exact ⟨v, h0, hw2.1, hw2.2⟩
  obtain ⟨a, ha, ha2⟩ := each 0 (by omega)
  obtain ⟨b, hb, hb2⟩ := each 1 (by omega)
  refine ⟨a, b, ha2, hb2, ?_⟩
  match cs, hl, ha, hb with
  | [u, v], _, ha, hb =>
    have h1 : u = .int .u8 a := by simpa using ha
    have h2 : v = .int .u8 b := by simpa using hb
    rw [h1, h2]
end

end Go.Proofs.YtceopllngemnnaaGreatDoor

