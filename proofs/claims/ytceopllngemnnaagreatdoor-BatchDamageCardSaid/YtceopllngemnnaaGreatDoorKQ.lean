/-
  A list of items that a row hands over, opened: each item lies where the walks read it.
-/
import Derived.Test.YtceopllngemnnaaGreatDoorKR
import Derived.Test.YtceopllngemnnaaGreatDoorMC
import Derived.Deep.Slices
import Derived.ChangeSame
import Derived.DataReads
namespace Go.Proofs.YtceopllngemnnaaGreatDoor
open Go.ChangeShapes Go.WideShapes Go.ChangeAt Go.RowKit Go.Proofs.YtceopllngemnnaaGreatDoorW.PrintWords

section
variable {H : Type} {enc : TypeId × Value → H} {w : World} {base : Nat} {spare : Nat → Bool} {held : Bool}

theorem trod_array {P : Program} {t e : TypeId} {n fuel : Nat} {cs : List Value} {x : DataW H × List MemPlace} (ht : P.underlying t = some (.array n e)) (h : DataW.trod enc P w base spare held fuel t cs = some x) :
    ∃ xs k, cs.length = P.cellsOf t ∧ (List.range n).mapM (fun i => DataW.trod enc P w base spare held k e ((cs.drop (i * P.cellsOf e)).take (P.cellsOf e))) = some xs := by
  cases fuel with
  | zero => simp [DataW.trod] at h
  | succ k =>
    unfold DataW.trod at h
    rw [ht] at h
    split at h <;> simp_all
    obtain ⟨hl, xs, hp, _⟩ := h
    exact ⟨xs, k, hp⟩

theorem u8_list : ∀ cs : List Value, (∀ v ∈ cs, ∃ n : Int, v = .int .u8 n ∧ 0 ≤ n ∧ n < 256) → ∃ l : List Int, cs = nums .u8 l ∧ ∀ y ∈ l, 0 ≤ y ∧ y < 256
  | [], _ => ⟨[], rfl, by simp⟩
  | v :: cs, h => by
    obtain ⟨n, rfl, h0⟩ := h v List.mem_cons_self
    obtain ⟨l, rfl, hl⟩ := u8_list cs (fun v hv => h v (List.mem_cons_of_mem _ hv))
    exact ⟨n :: l, rfl, by intro y hy; rcases List.mem_cons.mp hy with rfl | hy; exact h0; exact hl y hy⟩

/-- An identity, as the reader reads it. -/
theorem open_id {fuel : Nat} {cs : List Value} {x : DataW H × List MemPlace} (h : DataW.trod enc Tryz.prog w base spare held fuel 37 cs = some x) : ∃ l : List Int, okId l ∧ cs = (u8s l).toList := by
  obtain ⟨xs, k, hl, hm⟩ := trod_array Tryz.underlying37 h
  have c37 : Tryz.prog.cellsOf 37 = 32 := by kernel_rfl
  have c5 : Tryz.prog.cellsOf 5 = 1 := by kernel_rfl
  rw [c37] at hl
  have each : ∀ i, i < 32 → ∃ n : Int, cs[i]? = some (.int .u8 n) ∧ 0 ≤ n ∧ n < 256 := by
    intro i hi
    have hg := mapM_some_get hm i i (by simp [hi])
    rw [c5, Nat.mul_one] at hg
    have hxl := mapM_some_length hm
    rw [List.length_range] at hxl
    have hxi : ∃ y, xs[i]? = some y := ⟨xs[i], List.getElem?_eq_getElem (by omega)⟩
    obtain ⟨y, hy⟩ := hxi
    rw [hy] at hg
    obtain ⟨v, hc, _, hw⟩ := DataW.trod_int Tryz.underlying5 hg
    have h0 : cs[i]? = some (.int .u8 v) := by
      have : ((cs.drop i).take 1)[0]? = some (.int .u8 v) := by rw [hc]; rfl
      simpa using this
    have hw2 : 0 ≤ v ∧ v < 256 := by
      simp [Lit.wf, IntKind.min, IntKind.max, IntKind.signed, IntKind.bits] at hw
      omega
    exact ⟨v, h0, hw2.1, hw2.2⟩
  obtain ⟨l, hcs, hr⟩ := u8_list cs (fun v hv => by
    obtain ⟨i, hi⟩ := List.mem_iff_getElem?.mp hv
    obtain ⟨n, h1, h2⟩ := each i (by have := (List.getElem?_eq_some_iff.1 hi).1; omega)
    rw [hi] at h1
    exact ⟨n, Option.some.inj h1, h2⟩)
  refine ⟨l, ⟨?_, fun y hy => ⟨(hr y hy).1, by have := (hr y hy).2; omega⟩⟩, ?_⟩
  · rw [hcs] at hl
    simpa [nums] using hl
  · rw [hcs]; simp [u8s]

theorem open_item {fuel : Nat} {cs : List Value} {x : DataW H × List MemPlace} (h : DataW.trod enc Tryz.prog w base spare held fuel 39 cs = some x) : ∃ i : It, okId i.1 ∧ cs = (itV i).toList := by
  have c37 : Tryz.prog.cellsOf 37 = 32 := by kernel_rfl
  have c39 : Tryz.prog.cellsOf 39 = 33 := by kernel_rfl
  have c9' : Tryz.prog.cellsOf 9 = 1 := by kernel_rfl
  obtain ⟨y0, y1, n, _, hl, h0, h1⟩ := trod_struct2 Tryz.underlying39 h
  rw [c39] at hl
  simp only [c37, c9', List.drop_zero] at h0 h1
  obtain ⟨l, hok, hc0⟩ := open_id h0
  obtain ⟨s, hc1, _, _⟩ := DataW.trod_string Tryz.underlying9 h1
  refine ⟨(l, s), hok, ?_⟩
  have e : cs = cs.take 32 ++ (cs.drop 32).take 1 := by
    rw [List.take_of_length_le (l := cs.drop 32) (by simp; omega), List.take_append_drop]
  rw [e, hc0, hc1]
  simp [itV]

/-- An item, and how long its text can be. -/
theorem open_item_len {fuel : Nat} {cs : List Value} {x : DataW H × List MemPlace} (h : DataW.trod enc Tryz.prog w base spare held fuel 39 cs = some x) : ∃ i : It, okId i.1 ∧ cs = (itV i).toList ∧ i.2.size ≤ 9223372036854775807 := by
  have c37 : Tryz.prog.cellsOf 37 = 32 := by kernel_rfl
  have c39 : Tryz.prog.cellsOf 39 = 33 := by kernel_rfl
  have c9' : Tryz.prog.cellsOf 9 = 1 := by kernel_rfl
  obtain ⟨y0, y1, n, _, hl, h0, h1⟩ := trod_struct2 Tryz.underlying39 h
  rw [c39] at hl
  simp only [c37, c9', List.drop_zero] at h0 h1
  obtain ⟨l, hok, hc0⟩ := open_id h0
  obtain ⟨s, hc1, _, hs⟩ := DataW.trod_string Tryz.underlying9 h1
  refine ⟨(l, s), hok, ?_, by simpa [maxLen] using hs⟩
  have e : cs = cs.take 32 ++ (cs.drop 32).take 1 := by
    rw [List.take_of_length_le (l := cs.drop 32) (by simp; omega), List.take_append_drop]
  rw [e, hc0, hc1]
  simp [itV]

theorem open_items {fuel : Nat} {cs : List Value} {x : DataW H × List MemPlace} (h : DataW.trod enc Tryz.prog w base spare held fuel 22 cs = some x) :
    ∃ A len cap l, cs = [.slice A len cap] ∧ Kit.C w A len l ∧ len ≤ 9223372036854775807 := by
  rcases Go.Deep.open_slice Tryz.underlying22 h with ⟨rfl, _⟩ | ⟨a, len, cap, m, n, D, Pl, rfl, _, hl, hm, hmm, _, hx⟩
  · exact ⟨none, 0, 0, [], rfl, Kd.C_nil Kit w, by omega⟩
  · have c39 : Tryz.prog.cellsOf 39 = 33 := by kernel_rfl
    have hlm : len ≤ m := by rw [hmm]; split <;> omega
    have hmx : len ≤ 9223372036854775807 := by unfold maxLen at hm; omega
    have each : ∀ i, i < len → ∃ it : It, okId it.1 ∧ ∀ j u, (itV it).toList[j]? = some u → w.cell? (a.add (i * 33 + j)) = some u := by
      intro i hi
      obtain ⟨cs', h1, h2⟩ := hx i (by omega)
      rw [c39] at h1
      obtain ⟨_, hlen, hcell⟩ := World.cells?_some h1
      obtain ⟨it, hok, rfl⟩ := open_item h2
      refine ⟨it, hok, fun j u hu => ?_⟩
      have hj : j < 33 := by
        have := (List.getElem?_eq_some_iff.1 hu).1
        omega
      have := hcell j hj
      rw [hu, Go.Deep.add_add] at this
      exact this
    obtain ⟨f, hf⟩ := Classical.axiomOfChoice (r := fun (i : Fin len) (it : It) => okId it.1 ∧ ∀ j u, (itV it).toList[j]? = some u → w.cell? (a.add (i.1 * 33 + j)) = some u) (fun i => each i.1 i.2)
    refine ⟨some a, len, cap, List.ofFn f, rfl, ⟨by simp, hmx, fun _ => ⟨a, rfl, fun j p hj => ?_⟩⟩, hmx⟩
    have hjl : j < len := by
      have := (List.getElem?_eq_some_iff.1 hj).1
      simpa using this
    have hp : f ⟨j, hjl⟩ = p := by
      have := hj
      simp [hjl] at this
      exact this
    have hq := hf ⟨j, hjl⟩
    rw [hp] at hq
    exact ⟨(itV p).toList, by rw [Array.length_toList, itV_size hq.1]; rfl, ⟨rfl, hq.1⟩, fun i u hu => hq.2 i u hu⟩
end
end Go.Proofs.YtceopllngemnnaaGreatDoor

