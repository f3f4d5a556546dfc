/-
  The law AsciiHex: in a world that holds what the library reads, the call returns true and leaves what was there. For every slice of bytes.
-/
import Derived.Test.YtdlfdggmdenalaaDoorKH
import Derived.Test.YtdlfdggmdenalaaDoorKC
import Derived.Test.YtdlfdggmdenalaaDoorKXHex
import Derived.OpenShut
namespace Go.Proofs.YtdlfdggmdenalaaDoor
open Go.RowKit Go.Proofs.YtdlfdggmdenalaaDoorW.PrintWords Go.Proofs.YtdlfdggmdenalaaDoorW.PrintMore Go.Proofs.YtdlfdggmdenalaaDoor.PAsciiHex

/-- What the rows say of a slice of integers. -/
def IsRow (k : IntKind) (w : World) (a : Option Addr) (len cap : Nat) (zs : List Int) : Prop :=
  (a = none ∧ len = 0 ∧ cap = 0 ∧ zs = []) ∨ ∃ x, a = some x ∧ len ≤ cap ∧ cap ≤ maxLen ∧ zs.length = cap ∧ (∀ i, i < zs.length → w.cell? (x.add i) = some (.int k (zs.getD i 0))) ∧ ∀ n ∈ zs, (Lit.int k n).wf = true

theorem rhex_l0 (l : List Int) (hl : l.length ≤ 300) (hb : ∀ x ∈ l, 0 ≤ x ∧ x ≤ 255) : ∀ d i k, l.length - i = d → i ≤ l.length → d < k →
    bulletinref01_Hex.l0 k l (hexL (l.take i)) (i : Int) = some (hexS l) := by
  intro d
  induction d with
  | zero =>
    intro i k h1 h2 h3
    obtain ⟨k, rfl⟩ : ∃ m, k = m + 1 := ⟨k - 1, by omega⟩
    simp only [bulletinref01_Hex.l0]
    rw [if_neg (by omega), List.take_of_length_le (by omega)]
    rfl
  | succ d ih =>
    intro i k h1 h2 h3
    obtain ⟨k, rfl⟩ : ∃ m, k = m + 1 := ⟨k - 1, by omega⟩
    have hlt : i < l.length := by omega
    have hr : rd l (i : Int) = l[i] := by simp [rd, List.getD_eq_getElem?_getD, List.getElem?_eq_getElem hlt]
    have hx := hb l[i] (List.getElem_mem hlt)
    have e0 : l.take (i + 1) = l.take i ++ [l[i]] := by rw [List.take_succ_eq_append_getElem hlt]
    have := ih (i + 1) k (by omega) (by omega) (by omega)
    rw [e0, hexL_snoc] at this
    have hlen := hexL_length (l.take i)
    rw [List.length_take] at hlen
    generalize l[i] = x at hr hx this
    have e1 : IntKind.u8.wrap (Int.tdiv x 16) = x / 16 := by rw [Int.tdiv_eq_ediv_of_nonneg hx.1]; simp only [IntKind.wrap, IntKind.bits, IntKind.signed]; simp; omega
    have e2 : Int.tmod x 16 = x % 16 := by rw [Int.tmod_eq_emod_of_nonneg hx.1]
    simp only [bulletinref01_Hex.l0]
    rw [hr, e1, e2, if_pos (by omega), if_pos (by omega), if_pos (by omega), if_pos (by omega), if_pos (by omega), if_pos (by omega), wrap_succ i (by omega)]
    simp only [Option.bind_some]
    rw [if_pos (by rw [hlen]; simp; omega), ← this]
    simp only [List.append_assoc, List.cons_append, List.nil_append]
    rfl

theorem refHex_any (A : Option Addr) (c : Nat) (l : List Int) (w : World) (hC : Kd.C (Kd.int .u8) w A l.length l) (hc : l.length ≤ c) (hb : ∀ x ∈ l, 0 ≤ x ∧ x ≤ 255) (hl : l.length ≤ 300) :
    Calls Tryd.prog 34 #[.slice A l.length c] w fun e w' => e = .returned (.string (hexS l)) ∧ Below w.heap.size w w' :=
  bulletinref01_Hex.calls (l.length + 1) A c l _ w hC hc (by
    have := rhex_l0 l hl hb l.length 0 (l.length + 1) rfl (Nat.zero_le _) (by omega)
    simpa [hexL, bulletinref01_Hex.f] using this)

theorem hexAt_any (A : Option Addr) (c m : Nat) (l : List Int) (w : World) (hm : m = l.length) (hC : Kd.C (Kd.int .u8) w A l.length l) (hb : ∀ x ∈ l, 0 ≤ x ∧ x ≤ 255) (hl : m ≤ 1000000) :
    Calls Tryd.prog 32 #[.slice A m c] w fun e w' => e = .returned (.string (hexS l)) ∧ Below w.heap.size w w' := by
  subst hm
  exact hex_any A c l w hC hb hl
theorem refHexAt_any (A : Option Addr) (c m : Nat) (l : List Int) (w : World) (hm : m = l.length) (hC : Kd.C (Kd.int .u8) w A l.length l) (hc : m ≤ c) (hb : ∀ x ∈ l, 0 ≤ x ∧ x ≤ 255) (hl : m ≤ 300) :
    Calls Tryd.prog 34 #[.slice A m c] w fun e w' => e = .returned (.string (hexS l)) ∧ Below w.heap.size w w' := by
  subst hm
  exact refHex_any A c l w hC hc hb hl
theorem unhexAt_any (s : ByteArray) (l : List Int) (e0 : Int) (w : World) (hs : s.size ≤ 1000000) (hu : unhexF s = (l, e0)) :
    Calls Tryd.prog 33 #[.string s] w fun e w' => ∃ v, e = .returned (.tuple #[v, .int .i64 e0]) ∧ Kd.R (Kd.int .u8) 5 w' w.heap.size (fun _ => True) v l ∧ Below w.heap.size w w' := by
  have := unhex_any s w hs
  rw [hu] at this
  exact this

set_option maxHeartbeats 1600000 in
set_option maxRecDepth 100000 in
theorem asciiHex_walk (a0 : Option Addr) (len0 cap0 : Nat) (z0 : List Int) (w : World) (w0 : IsRow .u8 w a0 len0 cap0 z0) (he : Env w) :
    Calls Tryd.prog 9 #[.slice a0 len0 cap0] w fun e w' => e = .returned (.bool true) ∧ Below w.heap.size w w' := by
  have HE := Aside0.mk he
  clear he
  obtain ⟨l, rfl, hr, hl, hwf, hcap⟩ := ReadsInt.ofRowC w0
  have hC0 : Kd.C (Kd.int .u8) w a0 l.length l := Kd.C_of_reads (d := (0 : Int)) (h1 := fun _ => rfl) hr
  obtain ⟨m, hm⟩ : ∃ m, min l.length 300 = m := ⟨_, rfl⟩
  have hC1 := Kd.C_take (m := m) hC0 (by omega)
  have hlen : (l.take m).length = m := by rw [List.length_take]; omega
  have hb : ∀ x ∈ l.take m, 0 ≤ x ∧ x ≤ 255 := fun x hx => bounds_u8 (hwf x (List.mem_of_mem_take hx))
  generalize l.take m = b at hC1 hlen hb
  have hm2 : min (l.length : Int) 300 = (m : Int) := by omega
  have HC := Aside0.mk hC1
  have HBd := Aside0.mk hb
  have HL := Aside0.mk hlen
  have ss : (hexS b).size ≤ 600 := by rw [← data_length, hexS_data, toU, List.length_map, hexL_length]; omega
  have HU := Aside0.mk (unhexF_hexS b hb)
  clear w0 hr hwf hC0 hC1 hb hlen
  have hmc : m ≤ cap0 := by omega
  have HM := Aside0.mk (show m = b.length from HL.out.symm)
  go_enter Tryd.func9, Tryd.ntmps9
  go_wp2_with fail
  refine (hexAt_any a0 cap0 m b _ HM.out HC.out HBd.out (by omega)).mono ?_
  rintro e w1 ⟨rfl, hb1⟩
  have HB1 := Aside0.mk hb1
  clear hb1
  go_wp2_with fail
  refine (unhexAt_any (hexS b) b 0 _ (by omega) HU.out).mono ?_
  rintro e w2 ⟨v, rfl, hr2, hb2⟩
  have HR2 := Aside0.mk hr2
  have HB2 := Aside0.mk (HB1.out.trans (hb2.mono HB1.out.size))
  clear hr2 hb2 HB1
  go_wp2_with fail
  refine (known_any _ (HE.out.below HB2.out)).mono ?_
  rintro e w3 ⟨rfl, hb3⟩
  have HR3 := Aside0.mk (Kd.R_below HR2.out hb3)
  have HB3 := Aside0.mk (HB2.out.trans (hb3.mono HB2.out.size))
  clear hb3 HB2 HR2
  go_wp2_with fail
  refine (refHexAt_any a0 cap0 m b _ HM.out (Kd.C_below HC.out HB3.out) hmc HBd.out (by omega)).mono ?_
  rintro e w4 ⟨rfl, hb4⟩
  have HR4 := Aside0.mk (Kd.R_below HR3.out hb4)
  have HB4 := Aside0.mk (HB3.out.trans (hb4.mono HB3.out.size))
  clear hb4 HB3 HR3
  have hc1 := own_string (P := Tryd.prog) Tryd.underlying39 Tryd.underlying5 Tryd.underlying9 (Kd.own_of_R HR4.out)
  have hc2 := Kd.C_string (P := Tryd.prog) (c := cap0) Tryd.underlying39 Tryd.underlying5 Tryd.underlying9 (Kd.C_below HC.out HB4.out)
  rw [HL.out] at hc2
  go_wp2_with fail
  go_ret
  exact ⟨rfl, HB4.out⟩

end Go.Proofs.YtdlfdggmdenalaaDoor
