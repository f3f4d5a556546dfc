/-
  Identities; the abstract format of a text of items; lists of items in memory.
-/
import Derived.Test.YtceopllngemnnaaGreatDoorMB
import Derived.Lib.AppendStr
import Derived.Lib.Strings
import Derived.Lib.Join
import Derived.Deep.MidRow
import Derived.Deep.Cut
import Derived.Deep.CutRange
import Derived.Deep.DeepCutAuto
import Derived.Deep.CutBlock
import Derived.Great.BuildSlice
import Derived.Lib.SplitLaws
set_option linter.unusedVariables false
set_option linter.unusedSimpArgs false
/-
  SHA-256 of the program: Sum and SumHalf of package sha256: what they return. For up to a million bytes.
-/
namespace Go.Proofs.YtceopllngemnnaaGreatDoor
open Go.RowKit Go.Proofs.YtceopllngemnnaaGreatDoorW.PrintWords Go.Proofs.YtceopllngemnnaaGreatDoorW.PrintLast Go.Proofs.YtceopllngemnnaaGreatDoorW.PrintMore Go.Proofs.YtceopllngemnnaaGreatDoor.PRef

theorem eat_mem : ∀ (m : Nat) (s : St) (l : List Int), l.length ≤ m → (∀ x ∈ (eat s l).2, x ∈ l) ∧ (eat s l).2.length ≤ l.length := by
  intro m
  induction m with
  | zero => intro s l h; rw [eat_end s l (by omega)]; exact ⟨fun _ h => h, Nat.le_refl _⟩
  | succ m ih =>
    intro s l h
    by_cases h64 : 64 ≤ l.length
    · rw [eat_more s l h64]
      have := ih (procS s (blk16 l)) (l.drop 64) (by rw [List.length_drop]; omega)
      exact ⟨fun x hx => List.mem_of_mem_drop (this.1 x hx), by have := this.2; rw [List.length_drop] at this; omega⟩
    · rw [eat_end s l h64]; exact ⟨fun _ h => h, Nat.le_refl _⟩

/-- The digest of bytes, as the program computes it. -/
def shaL (b : List Int) : List Int := digL (eat (eat st0 b).1 ((eat st0 b).2 ++ padL b.length)).1
theorem digL_length (s : St) : (digL s).length = 32 := rfl
theorem shaL_length (b : List Int) : (shaL b).length = 32 := digL_length _

set_option maxHeartbeats 1000000 in
set_option maxRecDepth 100000 in
theorem sum_any (A : Option Addr) (m c : Nat) (b : List Int) (W : World) (hb : Kd.C (Kd.int .u8) W A b.length b) (hm : m = b.length) (hl : b.length ≤ 1500000) (hby : ∀ x ∈ b, 0 ≤ x ∧ x ≤ 255) :
    Calls Tryz.prog 98 #[.slice A m c] W fun e w' => e = .returned (.agg (u8s (shaL b))) ∧ Below W.heap.size W w' := by
  obtain ⟨R, hR⟩ : ∃ R, u8s (shaL b) = R := ⟨_, rfl⟩
  have hsm : ∀ s n g r W, IsHash W g s r ((n : Nat) : Int) → r.length ≤ 2000000 → n ≤ 3000000 → (∀ x ∈ r, 0 ≤ x ∧ x ≤ 255) → u8s (digL (eat s (r ++ padL n)).1) = R → Calls Tryz.prog 114 #[.pointer (some ⟨g, 0, none⟩)] W fun e w' => e = .returned (.agg R) ∧ Below W.heap.size W w' :=
    fun s n g r W h1 h2 h3 h4 h5 => h5 ▸ hsum_any s n g r W h1 h2 h3 h4
  have HSM := Aside0.mk hsm
  have hrs : Aside0 (R.size = 32) := ⟨hR ▸ by rw [u8s_size, shaL_length]⟩
  have hr1 : Aside0 (R.all (·.oneCell') = true) := ⟨hR ▸ u8s_one _⟩
  have HR := Aside0.mk hR
  have HC := Aside0.mk hb
  have HBy := Aside0.mk hby
  have HM := Aside0.mk hm
  rw [hR]
  clear hR hb hby hm hsm
  go_enter Tryz.func98, Tryz.ntmps98
  go_wp2_with (first
    | ((with_reducible refine gate_dst (N := 2) rfl ?_); refine alloc_blk rfl rfl rfl zero142 ?_; intro g2 w1 hg hz hb; have HG2 := Aside0.mk hg; have HZ2 := Aside0.mk hz; have HB1 := Aside0.mk hb; clear hg hz hb))
  refine (new_any _).mono ?_
  rintro e w2 ⟨g, rfl, hh, hge, hb⟩
  have HH : Aside0 (IsHash w2 g st0 [] ((0 : Nat) : Int)) := ⟨none, 0, hh, Kd.C_of_reads (d := (0 : Int)) (h1 := fun _ => rfl) ⟨rfl, Nat.zero_le _, fun h => absurd h (Nat.lt_irrefl 0)⟩, Nat.le_refl _, fun _ h => by cases h⟩
  have HZ := Aside0.mk (HZ2.out.below hb)
  have HB2 := Aside0.mk (below_step HB1.out hb)
  have HG := Aside0.mk (show g2 < g by have := blk_lt HZ2.out; omega)
  clear hh hge hb HZ2 HB1
  go_wp2_with fail
  refine (write_any st0 0 g (g2 + 1) A m c [] b _ HH.out (Kd.C_below HC.out HB2.out) HM.out (by simp; omega) (by omega) (by simpa using HBy.out) (by have := HG.out; omega)).mono ?_
  rintro e w3 ⟨rfl, hh, hb⟩
  rw [List.nil_append, Nat.zero_add] at hh
  have HH3 := Aside0.mk hh
  have HZ3 := Aside0.mk (show Blk w3 g2 (u8s (List.replicate 32 0)) 142 from (hb.block g2 (Nat.lt_succ_self _)).trans HZ.out)
  have HB3 := Aside0.mk (HB2.out.trans (hb.mono (by have := HG2.out; omega)))
  clear hh hb HH HZ HB2
  have HE := Aside0.mk (eat_mem b.length st0 b (Nat.le_refl _))
  go_wp2_with fail
  refine (HSM.out _ b.length g _ _ HH3.out (by have := HE.out.2; omega) (by omega) (fun x hx => HBy.out x (HE.out.1 x hx)) HR.out).mono ?_
  rintro e w4 ⟨rfl, hb⟩
  have HZ4 := Aside0.mk (HZ3.out.below hb)
  have HB4 := Aside0.mk (HB3.out.trans (hb.mono HB3.out.size))
  clear hb HZ3 HB3 HH3
  go_wp2_with (first
    | ((with_reducible refine gate_store (t := 142) (p := 2) (v := .tmp 9) rfl ?_); refine store_blk rfl rfl rfl rfl rfl HZ4.out (by rw [hrs.out]; exact size142) (by rw [hrs.out]; rfl) hr1.out ?_))
  refine bodyPost_ret (results_cell_row rfl _ _ g2 142 R (0, 0) _ ?hp (HZ4.out.setRow R) Tryz.underlying142 rfl (by rw [hrs.out]; exact size142)) rfl ?_
  case hp => rfl
  exact ⟨rfl, below_setRow HB4.out (by rw [HG2.out]; exact Nat.le_refl _) _⟩

def halfL (b : List Int) : List Int := (shaL b).take 16
theorem halfL_length (b : List Int) : (halfL b).length = 16 := by simp [halfL, shaL_length]
theorem zero132 : (Tryz.prog.info? 132).map (fun i => (i.zero, i.size)) = some (some (.agg (u8s (List.replicate 16 0))), 16) := by kernel_rfl
theorem size132 : (Tryz.prog.info? 132).map (·.size) = some 16 := by kernel_rfl
theorem agg132 : Tryz.prog.underlying 132 = some (.array 16 5) := by kernel_rfl

/-- The first sixteen cells of a block. -/
theorem run_load16 {W : World} {g t : Nat} {l : List Int} (h : Blk W g (u8s l) t) (hl : 16 ≤ l.length) :
    (loadCellsFrom ⟨g, 0, none⟩ 0 16 #[]).run Tryz.prog W = .ok (u8s (l.take 16)) W := by
  have := run_loadCells_list (P := Tryz.prog) W ⟨g, 0, none⟩ (nums .u8 (l.take 16)) (fun j v hv => by
    have hadd : (⟨g, 0, none⟩ : Addr).add j = ⟨g, j, none⟩ := by unfold Addr.add; split <;> simp_all
    have hj : j < 16 := by
      have := (List.getElem?_eq_some_iff.1 hv).1
      simp [nums] at this
      omega
    rw [hadd, (h.u8 j (by omega)).1, ← hv]
    simp only [nums, List.getElem?_map, List.getElem?_take, if_pos hj, rd, Int.toNat_natCast, List.getD_eq_getElem?_getD, List.getElem?_eq_getElem (show j < l.length by omega), Option.map_some, Option.getD_some])
  have hlen : (nums .u8 (l.take 16)).length = 16 := by simp [nums]; omega
  rw [hlen] at this
  simpa [loadCells, u8s] using this

theorem arrayAt16 (a : Option Addr) (w : World) : (Instr.arrayAt 132 (.slice a 16 32)).run Tryz.prog w = .ok (.pointer a) w := by
  simp [Instr.arrayAt, underlying, agg132, go_sem]

section
variable {ops : Array Oper} {rest : List Oper} {o : Oper} {a : Act} {Q : Exit → Act → World → Prop}
theorem load16_l {W : World} {g t : Nat} {l : List Int} (hgd : o.guard = none) {p : Tmp} (ho : o.op = .load 132 (.tmp p)) (haddr : a.eval (.tmp p) = .pointer (some ⟨g, 0, none⟩)) (h : Blk W g (u8s l) t) (hl : 16 ≤ l.length)
    (hk : wpList Tryz.prog ops Q rest (a.put o.dst (.agg (u8s (l.take 16)))) W) : wpList Tryz.prog ops Q (o :: rest) a W := by
  refine Kd.event_run hgd ?_ hk
  have h16 := run_load16 h hl
  obtain ⟨i, hi, hs⟩ := Option.map_eq_some_iff.1 size132
  have e : ∀ av : Value, av = .pointer (some ⟨g, 0, none⟩) → ((do let v ← Instr.loadAt 132 av; pure (Next.value v)) : Sem Next).run Tryz.prog W = .ok (.value (.agg (u8s (l.take 16)))) W := by
    rintro _ rfl
    simp [Instr.loadAt, Instr.sureAddr, loadVar, isAgg, sizeOf, typeInfo, underlying, hi, hs, agg132, loadCells, h16]
  have := e _ haddr
  simpa only [execOp, ho] using this
end

set_option maxHeartbeats 1000000 in
set_option maxRecDepth 100000 in
theorem half_any (A : Option Addr) (m c : Nat) (b : List Int) (W : World) (hb : Kd.C (Kd.int .u8) W A b.length b) (hm : m = b.length) (hl : b.length ≤ 1500000) (hby : ∀ x ∈ b, 0 ≤ x ∧ x ≤ 255) :
    Calls Tryz.prog 81 #[.slice A m c] W fun e w' => e = .returned (.agg (u8s (halfL b))) ∧ Below W.heap.size W w' := by
  obtain ⟨R, hR⟩ : ∃ R, u8s (halfL b) = R := ⟨_, rfl⟩
  have HR := Aside0.mk hR
  have HC := Aside0.mk hb
  have HBy := Aside0.mk hby
  have HM := Aside0.mk hm
  have hrs : Aside0 (R.size = 16) := ⟨hR ▸ by rw [u8s_size, halfL_length]⟩
  have hr1 : Aside0 (R.all (·.oneCell') = true) := ⟨hR ▸ u8s_one _⟩
  rw [hR]
  clear hR hb hby hm
  have har := arrayAt16
  go_enter Tryz.func81, Tryz.ntmps81
  go_wp2_with (first
    | ((with_reducible refine gate_dst (N := 2) rfl ?_); refine alloc_blk rfl rfl rfl zero132 ?_; intro g2 w1 hg hz hb; have HG2 := Aside0.mk hg; have HZ2 := Aside0.mk hz; have HB1 := Aside0.mk hb; clear hg hz hb))
  refine (sum_any A m c b _ (Kd.C_below HC.out HB1.out) HM.out hl HBy.out).mono ?_
  rintro e w2 ⟨rfl, hb⟩
  have HZ := Aside0.mk (HZ2.out.below hb)
  have HB2 := Aside0.mk (below_step HB1.out hb)
  clear hb HZ2 HB1
  obtain ⟨D, hD⟩ : ∃ D, u8s (shaL b) = D := ⟨_, rfl⟩
  have HD := Aside0.mk hD
  have hds : Aside0 (D.size = 32) := ⟨hD ▸ by rw [u8s_size, shaL_length]⟩
  have hd1 : Aside0 (D.all (·.oneCell') = true) := ⟨hD ▸ u8s_one _⟩
  rw [hD]
  clear hD
  go_wp2_with (first
    | ((with_reducible refine gate_dst (N := 3) rfl ?_); refine alloc_blk rfl rfl rfl zero142 ?_; intro g3 w3 hg hz hb; have HG3 := Aside0.mk (show g2 < g3 by rw [hg]; exact blk_lt HZ.out); have HZ3 := Aside0.mk hz; have HZ23 := Aside0.mk (HZ.out.below hb); have HB3 := Aside0.mk (below_step HB2.out hb); clear hg hz hb HZ HB2)
    | ((with_reducible refine gate_store (t := 142) (p := 3) (v := .tmp 5) rfl ?_); refine store_blk_l rfl rfl rfl rfl rfl HZ3.out (by rw [hds.out]; exact size142) (by rw [hds.out]; rfl) hd1.out ?_; intro w4 hz hb hn; have HK4 := Aside0.mk hz; have HZ4 := Aside0.mk (hn _ _ _ HZ23.out (by have := HG3.out; omega)); have HB4 := Aside0.mk (hb _ _ (by have := HG3.out; have := HG2.out; omega) HB3.out); clear hz hb hn HZ3 HZ23 HB3; rw [← HD.out] at HK4)
    | ((with_reducible refine gate_dst (N := 8) rfl ?_); refine load16_l rfl rfl rfl HK4.out (by rw [shaL_length]; omega) ?_)
    | ((with_reducible refine gate_store (t := 132) (p := 2) (v := .tmp 8) rfl ?_); refine store_blk (cs := R) rfl rfl rfl rfl (by rw [← HR.out]; rfl) HZ4.out (by rw [hrs.out]; exact size132) (by rw [hrs.out]; rfl) hr1.out ?_))
  refine bodyPost_ret (results_cell_row rfl _ _ g2 132 R (0, 0) _ ?hp (HZ4.out.setRow R) Tryz.underlying132 rfl (by rw [hrs.out]; exact size132)) rfl ?_
  case hp => rfl
  exact ⟨rfl, below_setRow HB4.out (by rw [HG2.out]; exact Nat.le_refl _) _⟩

end Go.Proofs.YtceopllngemnnaaGreatDoor


/-
  SHA-256's constants and schedule of the document's answer: what they return. For all bytes.
-/
namespace Go.Proofs.YtceopllngemnnaaGreatDoor
open Go.RowKit Go.Proofs.YtceopllngemnnaaGreatDoorW.PrintWords Go.Proofs.YtceopllngemnnaaGreatDoorW.PrintLast Go.Proofs.YtceopllngemnnaaGreatDoorW.PrintMore Go.Proofs.YtceopllngemnnaaGreatDoor.PRef

set_option maxHeartbeats 1000000 in
set_option maxRecDepth 100000 in
theorem rconst_any (W : World) : Calls Tryz.prog 62 #[] W fun e w' => e = .returned (.agg (u32s kT)) ∧ Below W.heap.size W w' := by
  go_enter Tryz.func62, Tryz.ntmps62
  go_wp2_with (first
    | ((with_reducible refine gate_dst (N := 0) rfl ?_); refine alloc_blk rfl rfl rfl zero112 ?_; intro g w1 hg hz hb; have HG := Aside0.mk hg; have HZ := Aside0.mk hz; have HB := Aside0.mk hb; clear hg hz hb)
    | ((with_reducible refine gate_store (t := 112) (p := 0) (v := .tmp 1) rfl ?_); refine store_blk (cs := u32s kT) rfl rfl rfl rfl rfl HZ.out size112 (by simp [u32s_size]; rfl) (u32s_one _) ?_))
  refine bodyPost_ret (results_cell_row rfl _ _ g 112 (u32s kT) (0, 0) _ ?hp (HZ.out.setRow _) Tryz.underlying112 rfl size112) rfl ?_
  case hp => rfl
  exact ⟨rfl, below_setRow HB.out (by rw [HG.out]; exact Nat.le_refl _) _⟩

def r64_8.T : Bool × List (List Nat × List Nat) := (true, [([], []), ([], []), ([1], [1]), ([], []), ([3, 2], [3]), ([2, 4], [2, 4]), ([], []), ([6], [6]), ([5, 7], [5, 7]), ([], []), ([9], [9]), ([10], [10]), ([11], [11]), ([8, 12], [8, 12]), ([], []), ([14, 4], [14]), ([], []), ([16, 15], [16]), ([15, 17], [15, 17]), ([], []), ([19], [19]), ([18, 20], [18, 20]), ([13, 21], [13, 21]), ([], []), ([23], [23]), ([24], [24]), ([25], [25]), ([22, 26], [22, 26]), ([0, 0, 1, 2, 3, 4, 5, 6, 7, 8, 9, 10, 11, 12, 13, 14, 15, 16, 17, 18, 19, 20, 21, 22, 23, 24, 25, 26, 27], [0]), ([28, 27, 17, 0, 1, 2, 3, 4, 5, 6, 7, 8, 9, 10, 11, 12, 13, 14, 15, 16, 17, 18, 19, 20, 21, 22, 23, 24, 25, 26, 27], [27, 28])])
def r64_8.B : List Nat := [0, 0, 2, 0, 14, 30, 0, 64, 254, 0, 512, 1536, 3584, 8190, 0, 16414, 0, 114718, 245790, 0, 524288, 2080798, 4194302, 0, 8388608, 25165824, 58720256, 134217726, 268435455, 536870911]
theorem r64_8.tab : rtab .any (opsOf Tryz.f64 8) = r64_8.T := by kernel_rfl
theorem r64_8.bits : waitsOk r64_8.T.2 r64_8.B = true := by kernel_rfl

theorem wrap4 (a b c d : Int) : IntKind.u32.wrap (IntKind.u32.wrap (IntKind.u32.wrap (a + b) + c) + d) = (a + b + c + d) % 4294967296 := by
  simp only [IntKind.wrap_u32]; omega
/-- The words of the rounds, the first t of them. -/
def swp (b : List Int) (t : Nat) : List Int := (List.range 64).map fun j => if j < t then fw (blk16 b) j else 0
theorem swp_length (b : List Int) (t : Nat) : (swp b t).length = 64 := by simp [swp]
theorem swp_get (b : List Int) (t j : Nat) (h : j < t) (h2 : j < 64) : rd (swp b t) (j : Int) = fw (blk16 b) j := by
  simp [swp, rd, List.getD_eq_getElem?_getD, h, h2]
theorem swp_step (b : List Int) (t : Nat) (h : t < 64) : (swp b t).set t (fw (blk16 b) t) = swp b (t + 1) := by
  apply List.ext_getElem
  · simp [swp]
  · intro i h1 h2
    simp only [swp, List.getElem_set, List.getElem_map, List.getElem_range]
    by_cases e : t = i
    · subst e; simp
    · rw [if_neg e]
      by_cases h : i < t
      · rw [if_pos h, if_pos (by omega)]
      · rw [if_neg h, if_neg (by omega)]
theorem swp_zero (b : List Int) : swp b 0 = List.replicate 64 0 := rfl
theorem fw_first (b : List Int) (t : Nat) (h : t < 16) : fw (blk16 b) t = word b t := by
  rw [fw, dif_pos h]
  simp [blk16, rd, List.getD_eq_getElem?_getD, h]

theorem sched_next (b : List Int) (t n15 n2 n7 n16 : Nat) (h16 : 16 ≤ t) (h64 : t < 64) (e15 : t = n15 + 15) (e2 : t = n2 + 2) (e7 : t = n7 + 7) (e16 : t = n16 + 16) :
    fw (blk16 b) t = (sg1 (rd (swp b t) (n2 : Int)) + rd (swp b t) (n7 : Int) + sg0 (rd (swp b t) (n15 : Int)) + rd (swp b t) (n16 : Int)) % 4294967296 := by
  have a15 : t - 15 = n15 := by omega
  have a2 : t - 2 = n2 := by omega
  have a7 : t - 7 = n7 := by omega
  have a16 : t - 16 = n16 := by omega
  rw [fw_step _ t h16, a15, a2, a7, a16, swp_get b t n2 (by omega) (by omega), swp_get b t n7 (by omega) (by omega), swp_get b t n15 (by omega) (by omega), swp_get b t n16 (by omega) (by omega)]

set_option maxHeartbeats 4000000 in
set_option maxRecDepth 100000 in
theorem schedule_any (A : Option Addr) (c n : Nat) (b : List Int) (W : World) (hC : Kd.C (Kd.int .u8) W A b.length b) (hn : n = b.length) (h64 : 64 ≤ n) (hb : ∀ x ∈ b, 0 ≤ x ∧ x ≤ 255) :
    Calls Tryz.prog 64 #[.slice A n c] W fun e w' => e = .returned (.agg (u32s (swp b 64))) ∧ Below W.heap.size W w' := by
  obtain ⟨R, hR⟩ : ∃ R, u32s (swp b 64) = R := ⟨_, rfl⟩
  rw [hR]
  have HR := Aside0.mk hR
  have HC := Aside0.mk hC
  have hlen : b.length = n := hn.symm
  have hrs : Aside0 (R.size = 64) := ⟨by rw [← hR, u32s_size, swp_length]⟩
  have hr1 : Aside0 (R.all (·.oneCell') = true) := ⟨hR ▸ u32s_one _⟩
  clear hR hC hb hn
  go_enter Tryz.func64, Tryz.ntmps64
  go_wp2_with (first
    | ((with_reducible refine gate_dst (N := 2) rfl ?_); refine alloc_blk rfl rfl rfl zero112 ?_; intro g2 w1 hg hz hb; have G2 := Aside0.mk hg; have HZ2 := Aside0.mk hz; have HB1 := Aside0.mk hb; clear hg hz hb)
    | ((with_reducible refine gate_dst (N := 3) rfl ?_); refine alloc_blk rfl rfl rfl zero112 ?_; intro g3 w2 hg hz hb; have G3 := Aside0.mk (show g2 < g3 by rw [hg]; exact blk_lt HZ2.out); have HZ3 := Aside0.mk hz; have HZ := Aside0.mk (HZ2.out.below hb); have HB2 := Aside0.mk (below_step HB1.out hb); clear hg hz hb HZ2 HB1))
  rw [← swp_zero b] at HZ3
  go_loopg [4] 64 (fun gf i wx => ∃ t : Nat, t ≤ 64 ∧ i = .int .i64 t ∧ Hid (64 ≤ t + gf) ∧ Aside0 (Blk wx g3 (u32s (swp b t)) 112) ∧ Aside0 (Blk wx g2 (u32s (List.replicate 64 0)) 112) ∧ Aside0 (Below W.heap.size W wx))
  case atStart => exact ⟨0, Nat.zero_le _, rfl, by unfold Hid; omega, HZ3, HZ, HB2⟩
  case round =>
    clear HZ3 HZ HB2
    obtain ⟨t, ht, rfl, HG, H3, H2, HB⟩ := hrel
    by_cases hlt : t < 64
    · by_cases h16 : t < 16
      · have hcell := H3.out.u32 t (by rw [swp_length]; omega)
        have hc := hcell.1
        have hf := hcell.2
        clear hcell
        have q0 : IntKind.i64.wrap (4 * (t : Int)) = 4 * t := IntWalk.i64_in _ (by omega)
        have q1 : IntKind.i64.wrap (4 * (t : Int) + 1) = 4 * t + 1 := IntWalk.i64_in _ (by omega)
        have q2 : IntKind.i64.wrap (4 * (t : Int) + 2) = 4 * t + 2 := IntWalk.i64_in _ (by omega)
        have q3 : IntKind.i64.wrap (4 * (t : Int) + 3) = 4 * t + 3 := IntWalk.i64_in _ (by omega)
        obtain ⟨ad, hA, h0⟩ := Kd.at_int (Kd.C_below HC.out HB.out) (4 * (t : Int)) (by omega) (by omega)
        subst hA
        obtain ⟨ad1, hA1, h1⟩ := Kd.at_int (Kd.C_below HC.out HB.out) (4 * (t : Int) + 1) (by omega) (by omega)
        obtain rfl : ad = ad1 := by injection hA1
        obtain ⟨ad2, hA2, h2⟩ := Kd.at_int (Kd.C_below HC.out HB.out) (4 * (t : Int) + 2) (by omega) (by omega)
        obtain rfl : ad = ad2 := by injection hA2
        obtain ⟨ad3, hA3, h3⟩ := Kd.at_int (Kd.C_below HC.out HB.out) (4 * (t : Int) + 3) (by omega) (by omega)
        obtain rfl : ad = ad3 := by injection hA3
        clear hA1 hA2 hA3
        obtain ⟨n0, t0⟩ : ∃ m, (4 * (t : Int)).toNat = m := ⟨_, rfl⟩
        obtain ⟨n1, t1⟩ : ∃ m, (4 * (t : Int) + 1).toNat = m := ⟨_, rfl⟩
        obtain ⟨n2, t2⟩ : ∃ m, (4 * (t : Int) + 2).toNat = m := ⟨_, rfl⟩
        obtain ⟨n3, t3⟩ : ∃ m, (4 * (t : Int) + 3).toNat = m := ⟨_, rfl⟩
        rw [t0] at h0
        rw [t1] at h1
        rw [t2] at h2
        rw [t3] at h3
        have u0 : 4 * t = n0 := by omega
        have u1 : 4 * t + 1 = n1 := by omega
        have u2 : 4 * t + 2 = n2 := by omega
        have u3 : 4 * t + 3 = n3 := by omega
        have HF := Aside0.mk (fw_first b t h16)
        clear ht
        go_wp2_with fail
        go_region
        go_wp2_with fail
        go_roundg (gk - 1)
        case measure => have := HG.out; omega
        case rel =>
          refine ⟨t + 1, by omega, by go_num, by have := HG.out; unfold Hid; omega, ⟨?_⟩, ⟨H2.out.set_ne (p := ⟨g3, t, none⟩) _ (by have := G3.out; show g2 ≠ g3; omega)⟩, ⟨below_drew (HB.out.setCell (p := ⟨g3, t, none⟩) (by have := G3.out; have := G2.out; show W.heap.size ≤ g3; omega) _)⟩⟩
          rw [← swp_step b t hlt, HF.out]
          exact H3.out.put t _
      · obtain ⟨n15, e15⟩ : ∃ n : Nat, t = n + 15 := ⟨t - 15, by omega⟩
        obtain ⟨n2, e2⟩ : ∃ n : Nat, t = n + 2 := ⟨t - 2, by omega⟩
        obtain ⟨n7, e7⟩ : ∃ n : Nat, t = n + 7 := ⟨t - 7, by omega⟩
        obtain ⟨n16, e16⟩ : ∃ n : Nat, t = n + 16 := ⟨t - 16, by omega⟩
        have q15 : IntKind.i64.wrap ((t : Int) - 15) = (n15 : Int) := by rw [IntWalk.i64_in _ (by omega)]; omega
        have q2 : IntKind.i64.wrap ((t : Int) - 2) = (n2 : Int) := by rw [IntWalk.i64_in _ (by omega)]; omega
        have q7 : IntKind.i64.wrap ((t : Int) - 7) = (n7 : Int) := by rw [IntWalk.i64_in _ (by omega)]; omega
        have q16 : IntKind.i64.wrap ((t : Int) - 16) = (n16 : Int) := by rw [IntWalk.i64_in _ (by omega)]; omega
        have b15 : (n15 : Int) < 64 := by omega
        have b2 : (n2 : Int) < 64 := by omega
        have b7 : (n7 : Int) < 64 := by omega
        have b16 : (n16 : Int) < 64 := by omega
        have z15 : (0 : Int) ≤ (n15 : Int) := by omega
        have z2 : (0 : Int) ≤ (n2 : Int) := by omega
        have z7 : (0 : Int) ≤ (n7 : Int) := by omega
        have z16 : (0 : Int) ≤ (n16 : Int) := by omega
        obtain ⟨l, hl⟩ : ∃ l, swp b t = l := ⟨_, rfl⟩
        have HLen : Aside0 (l.length = 64) := ⟨by rw [← hl]; exact swp_length b t⟩
        obtain ⟨y15, hy15⟩ : ∃ y, rd l (n15 : Int) = y := ⟨_, rfl⟩
        obtain ⟨y2, hy2⟩ : ∃ y, rd l (n2 : Int) = y := ⟨_, rfl⟩
        obtain ⟨y7, hy7⟩ : ∃ y, rd l (n7 : Int) = y := ⟨_, rfl⟩
        obtain ⟨y16, hy16⟩ : ∃ y, rd l (n16 : Int) = y := ⟨_, rfl⟩
        obtain ⟨x0, hx0⟩ : ∃ x, fw (blk16 b) t = x := ⟨_, rfl⟩
        have HX := Aside0.mk hx0
        have HF := Aside0.mk (show x0 = (sg1 y2 + y7 + sg0 y15 + y16) % 4294967296 by rw [← hx0, ← hy15, ← hy2, ← hy7, ← hy16, ← hl]; exact sched_next b t n15 n2 n7 n16 (by omega) hlt e15 e2 e7 e16)
        have HST := Aside0.mk (swp_step b t hlt)
        rw [hl, hx0] at HST
        rw [hl] at H3
        have c15 := (H3.out.u32 n15 (by rw [HLen.out]; omega)).1
        have c2 := (H3.out.u32 n2 (by rw [HLen.out]; omega)).1
        rw [hy15] at c15
        rw [hy2] at c2
        have HY7 := Aside0.mk hy7
        have HY16 := Aside0.mk hy16
        clear hx0 hy15 hy2 hy7 hy16 hl e15 e2 e7 e16
        go_wp2_with fail
        go_quiet (fail)
        clear c15 c2
        have HQ3 := Aside0.mk (show Blk (wr.drewN nq) g3 (u32s l) 112 from H3.out)
        have HQ2 := Aside0.mk (show Blk (wr.drewN nq) g2 (u32s (List.replicate 64 0)) 112 from H2.out)
        have HQB := Aside0.mk (pw_below_drewN HB.out nq)
        generalize wr.drewN nq = wq at HQ3 HQ2 HQB ⊢
        clear H3 H2 HB
        go_wp2_with fail
        have hy7 := HY7.out
        have hy16 := HY16.out
        refine start_ (n := 30) (S := fun w' => Blk w' g3 (u32s l) 112 ∧ Blk w' g2 (u32s (List.replicate 64 0)) 112 ∧ Below W.heap.size W w') (ds := [29]) #[false, false, false, false, false, false, false, false, false, false, false, false, false, false, false, false, false, false, false, false, false, false, false, false, false, false, false, false, false, false] (by kernel_rfl) rfl rfl ⟨HQ3.out, HQ2.out, below_drew HQB.out⟩ (fun hHeld => ?_)
        refine with_tabW r64_8.tab r64_8.bits (fun HT_ HW_ => ?_)
        generalize wq.drew = wd at hHeld ⊢
        have HH := Aside0.mk hHeld
        clear hHeld
        refine pure_ (i := 0) (N := some 56) (v := ?_) (a' := ?_) #[true, false, false, false, false, false, false, false, false, false, false, false, false, false, false, false, false, false, false, false, false, false, false, false, false, false, false, false, false, false] rfl rfl (any_of HT_.out (by kernel_rfl)) (fun _ _ _ h => h) (Or.inl ⟨by rfl, ?_⟩) ?_ ?_
        rotate_left
        · intro w'
          go_simp
          with_reducible rfl
        rotate_left
        · simp only [Act.put, List.setIfInBounds_toArray, List.set_cons_zero, List.set_cons_succ, i64_w, i32_w]
          rfl
        refine pure_ (i := 1) (N := some 57) (v := ?_) (a' := ?_) #[true, true, false, false, false, false, false, false, false, false, false, false, false, false, false, false, false, false, false, false, false, false, false, false, false, false, false, false, false, false] rfl rfl (any_of HT_.out (by kernel_rfl)) (fun _ _ _ h => h) (Or.inl ⟨by rfl, ?_⟩) ?_ ?_
        rotate_left
        · intro w'
          go_simp
          with_reducible rfl
        rotate_left
        · simp only [Act.put, List.setIfInBounds_toArray, List.set_cons_zero, List.set_cons_succ, i64_w, i32_w]
          rfl
        refine pure_ (i := 3) (N := some 59) (v := ?_) (a' := ?_) #[true, true, false, true, false, false, false, false, false, false, false, false, false, false, false, false, false, false, false, false, false, false, false, false, false, false, false, false, false, false] rfl rfl (any_of HT_.out (by kernel_rfl)) (fun _ _ _ h => h) (Or.inl ⟨by rfl, ?_⟩) ?_ ?_
        rotate_left
        · intro w'
          go_simp
          with_reducible rfl
        rotate_left
        · simp only [Act.put, List.setIfInBounds_toArray, List.set_cons_zero, List.set_cons_succ, i64_w, i32_w]
          rfl
        refine pure_ (i := 6) (N := some 62) (v := ?_) (a' := ?_) #[true, true, false, true, false, false, true, false, false, false, false, false, false, false, false, false, false, false, false, false, false, false, false, false, false, false, false, false, false, false] rfl rfl (any_of HT_.out (by kernel_rfl)) (fun _ _ _ h => h) (Or.inl ⟨by rfl, ?_⟩) ?_ ?_
        rotate_left
        · intro w'
          go_simp
          with_reducible rfl
        rotate_left
        · simp only [Act.put, List.setIfInBounds_toArray, List.set_cons_zero, List.set_cons_succ, i64_w, i32_w]
          rfl
        refine pure_ (i := 7) (N := some 63) (v := ?_) (a' := ?_) #[true, true, false, true, false, false, true, true, false, false, false, false, false, false, false, false, false, false, false, false, false, false, false, false, false, false, false, false, false, false] rfl rfl (any_of HT_.out (by kernel_rfl)) (fun _ _ _ h => h) (Or.inl ⟨by rfl, ?_⟩) ?_ ?_
        rotate_left
        · intro w'
          go_simp
          with_reducible rfl
        rotate_left
        · simp only [Act.put, List.setIfInBounds_toArray, List.set_cons_zero, List.set_cons_succ, i64_w, i32_w]
          rfl
        refine pure_ (i := 9) (N := some 65) (v := ?_) (a' := ?_) #[true, true, false, true, false, false, true, true, false, true, false, false, false, false, false, false, false, false, false, false, false, false, false, false, false, false, false, false, false, false] rfl rfl (any_of HT_.out (by kernel_rfl)) (fun _ _ _ h => h) (Or.inl ⟨by rfl, ?_⟩) ?_ ?_
        rotate_left
        · intro w'
          go_simp
          with_reducible rfl
        rotate_left
        · simp only [Act.put, List.setIfInBounds_toArray, List.set_cons_zero, List.set_cons_succ, i64_w, i32_w]
          rfl
        refine pure_ (i := 10) (N := some 66) (v := ?_) (a' := ?_) #[true, true, false, true, false, false, true, true, false, true, true, false, false, false, false, false, false, false, false, false, false, false, false, false, false, false, false, false, false, false] rfl rfl (any_of HT_.out (by kernel_rfl)) (fun _ _ _ h => h) (Or.inl ⟨by rfl, ?_⟩) ?_ ?_
        rotate_left
        · intro w'
          go_simp
          with_reducible rfl
        rotate_left
        · simp only [Act.put, List.setIfInBounds_toArray, List.set_cons_zero, List.set_cons_succ, i64_w, i32_w]
          rfl
        refine pure_ (i := 11) (N := some 67) (v := ?_) (a' := ?_) #[true, true, false, true, false, false, true, true, false, true, true, true, false, false, false, false, false, false, false, false, false, false, false, false, false, false, false, false, false, false] rfl rfl (any_of HT_.out (by kernel_rfl)) (fun _ _ _ h => h) (Or.inl ⟨by rfl, ?_⟩) ?_ ?_
        rotate_left
        · intro w'
          go_simp
          with_reducible rfl
        rotate_left
        · simp only [Act.put, List.setIfInBounds_toArray, List.set_cons_zero, List.set_cons_succ, i64_w, i32_w]
          rfl
        refine pure_ (i := 14) (N := some 70) (v := ?_) (a' := ?_) #[true, true, false, true, false, false, true, true, false, true, true, true, false, false, true, false, false, false, false, false, false, false, false, false, false, false, false, false, false, false] rfl rfl (any_of HT_.out (by kernel_rfl)) (fun _ _ _ h => h) (Or.inl ⟨by rfl, ?_⟩) ?_ ?_
        rotate_left
        · intro w'
          go_simp
          with_reducible rfl
        rotate_left
        · simp only [Act.put, List.setIfInBounds_toArray, List.set_cons_zero, List.set_cons_succ, i64_w, i32_w]
          rfl
        refine pure_ (i := 16) (N := some 72) (v := ?_) (a' := ?_) #[true, true, false, true, false, false, true, true, false, true, true, true, false, false, true, false, true, false, false, false, false, false, false, false, false, false, false, false, false, false] rfl rfl (any_of HT_.out (by kernel_rfl)) (fun _ _ _ h => h) (Or.inl ⟨by rfl, ?_⟩) ?_ ?_
        rotate_left
        · intro w'
          go_simp
          with_reducible rfl
        rotate_left
        · simp only [Act.put, List.setIfInBounds_toArray, List.set_cons_zero, List.set_cons_succ, i64_w, i32_w]
          rfl
        refine pure_ (i := 19) (N := some 75) (v := ?_) (a' := ?_) #[true, true, false, true, false, false, true, true, false, true, true, true, false, false, true, false, true, false, false, true, false, false, false, false, false, false, false, false, false, false] rfl rfl (any_of HT_.out (by kernel_rfl)) (fun _ _ _ h => h) (Or.inl ⟨by rfl, ?_⟩) ?_ ?_
        rotate_left
        · intro w'
          go_simp
          with_reducible rfl
        rotate_left
        · simp only [Act.put, List.setIfInBounds_toArray, List.set_cons_zero, List.set_cons_succ, i64_w, i32_w]
          rfl
        refine pure_ (i := 20) (N := some 76) (v := ?_) (a' := ?_) #[true, true, false, true, false, false, true, true, false, true, true, true, false, false, true, false, true, false, false, true, true, false, false, false, false, false, false, false, false, false] rfl rfl (any_of HT_.out (by kernel_rfl)) (fun _ _ _ h => h) (Or.inl ⟨by rfl, ?_⟩) ?_ ?_
        rotate_left
        · intro w'
          go_simp
          with_reducible rfl
        rotate_left
        · simp only [Act.put, List.setIfInBounds_toArray, List.set_cons_zero, List.set_cons_succ, i64_w, i32_w]
          rfl
        refine pure_ (i := 23) (N := some 79) (v := ?_) (a' := ?_) #[true, true, false, true, false, false, true, true, false, true, true, true, false, false, true, false, true, false, false, true, true, false, false, true, false, false, false, false, false, false] rfl rfl (any_of HT_.out (by kernel_rfl)) (fun _ _ _ h => h) (Or.inl ⟨by rfl, ?_⟩) ?_ ?_
        rotate_left
        · intro w'
          go_simp
          with_reducible rfl
        rotate_left
        · simp only [Act.put, List.setIfInBounds_toArray, List.set_cons_zero, List.set_cons_succ, i64_w, i32_w]
          rfl
        refine pure_ (i := 24) (N := some 80) (v := ?_) (a' := ?_) #[true, true, false, true, false, false, true, true, false, true, true, true, false, false, true, false, true, false, false, true, true, false, false, true, true, false, false, false, false, false] rfl rfl (any_of HT_.out (by kernel_rfl)) (fun _ _ _ h => h) (Or.inl ⟨by rfl, ?_⟩) ?_ ?_
        rotate_left
        · intro w'
          go_simp
          with_reducible rfl
        rotate_left
        · simp only [Act.put, List.setIfInBounds_toArray, List.set_cons_zero, List.set_cons_succ, i64_w, i32_w]
          rfl
        refine pure_ (i := 25) (N := some 81) (v := ?_) (a' := ?_) #[true, true, false, true, false, false, true, true, false, true, true, true, false, false, true, false, true, false, false, true, true, false, false, true, true, true, false, false, false, false] rfl rfl (any_of HT_.out (by kernel_rfl)) (fun _ _ _ h => h) (Or.inl ⟨by rfl, ?_⟩) ?_ ?_
        rotate_left
        · intro w'
          go_simp
          with_reducible rfl
        rotate_left
        · simp only [Act.put, List.setIfInBounds_toArray, List.set_cons_zero, List.set_cons_succ, i64_w, i32_w]
          rfl
        refine take_ (i := 12) (N := some 68) (v := ?_) (a' := ?_) #[true, true, false, true, false, false, true, true, false, true, true, true, true, false, true, false, true, false, false, true, true, false, false, true, true, true, false, false, false, false] rfl rfl (take_ofW HT_.out HW_.out (by kernel_rfl)) (fun _ _ _ h => h) (Or.inl ⟨by rfl, ?_⟩) HH.out ?_ ?_
        rotate_left
        · intro w' hS'
          have c0 := (hS'.1.u32 n7 (by rw [HLen.out]; omega)).1
          rw [hy7] at c0
          go_simp
          with_reducible rfl
        rotate_left
        · simp only [Act.put, List.setIfInBounds_toArray, List.set_cons_zero, List.set_cons_succ, i64_w, i32_w]
          rfl
        refine take_ (i := 26) (N := some 82) (v := ?_) (a' := ?_) #[true, true, false, true, false, false, true, true, false, true, true, true, true, false, true, false, true, false, false, true, true, false, false, true, true, true, true, false, false, false] rfl rfl (take_ofW HT_.out HW_.out (by kernel_rfl)) (fun _ _ _ h => h) (Or.inl ⟨by rfl, ?_⟩) HH.out ?_ ?_
        rotate_left
        · intro w' hS'
          have c0 := (hS'.1.u32 n16 (by rw [HLen.out]; omega)).1
          rw [hy16] at c0
          go_simp
          with_reducible rfl
        rotate_left
        · simp only [Act.put, List.setIfInBounds_toArray, List.set_cons_zero, List.set_cons_succ, i64_w, i32_w]
          rfl
        refine one_ (i := 2) (N := some 58) #[true, true, true, true, false, false, true, true, false, true, true, true, true, false, true, false, true, false, false, true, true, false, false, true, true, true, true, false, false, false] rfl rfl (one_of HT_.out (by kernel_rfl)) (by decide) (fun K hK => ?_)
        refine goes_ Tryz.func65 (by kernel_rfl) rfl #[.int .u32 y2, .int .i64 17] (by rfl) rfl rfl (by simp only [List.map_toArray, List.map_cons, List.map_nil]; rfl) ?_
        refine (rotate_any y2 17 _ (by omega) (by omega)).mono ?_
        rintro e w' ⟨rfl, nd, rfl⟩
        refine ⟨_, rfl, hK.out _ _ ⟨HH.out.1, HH.out.2.1, pw_below_drewN HH.out.2.2 _⟩ (fun hHeld => ?_)⟩
        have HH2 := Aside0.mk hHeld
        clear hHeld HH
        have HH := HH2
        clear HH2
        clear hK K
        refine norm_ (a' := ?_) ?_ ?_
        rotate_left
        · show Act.put _ (some 58) _ = _
          simp only [Act.put, List.setIfInBounds_toArray, List.set_cons_zero, List.set_cons_succ, i64_w, i32_w]
          rfl
        refine one_ (i := 4) (N := some 60) #[true, true, true, true, true, false, true, true, false, true, true, true, true, false, true, false, true, false, false, true, true, false, false, true, true, true, true, false, false, false] rfl rfl (one_of HT_.out (by kernel_rfl)) (by decide) (fun K hK => ?_)
        refine goes_ Tryz.func65 (by kernel_rfl) rfl #[.int .u32 y2, .int .i64 19] (by rfl) rfl rfl (by simp only [List.map_toArray, List.map_cons, List.map_nil]; rfl) ?_
        refine (rotate_any y2 19 _ (by omega) (by omega)).mono ?_
        rintro e w' ⟨rfl, nd, rfl⟩
        refine ⟨_, rfl, hK.out _ _ ⟨HH.out.1, HH.out.2.1, pw_below_drewN HH.out.2.2 _⟩ (fun hHeld => ?_)⟩
        have HH2 := Aside0.mk hHeld
        clear hHeld HH
        have HH := HH2
        clear HH2
        clear hK K
        refine norm_ (a' := ?_) ?_ ?_
        rotate_left
        · show Act.put _ (some 60) _ = _
          simp only [Act.put, List.setIfInBounds_toArray, List.set_cons_zero, List.set_cons_succ, i64_w, i32_w]
          rfl
        refine pure_ (i := 5) (N := some 61) (v := ?_) (a' := ?_) #[true, true, true, true, true, true, true, true, false, true, true, true, true, false, true, false, true, false, false, true, true, false, false, true, true, true, true, false, false, false] rfl rfl (any_of HT_.out (by kernel_rfl)) (fun _ _ _ h => h) (Or.inl ⟨by rfl, ?_⟩) ?_ ?_
        rotate_left
        · intro w'
          go_simp
          with_reducible rfl
        rotate_left
        · simp only [Act.put, List.setIfInBounds_toArray, List.set_cons_zero, List.set_cons_succ, i64_w, i32_w]
          rfl
        refine pure_ (i := 8) (N := some 64) (v := ?_) (a' := ?_) #[true, true, true, true, true, true, true, true, true, true, true, true, true, false, true, false, true, false, false, true, true, false, false, true, true, true, true, false, false, false] rfl rfl (any_of HT_.out (by kernel_rfl)) (fun _ _ _ h => h) (Or.inl ⟨by rfl, ?_⟩) ?_ ?_
        rotate_left
        · intro w'
          go_simp
          with_reducible rfl
        rotate_left
        · simp only [Act.put, List.setIfInBounds_toArray, List.set_cons_zero, List.set_cons_succ, i64_w, i32_w]
          rfl
        refine pure_ (i := 13) (N := some 69) (v := ?_) (a' := ?_) #[true, true, true, true, true, true, true, true, true, true, true, true, true, true, true, false, true, false, false, true, true, false, false, true, true, true, true, false, false, false] rfl rfl (any_of HT_.out (by kernel_rfl)) (fun _ _ _ h => h) (Or.inl ⟨by rfl, ?_⟩) ?_ ?_
        rotate_left
        · intro w'
          go_simp
          with_reducible rfl
        rotate_left
        · simp only [Act.put, List.setIfInBounds_toArray, List.set_cons_zero, List.set_cons_succ, i64_w, i32_w]
          rfl
        refine one_ (i := 15) (N := some 71) #[true, true, true, true, true, true, true, true, true, true, true, true, true, true, true, true, true, false, false, true, true, false, false, true, true, true, true, false, false, false] rfl rfl (one_of HT_.out (by kernel_rfl)) (by decide) (fun K hK => ?_)
        refine goes_ Tryz.func65 (by kernel_rfl) rfl #[.int .u32 y15, .int .i64 7] (by rfl) rfl rfl (by simp only [List.map_toArray, List.map_cons, List.map_nil]; rfl) ?_
        refine (rotate_any y15 7 _ (by omega) (by omega)).mono ?_
        rintro e w' ⟨rfl, nd, rfl⟩
        refine ⟨_, rfl, hK.out _ _ ⟨HH.out.1, HH.out.2.1, pw_below_drewN HH.out.2.2 _⟩ (fun hHeld => ?_)⟩
        have HH2 := Aside0.mk hHeld
        clear hHeld HH
        have HH := HH2
        clear HH2
        clear hK K
        refine norm_ (a' := ?_) ?_ ?_
        rotate_left
        · show Act.put _ (some 71) _ = _
          simp only [Act.put, List.setIfInBounds_toArray, List.set_cons_zero, List.set_cons_succ, i64_w, i32_w]
          rfl
        refine one_ (i := 17) (N := some 73) #[true, true, true, true, true, true, true, true, true, true, true, true, true, true, true, true, true, true, false, true, true, false, false, true, true, true, true, false, false, false] rfl rfl (one_of HT_.out (by kernel_rfl)) (by decide) (fun K hK => ?_)
        refine goes_ Tryz.func65 (by kernel_rfl) rfl #[.int .u32 y15, .int .i64 18] (by rfl) rfl rfl (by simp only [List.map_toArray, List.map_cons, List.map_nil]; rfl) ?_
        refine (rotate_any y15 18 _ (by omega) (by omega)).mono ?_
        rintro e w' ⟨rfl, nd, rfl⟩
        refine ⟨_, rfl, hK.out _ _ ⟨HH.out.1, HH.out.2.1, pw_below_drewN HH.out.2.2 _⟩ (fun hHeld => ?_)⟩
        have HH2 := Aside0.mk hHeld
        clear hHeld HH
        have HH := HH2
        clear HH2
        clear hK K
        refine norm_ (a' := ?_) ?_ ?_
        rotate_left
        · show Act.put _ (some 73) _ = _
          simp only [Act.put, List.setIfInBounds_toArray, List.set_cons_zero, List.set_cons_succ, i64_w, i32_w]
          rfl
        refine pure_ (i := 18) (N := some 74) (v := ?_) (a' := ?_) #[true, true, true, true, true, true, true, true, true, true, true, true, true, true, true, true, true, true, true, true, true, false, false, true, true, true, true, false, false, false] rfl rfl (any_of HT_.out (by kernel_rfl)) (fun _ _ _ h => h) (Or.inl ⟨by rfl, ?_⟩) ?_ ?_
        rotate_left
        · intro w'
          go_simp
          with_reducible rfl
        rotate_left
        · simp only [Act.put, List.setIfInBounds_toArray, List.set_cons_zero, List.set_cons_succ, i64_w, i32_w]
          rfl
        refine pure_ (i := 21) (N := some 77) (v := ?_) (a' := ?_) #[true, true, true, true, true, true, true, true, true, true, true, true, true, true, true, true, true, true, true, true, true, true, false, true, true, true, true, false, false, false] rfl rfl (any_of HT_.out (by kernel_rfl)) (fun _ _ _ h => h) (Or.inl ⟨by rfl, ?_⟩) ?_ ?_
        rotate_left
        · intro w'
          go_simp
          with_reducible rfl
        rotate_left
        · simp only [Act.put, List.setIfInBounds_toArray, List.set_cons_zero, List.set_cons_succ, i64_w, i32_w]
          rfl
        refine pure_ (i := 22) (N := some 78) (v := ?_) (a' := ?_) #[true, true, true, true, true, true, true, true, true, true, true, true, true, true, true, true, true, true, true, true, true, true, true, true, true, true, true, false, false, false] rfl rfl (any_of HT_.out (by kernel_rfl)) (fun _ _ _ h => h) (Or.inl ⟨by rfl, ?_⟩) ?_ ?_
        rotate_left
        · intro w'
          go_simp
          with_reducible rfl
        rotate_left
        · simp only [Act.put, List.setIfInBounds_toArray, List.set_cons_zero, List.set_cons_succ, i64_w, i32_w]
          rfl
        refine pure_ (i := 27) (N := some 83) (v := ?_) (a' := ?_) #[true, true, true, true, true, true, true, true, true, true, true, true, true, true, true, true, true, true, true, true, true, true, true, true, true, true, true, true, false, false] rfl rfl (any_of HT_.out (by kernel_rfl)) (fun _ _ _ h => h) (Or.inl ⟨by rfl, ?_⟩) ?_ ?_
        rotate_left
        · intro w'
          go_simp
          with_reducible rfl
        rotate_left
        · simp only [Act.put, List.setIfInBounds_toArray, List.set_cons_zero, List.set_cons_succ, i64_w, i32_w]
          rfl
        refine pure_ (i := 28) (N := some 84) (v := ?_) (a' := ?_) #[true, true, true, true, true, true, true, true, true, true, true, true, true, true, true, true, true, true, true, true, true, true, true, true, true, true, true, true, true, false] rfl rfl (any_of HT_.out (by kernel_rfl)) (fun _ _ _ h => h) (Or.inl ⟨by rfl, ?_⟩) ?_ ?_
        rotate_left
        · intro w'
          go_simp
          with_reducible rfl
        rotate_left
        · simp only [Act.put, List.setIfInBounds_toArray, List.set_cons_zero, List.set_cons_succ, i64_w, i32_w]
          rfl
        refine last_ (i := 29) (N := none) #[true, true, true, true, true, true, true, true, true, true, true, true, true, true, true, true, true, true, true, true, true, true, true, true, true, true, true, true, true, true] rfl rfl (one_of HT_.out (by kernel_rfl)) (by decide) (fun K hK => ?_)
        refine store_u32_step (x := x0) (i := t) rfl rfl rfl rfl (by rw [HF.out]; exact congrArg (Value.int .u32) (wrap4 (sg1 y2) y7 (sg0 y15) y16)) HH.out.1 (by rw [HLen.out]; omega) size110 ?_
        intro w9 hw9
        have HD1 := Aside0.mk (show Blk w9 g3 (u32s (l.set t x0)) 112 from hw9 ▸ HH.out.1.put t x0)
        have HD2 := Aside0.mk (show Blk w9 g2 (u32s (List.replicate 64 0)) 112 from hw9 ▸ HH.out.2.1.set_ne (p := ⟨g3, t, none⟩) _ (by have := G3.out; show g2 ≠ g3; omega))
        have HD3 := Aside0.mk (show Below W.heap.size W w9 from hw9 ▸ below_set HH.out.2.2 (by have := G3.out; have := G2.out; omega))
        clear hw9
        refine hK.out _ _ ?_
        clear hK K
        refine done_ (done_of HT_.out (by kernel_rfl)) ?_
        clear hy7 hy16 HH HQ3 HQ2 HQB
        go_wp2_with fail
        go_roundg (gk - 1)
        case measure => have := HG.out; omega
        case rel => exact ⟨t + 1, by omega, by go_num, by have := HG.out; unfold Hid; omega, ⟨by rw [← HST.out]; exact HD1.out⟩, HD2, HD3⟩
    · obtain rfl : t = 64 := by omega
      rw [HR.out] at H3
      go_wp2_with (first
        | ((with_reducible refine gate_dst (N := 85) rfl ?_); refine load_blk rfl rfl rfl H3.out Tryz.underlying112 rfl (by rw [hrs.out]; exact size112) ?_)
        | ((with_reducible refine gate_store (t := 112) (p := 2) (v := .tmp 85) rfl ?_); refine store_blk rfl rfl rfl rfl rfl H2.out (by rw [hrs.out]; exact size112) (by rw [hrs.out]; rfl) hr1.out ?_))
      refine bodyPost_ret (results_cell_row rfl _ _ g2 112 R (0, 0) _ ?hp (H2.out.setRow R) Tryz.underlying112 rfl (by rw [hrs.out]; exact size112)) rfl ?_
      case hp => rfl
      exact ⟨rfl, below_setRow HB.out (by rw [G2.out]; exact Nat.le_refl _) _⟩

end Go.Proofs.YtceopllngemnnaaGreatDoor


/-
  SHA-256's padding of the document's answer, and blocks put together: plain lemmas and what padded returns.
-/
namespace Go.Proofs.YtceopllngemnnaaGreatDoor
open Go.RowKit Go.Proofs.YtceopllngemnnaaGreatDoorW.PrintWords Go.Proofs.YtceopllngemnnaaGreatDoorW.PrintLast Go.Proofs.YtceopllngemnnaaGreatDoorW.PrintMore Go.Proofs.YtceopllngemnnaaGreatDoor.PRef

theorem word_append (l m : List Int) (t : Nat) (h : 4 * t + 3 < l.length) : word (l ++ m) t = word l t := by
  have e : ∀ i : Int, 0 ≤ i → i < l.length → rd (l ++ m) i = rd l i := by
    intro i h0 hi
    simp only [rd, List.getD_eq_getElem?_getD, List.getElem?_append_left (show i.toNat < l.length by omega)]
  unfold word
  rw [e _ (by omega) (by omega), e _ (by omega) (by omega), e _ (by omega) (by omega), e _ (by omega) (by omega)]
theorem blk16_append (l m : List Int) (h : 64 ≤ l.length) : blk16 (l ++ m) = blk16 l := by
  unfold blk16
  apply List.map_congr_left
  intro t ht
  exact word_append l m t (by have := List.mem_range.mp ht; omega)
theorem eat_append : ∀ (k : Nat) (s : St) (l m : List Int), l.length ≤ k → eat s (l ++ m) = eat (eat s l).1 ((eat s l).2 ++ m) := by
  intro k
  induction k with
  | zero => intro s l m h; rw [eat_end s l (by omega)]
  | succ k ih =>
    intro s l m h
    by_cases h64 : 64 ≤ l.length
    · rw [eat_more s (l ++ m) (by rw [List.length_append]; omega), eat_more s l h64, blk16_append l m h64, List.drop_append_of_le_length h64]
      exact ih _ _ _ (by rw [List.length_drop]; omega)
    · rw [eat_end s l h64]
theorem sha_whole (b : List Int) : shaL b = digL (eat st0 (b ++ padL b.length)).1 := by
  unfold shaL
  rw [eat_append b.length st0 b _ (Nat.le_refl _)]

theorem padded_l1 (n : Nat) (hn : n ≤ 3000000) : ∀ (k f : Nat) (q : List Int), k ≤ 8 → k < f → q.length ≤ 4000000 + (8 - k) →
    bulletinref05_padded.l1 f q ((n : Int) * 8) ((k : Int) - 1) = some (q ++ lenL n k) := by
  intro k
  induction k with
  | zero =>
    intro f q hk hf hq
    obtain ⟨f, rfl⟩ : ∃ m, f = m + 1 := ⟨f - 1, by omega⟩
    simp only [bulletinref05_padded.l1]
    rw [if_neg (by simp)]
    simp [lenL]
  | succ k ih =>
    intro f q hk hf hq
    obtain ⟨f, rfl⟩ : ∃ m, f = m + 1 := ⟨f - 1, by omega⟩
    have e : ((k + 1 : Nat) : Int) - 1 = (k : Int) := by omega
    have w1 : wrap64 (8 * (k : Int)) = 8 * (k : Int) := by unfold wrap64; omega
    have w2 : wrap64 ((k : Int) - 1) = (k : Int) - 1 := by unfold wrap64; omega
    have hsh : shr .u64 ((n : Int) * 8) (8 * (k : Int)) % 256 = lenB n k := by
      have h1 : min (8 * (k : Int)).toNat IntKind.u64.bits = 8 * k := by simp only [IntKind.bits]; omega
      unfold shr lenB
      rw [h1]
    simp only [bulletinref05_padded.l1]
    rw [e, if_pos (by omega), w1, if_pos (by omega), if_pos (by omega), w2, hsh, ih f (q ++ [lenB n k]) (by omega) (by omega) (by rw [List.length_append]; simp; omega)]
    simp [lenL]

theorem padded_l0 (b : List Int) (hb : b.length ≤ 1500000) : ∀ (d f j : Nat), zN b.length - j = d → j ≤ zN b.length → d + 10 < f →
    bulletinref05_padded.l0 f b (b ++ 128 :: List.replicate j 0) = some (b ++ padL b.length) := by
  intro d
  induction d with
  | zero =>
    intro f j h1 h2 h3
    obtain ⟨f, rfl⟩ : ∃ m, f = m + 1 := ⟨f - 1, by omega⟩
    have hj : j = zN b.length := by omega
    have hl : (b ++ 128 :: List.replicate j (0 : Int)).length = b.length + (j + 1) := by simp
    have ht := (pad_test b.length j (by omega) h2).mpr hj
    have w : IntKind.u64.wrap ((IntKind.u64.wrap ((b.length : Int))) * 8) = (b.length : Int) * 8 := by
      simp only [IntKind.wrap, IntKind.bits, IntKind.signed]; simp; omega
    simp only [bulletinref05_padded.l0]
    rw [hl, if_pos (by push_cast at ht ⊢; omega), w]
    have hz : zN b.length < 64 := by unfold zN; omega
    have := padded_l1 b.length (by omega) 8 f (b ++ 128 :: List.replicate j 0) (Nat.le_refl _) (by omega) (by rw [hl]; omega)
    have e7 : ((8 : Nat) : Int) - 1 = 7 := rfl
    rw [e7] at this
    rw [this, hj, List.append_assoc]
    rfl
  | succ d ih =>
    intro f j h1 h2 h3
    obtain ⟨f, rfl⟩ : ∃ m, f = m + 1 := ⟨f - 1, by omega⟩
    have hl : (b ++ 128 :: List.replicate j (0 : Int)).length = b.length + (j + 1) := by simp
    have ht : ¬ ((b.length : Int) + (j + 1 : Nat)) % 64 = 56 := fun h => by have := (pad_test b.length j (by omega) h2).mp h; omega
    have hz : zN b.length < 64 := by unfold zN; omega
    simp only [bulletinref05_padded.l0]
    rw [hl, if_neg (by push_cast at ht ⊢; omega), if_pos (by omega)]
    have := ih f (j + 1) (by omega) (by omega) (by omega)
    rw [← this]
    congr 1
    rw [List.replicate_succ', List.append_assoc]
    rfl

theorem padded_f (b : List Int) (hb : b.length ≤ 1500000) : bulletinref05_padded.f 100 b = some (b ++ padL b.length) := by
  unfold bulletinref05_padded.f
  simp only [Option.bind_some, List.nil_append, List.length_nil]
  rw [if_pos (by omega), if_pos (by omega)]
  have hz : zN b.length < 64 := by unfold zN; omega
  exact padded_l0 b hb (zN b.length) 100 0 rfl (Nat.zero_le _) (by omega)

theorem padded_any (A : Option Addr) (c m : Nat) (b : List Int) (W : World) (hC : Kd.C (Kd.int .u8) W A b.length b) (hm : m = b.length) (hc : b.length ≤ c) (hb : b.length ≤ 1500000) :
    Calls Tryz.prog 63 #[.slice A m c] W fun e w' => ∃ v, e = .returned v ∧ Kd.R (Kd.int .u8) 5 w' W.heap.size (fun _ => True) v (b ++ padL b.length) ∧ Below W.heap.size W w' := by
  subst hm
  exact bulletinref05_padded.calls 100 A c b _ W hC hc (padded_f b hb)

theorem pad_whole (b : List Int) : (b ++ padL b.length).length % 64 = 0 := by
  unfold padL
  simp only [List.length_append, List.length_cons, List.length_replicate, lenL_length]
  unfold zN
  omega

end Go.Proofs.YtceopllngemnnaaGreatDoor


/-
  SHA-256's Sum of the document's answer: what it returns. For up to a million bytes.
-/
namespace Go.Proofs.YtceopllngemnnaaGreatDoor
open Go.RowKit Go.Proofs.YtceopllngemnnaaGreatDoorW.PrintWords Go.Proofs.YtceopllngemnnaaGreatDoorW.PrintLast Go.Proofs.YtceopllngemnnaaGreatDoorW.PrintMore Go.Proofs.YtceopllngemnnaaGreatDoor.PRef

theorem zero33 : (Tryz.prog.info? 33).map (fun i => (i.zero, i.size)) = some (some (.agg (u8s (List.replicate 32 0))), 32) := by kernel_rfl
theorem size33 : (Tryz.prog.info? 33).map (·.size) = some 32 := by kernel_rfl
theorem zero111 : (Tryz.prog.info? 111).map (fun i => (i.zero, i.size)) = some (some (.agg (u32s (List.replicate 8 0))), 8) := by kernel_rfl
theorem size111 : (Tryz.prog.info? 111).map (·.size) = some 8 := by kernel_rfl
/-- The state while the words are added. -/
def mixL (s c : St) (i : Nat) : List Int := (List.range 8).map fun j => if j < i then (rd s.list (j : Int) + rd c.list (j : Int)) % 4294967296 else rd s.list (j : Int)
theorem mix_length (s c : St) (i : Nat) : (mixL s c i).length = 8 := by simp [mixL]
theorem mix_zero (s c : St) : s.list = mixL s c 0 := rfl
theorem mix_full (s c : St) : mixL s c 8 = (plusS c s).list := by
  show [_, _, _, _, _, _, _, _] = [_, _, _, _, _, _, _, _]
  simp only [Nat.reduceLT, if_true, rd, St.list, plusS]
  simp only [List.cons.injEq, and_true]
  refine ⟨?_, ?_, ?_, ?_, ?_, ?_, ?_, ?_⟩ <;> exact congrArg (· % 4294967296) (Int.add_comm _ _)
theorem mix_step (s c : St) (i : Nat) (h : i < 8) : (mixL s c i).set i ((rd (mixL s c i) (i : Int) + rd c.list (i : Int)) % 4294967296) = mixL s c (i + 1) := by
  have e : rd (mixL s c i) (i : Int) = rd s.list (i : Int) := by simp [mixL, rd, List.getD_eq_getElem?_getD, h]
  rw [e]
  apply List.ext_getElem
  · simp [mixL]
  · intro j h1 h2
    simp only [mixL, List.getElem_set, List.getElem_map, List.getElem_range]
    by_cases q : i = j
    · subst q; simp
    · rw [if_neg q]
      by_cases h : j < i
      · rw [if_pos h, if_pos (by omega)]
      · rw [if_neg h, if_neg (by omega)]

theorem eat_next (s : St) (P B : List Int) (at_ : Nat) (h : at_ + 64 ≤ P.length) (hB : (P.drop at_).take 64 = B) (he : eat s (P.drop at_) = eat st0 P) : eat (procS s (blk16 B)) (P.drop (at_ + 64)) = eat st0 P := by
  have hl : (P.drop at_).length = P.length - at_ := List.length_drop
  have hs : P.drop at_ = B ++ (P.drop at_).drop 64 := by rw [← hB]; exact (List.take_append_drop 64 _).symm
  have hb : blk16 (P.drop at_) = blk16 B := by
    rw [hs]
    exact blk16_append B _ (by rw [← hB, List.length_take, hl]; omega)
  rw [← he, eat_more s _ (by omega), hb, List.drop_drop]
def outL (s : St) (i : Nat) : List Int := (List.range 32).map fun j => if j < i then rd s.list ((j / 4 : Nat) : Int) / 2 ^ (24 - 8 * (j % 4)) % 256 else 0
theorem out_length (s : St) (i : Nat) : (outL s i).length = 32 := by simp [outL]
theorem out_zero (s : St) : List.replicate 32 0 = outL s 0 := rfl
theorem out_full (s : St) : digL s = outL s 32 := by
  show s.list.flatMap bytes4 = _
  simp [outL, bytes4, St.list, rd, List.range, List.range.loop]
theorem out_step (s : St) (i : Nat) (h : i < 32) : (outL s i).set i (rd s.list ((i / 4 : Nat) : Int) / 2 ^ (24 - 8 * (i % 4)) % 256) = outL s (i + 1) := by
  apply List.ext_getElem
  · simp [outL]
  · intro j h1 h2
    simp only [outL, List.getElem_set, List.getElem_map, List.getElem_range]
    by_cases q : i = j
    · subst q; simp
    · rw [if_neg q]
      by_cases h : j < i
      · rw [if_pos h, if_pos (by omega)]
      · rw [if_neg h, if_neg (by omega)]

/-- What the loops of Sum keep: the result's cells, the constants, the padded bytes, what lies below. -/
def Keeps (W wx : World) (g2 g4 : Nat) (Ap : Option Addr) (P : List Int) : Prop :=
  Blk wx g2 (u8s (List.replicate 32 0)) 33 ∧ Blk wx g4 (u32s kT) 112 ∧ Kd.C (Kd.int .u8) wx Ap P.length P ∧ Below W.heap.size W wx
theorem Keeps.below {W wx wy : World} {g2 g4 : Nat} {Ap : Option Addr} {P : List Int} (h : Keeps W wx g2 g4 Ap P) (hb : Below wx.heap.size wx wy) : Keeps W wy g2 g4 Ap P :=
  ⟨h.1.below hb, h.2.1.below hb, Kd.C_below h.2.2.1 hb, h.2.2.2.trans (hb.mono h.2.2.2.size)⟩
theorem Keeps.keep {W wx wy : World} {g2 g4 g : Nat} {Ap : Option Addr} {P : List Int} (h : Keeps W wx g2 g4 Ap P) (hk : KeepBut wx wy g none) (hb : Below W.heap.size W wx → Below W.heap.size W wy) (h2 : g2 ≠ g) (h4 : g4 ≠ g) (hp : ∀ ad, Ap = some ad → ad.block ≠ g) : Keeps W wy g2 g4 Ap P :=
  ⟨hk.blk h.1 h2 (by simp), hk.blk h.2.1 h4 (by simp), Kd.C_keep (0 : Int) h.2.2.1 hk (fun ad e _ => hp ad e), hb h.2.2.2⟩

section
variable {P : Program} {ops : Array Oper} {rest : List Oper} {o : Oper} {a : Act} {Q : Exit → Act → World → Prop}
theorem KeepBut.setRow (W : World) (g : Nat) (cs : Array Value) : KeepBut W (W.setRow g cs) g none := ⟨by simp, fun i _ hne _ => setRow_other W g i cs hne⟩
theorem store_blk_k {W : World} {g t t' : Nat} {old cs : Array Value} (hgd : o.guard = none) {p : Tmp} {x : Operand} (ho : o.op = .store t (.tmp p) x) (hN : o.dst = none) (haddr : a.eval (.tmp p) = .pointer (some ⟨g, 0, none⟩)) (hv : a.eval x = .agg cs) (h : Blk W g old t')
    (hi : (P.info? t).map (·.size) = some cs.size) (hs : old.size = cs.size) (h1 : cs.all (·.oneCell') = true)
    (hk : ∀ w1, Blk w1 g cs t' → KeepBut W w1 g none → (∀ w0 base, base ≤ g → Below base w0 W → Below base w0 w1) → wpList P ops Q rest a w1) : wpList P ops Q (o :: rest) a W :=
  store_blk hgd ho hN haddr hv h hi hs h1 (hk _ (h.setRow cs) (KeepBut.setRow W g cs) (fun w0 base hb hw => below_setRow hw hb cs))
end
theorem Blk.keep {W W' : World} {g g' t : Nat} {cs : Array Value} (h : Blk W g cs t) (hk : KeepBut W W' g' none) (hne : g ≠ g') : Blk W' g cs t := hk.blk h hne (by simp)
theorem list_cells {W : World} {g : Nat} {s : St} (h : Blk W g (u32s s.list) 111) :
    W.cell? ⟨g, 0, none⟩ = some (.int .u32 s.a) ∧ W.cell? ⟨g, 1, none⟩ = some (.int .u32 s.b) ∧ W.cell? ⟨g, 2, none⟩ = some (.int .u32 s.c) ∧ W.cell? ⟨g, 3, none⟩ = some (.int .u32 s.d) ∧
    W.cell? ⟨g, 4, none⟩ = some (.int .u32 s.e) ∧ W.cell? ⟨g, 5, none⟩ = some (.int .u32 s.f) ∧ W.cell? ⟨g, 6, none⟩ = some (.int .u32 s.g) ∧ W.cell? ⟨g, 7, none⟩ = some (.int .u32 s.h) :=
  ⟨by rw [Lib.cell_of_heap h]; rfl, by rw [Lib.cell_of_heap h]; rfl, by rw [Lib.cell_of_heap h]; rfl, by rw [Lib.cell_of_heap h]; rfl, by rw [Lib.cell_of_heap h]; rfl, by rw [Lib.cell_of_heap h]; rfl, by rw [Lib.cell_of_heap h]; rfl, by rw [Lib.cell_of_heap h]; rfl⟩

set_option maxHeartbeats 1500000 in
set_option maxRecDepth 100000 in
theorem rsum_any (A : Option Addr) (m c : Nat) (b : List Int) (W : World) (hb : Kd.C (Kd.int .u8) W A b.length b) (hm : m = b.length) (hc : b.length ≤ c) (hl : b.length ≤ 1500000) (hby : ∀ x ∈ b, 0 ≤ x ∧ x ≤ 255) :
    Calls Tryz.prog 37 #[.slice A m c] W fun e w' => e = .returned (.agg (u8s (shaL b))) ∧ Below W.heap.size W w' := by
  obtain ⟨P, hP⟩ : ∃ P, b ++ padL b.length = P := ⟨_, rfl⟩
  obtain ⟨R, hR⟩ : ∃ R, u8s (shaL b) = R := ⟨_, rfl⟩
  have HR := Aside0.mk (show u8s (digL (eat st0 P).1) = R by rw [← hP, ← sha_whole, hR])
  have HP64 := Aside0.mk (show P.length % 64 = 0 by rw [← hP]; exact pad_whole b)
  have HPl := Aside0.mk (show P.length ≤ 1500100 by rw [← hP, List.length_append]; have := padL_length b.length; omega)
  have HPby := Aside0.mk (show ∀ x ∈ P, 0 ≤ x ∧ x ≤ 255 by rw [← hP]; exact fun x hx => (List.mem_append.mp hx).elim (hby x) (padL_range _ (by omega) x))
  have HC := Aside0.mk hb
  have HM := Aside0.mk hm
  have HCc := Aside0.mk hc
  have HPP := Aside0.mk hP
  rw [hR]
  clear hR hb hby hm hP hc
  go_enter Tryz.func37, Tryz.ntmps37
  go_wp2_with (first
    | ((with_reducible refine gate_dst (N := 2) rfl ?_); refine alloc_blk rfl rfl rfl zero33 ?_; intro g2 w1 hg hz hb; have G2 := Aside0.mk hg; have A2 := Aside0.mk hz; have B1 := Aside0.mk hb; clear hg hz hb)
    | ((with_reducible refine gate_dst (N := 3) rfl ?_); refine alloc_blk rfl rfl rfl zero111 ?_; intro g3 w2 hg hz hb; have G3 := Aside0.mk (show g2 < g3 by rw [hg]; exact blk_lt A2.out); have Z3 := Aside0.mk hz; have A2' := Aside0.mk (A2.out.below hb); have B2 := Aside0.mk (below_step B1.out hb); clear hg hz hb A2 B1)
    | ((with_reducible refine gate_store (t := 111) (p := 3) (v := .tmp 15) rfl ?_); refine store_blk_l (cs := u32s st0.list) rfl rfl rfl rfl rfl Z3.out size111 rfl (u32s_one _) ?_; intro w3 hz hb hn; have A3 := Aside0.mk hz; have E2 := Aside0.mk (hn _ _ _ A2'.out (by have := G3.out; omega)); have B3 := Aside0.mk (hb _ _ (by have := G3.out; have := G2.out; omega) B2.out); clear hz hb hn Z3 A2' B2))
  refine (rconst_any _).mono ?_
  rintro e w4 ⟨rfl, hb⟩
  have C3 := Aside0.mk (A3.out.below hb)
  have C2 := Aside0.mk (E2.out.below hb)
  have CB := Aside0.mk (below_step B3.out hb)
  clear hb A3 E2 B3
  obtain ⟨K, hK⟩ : ∃ K, u32s kT = K := ⟨_, rfl⟩
  have hks : Aside0 (K.size = 64) := ⟨hK ▸ rfl⟩
  have hk1 : Aside0 (K.all (·.oneCell') = true) := ⟨hK ▸ u32s_one _⟩
  have HK := Aside0.mk hK
  rw [hK]
  clear hK
  go_wp2_with (first
    | ((with_reducible refine gate_dst (N := 4) rfl ?_); refine alloc_blk rfl rfl rfl zero112 ?_; intro g4 w5 hg hz hb; have G4 := Aside0.mk (show g2 < g4 ∧ g3 < g4 by rw [hg]; exact ⟨blk_lt C2.out, blk_lt C3.out⟩); have Z4 := Aside0.mk hz; have D3 := Aside0.mk (C3.out.below hb); have D2 := Aside0.mk (C2.out.below hb); have DB := Aside0.mk (below_step CB.out hb); clear hg hz hb C3 C2 CB)
    | ((with_reducible refine gate_store (t := 112) (p := 4) (v := .tmp 16) rfl ?_); refine store_blk_l rfl rfl rfl rfl rfl Z4.out (by rw [hks.out]; exact size112) (by rw [hks.out]; rfl) hk1.out ?_; intro w6 hz hb hn; have F4 := Aside0.mk hz; have F2 := Aside0.mk (hn _ _ _ D2.out (by have := G4.out; omega)); have F3 := Aside0.mk (hn _ _ _ D3.out (by have := G4.out; omega)); have FB := Aside0.mk (hb _ _ (by have := G4.out; have := G2.out; omega) DB.out); clear hz hb hn Z4 D3 D2 DB; rw [← HK.out] at F4))
  refine (padded_any A c m b _ (Kd.C_below HC.out FB.out) HM.out HCc.out hl).mono ?_
  rintro e w7 ⟨v5, rfl, hr, hb⟩
  rw [HPP.out] at hr
  obtain ⟨Ap, cp, rfl, hcp, hCp⟩ := Kd.R_reads hr
  have hnp := ne_of_fresh (g := g3) hr (blk_lt F3.out)
  have HNP := Aside0.mk hnp
  have HCP := Aside0.mk hcp
  have H3 := Aside0.mk (F3.out.below hb)
  have HKS := Aside0.mk (show Keeps W w7 g2 g4 Ap P from ⟨F2.out.below hb, F4.out.below hb, hCp, below_step FB.out hb⟩)
  clear hr hcp hCp hnp hb F2 F3 F4 FB HC HM HCc HPP
  obtain ⟨np, hnp⟩ : ∃ n, P.length = n := ⟨_, rfl⟩
  have HNL := Aside0.mk hnp
  rw [hnp] at HP64 HPl HCP ⊢
  clear hnp
  go_wp2_with fail
  go_loopg [6] np (fun gf x6 wx => ∃ (at_ : Nat) (s : St), at_ ≤ np ∧ x6 = .int .i64 at_ ∧ Hid (np ≤ at_ + gf) ∧ Aside0 (at_ % 64 = 0) ∧ Aside0 (eat s (P.drop at_) = eat st0 P) ∧ Aside0 (Blk wx g3 (u32s s.list) 111) ∧ Aside0 (Keeps W wx g2 g4 Ap P))
  case atStart => exact ⟨0, st0, Nat.zero_le _, rfl, by unfold Hid; omega, ⟨rfl⟩, ⟨rfl⟩, H3, HKS⟩
  case round =>
    clear H3 HKS
    obtain ⟨at_, s, hat, rfl, HG, HA64, HEat, H3, HKS⟩ := hrel
    obtain ⟨g0, hg0⟩ : ∃ x, x = gk := ⟨_, rfl⟩
    have HG0 := Aside0.mk hg0
    have HGo := HG
    clear hg0
    by_cases hlt : at_ < np
    · have h64 : at_ + 64 ≤ np := by have := HP64.out; have := HA64.out; omega
      have hnc : ¬ cp = at_ := by have := HCP.out; omega
      have hcp' : at_ + 64 ≤ cp := by have := HCP.out; omega
      have hpl := HPl.out
      have q64 : IntKind.i64.wrap ((at_ : Int) + 64) = (at_ : Int) + 64 := IntWalk.i64_in _ (by omega)
      have hcd := Kd.C_drop (m := at_) (c := cp) HKS.out.2.2.1 (by rw [HNL.out]; omega) (by rw [HNL.out]; exact HCP.out)
      rw [if_neg hnc, show (Kd.int .u8).sz = 1 from rfl, Nat.mul_one] at hcd
      have hct := Kd.C_take (m := 64) hcd (by rw [List.length_drop, HNL.out]; omega)
      have HCT := Aside0.mk hct
      obtain ⟨ad0, hA0, hce⟩ := Kd.at_int (k := .u8) HKS.out.2.2.1 0 (by omega) (by rw [HNL.out]; omega)
      have HAB := Aside0.mk (show ∀ ad, Ap = some ad → ad.block < wr.heap.size by
        rintro ad rfl
        obtain rfl : ad = ad0 := by injection hA0
        have h1 := World.block_lt_of_cell? wr _ hce
        have h2 : (ad.add (Int.toNat 0)).block = ad.block := by unfold Addr.add; split <;> rfl
        rw [h2] at h1
        exact h1)
      obtain ⟨B, hB⟩ : ∃ B, (P.drop at_).take 64 = B := ⟨_, rfl⟩
      have hBl : B.length = 64 := by rw [← hB, List.length_take, List.length_drop, HNL.out]; omega
      rw [hB] at HCT
      have HBl := Aside0.mk hBl
      have HBB := Aside0.mk hB
      have HBby := Aside0.mk (show ∀ x ∈ B, 0 ≤ x ∧ x ≤ 255 by rw [← hB]; exact fun x hx => HPby.out x (List.mem_of_mem_drop (List.mem_of_mem_take hx)))
      clear hcd hct hB hBl hA0 hce
      go_wp2_with fail
      refine (schedule_any _ _ 64 B _ HCT.out HBl.out.symm (Nat.le_refl _) HBby.out).mono ?_
      rintro e w8 ⟨rfl, hb⟩
      have H3' := Aside0.mk (H3.out.below hb)
      have HKS' := Aside0.mk (HKS.out.below hb)
      have HAB' := Aside0.mk (fun ad e => Nat.lt_of_lt_of_le (HAB.out ad e) hb.size)
      clear hb H3 HKS HAB HCT HBby
      obtain ⟨S, hS⟩ : ∃ S, u32s (swp B 64) = S := ⟨_, rfl⟩
      have hss : Aside0 (S.size = 64) := ⟨by rw [← hS, u32s_size, swp_length]⟩
      have hs1 : Aside0 (S.all (·.oneCell') = true) := ⟨hS ▸ u32s_one _⟩
      have HS := Aside0.mk hS
      rw [hS]
      clear hS
      go_wp2_with (first
        | ((with_reducible refine gate_dst (N := 7) rfl ?_); refine alloc_blk rfl rfl rfl zero112 ?_; intro g7 w9 hg hz hb; have G7 := Aside0.mk (show g3 < g7 ∧ g4 < g7 by rw [hg]; exact ⟨blk_lt H3'.out, blk_lt HKS'.out.2.1⟩); have Z7 := Aside0.mk hz; have I3 := Aside0.mk (H3'.out.below hb); have IK := Aside0.mk (HKS'.out.below hb); have IA := Aside0.mk (show ∀ ad, Ap = some ad → ad.block < g7 by rw [hg]; exact HAB'.out); clear hg hz hb H3' HKS' HAB')
        | ((with_reducible refine gate_store (t := 112) (p := 7) (v := .tmp 30) rfl ?_); refine store_blk_k rfl rfl rfl rfl rfl Z7.out (by rw [hss.out]; exact size112) (by rw [hss.out]; rfl) hs1.out ?_; intro w10 hz hk hb; have J7 := Aside0.mk hz; have J3 := Aside0.mk (I3.out.keep hk (by have := G7.out; omega)); have JK := Aside0.mk (IK.out.keep hk (hb _ _ (by have := G7.out; have := G3.out; have := G2.out; omega)) (by have := G7.out; have := G3.out; omega) (by have := G7.out; omega) (fun ad e => by have := IA.out ad e; omega)); clear hz hk hb Z7 I3 IK)
        | ((with_reducible refine gate_dst (N := 31) rfl ?_); refine load_blk rfl rfl rfl J3.out Tryz.underlying111 rfl size111 ?_)
        | ((with_reducible refine gate_dst (N := 8) rfl ?_); refine alloc_blk rfl rfl rfl zero111 ?_; intro g8 w11 hg hz hb; have G8 := Aside0.mk (show g3 < g8 ∧ g7 < g8 ∧ g4 < g8 by rw [hg]; exact ⟨blk_lt J3.out, blk_lt J7.out, blk_lt JK.out.2.1⟩); have Z8 := Aside0.mk hz; have L3 := Aside0.mk (J3.out.below hb); have L7 := Aside0.mk (J7.out.below hb); have LK := Aside0.mk (JK.out.below hb); clear hg hz hb J3 J7 JK)
        | ((with_reducible refine gate_store (t := 111) (p := 8) (v := .tmp 31) rfl ?_); refine store_blk_k rfl rfl rfl rfl rfl Z8.out size111 (by rw [u32s_size]; rfl) (u32s_one _) ?_; intro w12 hz hk hb; have M8 := Aside0.mk hz; have M3 := Aside0.mk (L3.out.keep hk (by have := G8.out; omega)); have M7 := Aside0.mk (L7.out.keep hk (by have := G8.out; omega)); have MK := Aside0.mk (LK.out.keep hk (hb _ _ (by have := G8.out; have := G3.out; have := G2.out; omega)) (by have := G8.out; have := G3.out; omega) (by have := G8.out; omega) (fun ad e => by have := IA.out ad e; have := G8.out; omega)); clear hz hk hb Z8 L3 L7 LK))
      rw [← HS.out] at M7
      go_loopg [9] 64 (fun gf x9 wx => ∃ t : Nat, t ≤ 64 ∧ x9 = .int .i64 t ∧ Hid (64 ≤ t + gf) ∧ Aside0 (Blk wx g8 (u32s (comp s (fw (blk16 B)) t).list) 111) ∧ Aside0 (Blk wx g7 (u32s (swp B 64)) 112) ∧ Aside0 (Blk wx g3 (u32s s.list) 111) ∧ Aside0 (Keeps W wx g2 g4 Ap P))
      case atStart => exact ⟨0, Nat.zero_le _, rfl, by unfold Hid; omega, M8, M7, M3, MK⟩
      case round =>
        clear M8 M7 M3 MK HG
        obtain ⟨t, ht, rfl, HG, M8, M7, M3, MK⟩ := hrel
        by_cases htl : t < 64
        · obtain ⟨kt, hkt⟩ : ∃ x, rd kT (t : Int) = x := ⟨_, rfl⟩
          obtain ⟨wt, hwt⟩ : ∃ x, fw (blk16 B) t = x := ⟨_, rfl⟩
          obtain ⟨st, hst⟩ : ∃ st, comp s (fw (blk16 B)) t = st := ⟨_, rfl⟩
          have HNX := Aside0.mk (show comp s (fw (blk16 B)) (t + 1) = rnd st kt wt by show rnd _ _ _ = _; rw [hst, hkt, hwt])
          have ck := (MK.out.2.1.u32 t (by simpa [kT] using htl)).1
          have cw := (M7.out.u32 t (by rw [swp_length]; exact htl)).1
          rw [hkt] at ck
          rw [swp_get B 64 t htl htl, hwt] at cw
          rw [hst] at M8
          clear hkt hwt hst
          obtain ⟨va, vb, vc, vd, ve, vf, vg, vh⟩ := st
          obtain ⟨y0, y1, y2, y3, y4, y5, y6, y7⟩ := list_cells M8.out
          go_wp2_with fail
          go_quiet ((go_at_call 65; exact Calls.quiet_of (rotate_any _ _ _ (by omega) (by omega))))
          have N8 := Aside0.mk (show Blk (wr.drewN nq) g8 (u32s (St.list ⟨va, vb, vc, vd, ve, vf, vg, vh⟩)) 111 from M8.out)
          have N7 := Aside0.mk (show Blk (wr.drewN nq) g7 (u32s (swp B 64)) 112 from M7.out)
          have N3 := Aside0.mk (show Blk (wr.drewN nq) g3 (u32s s.list) 111 from M3.out)
          have NK := Aside0.mk (MK.out.below (pw_below_drewN (Below.refl _ _) nq))
          clear y0 y1 y2 y3 y4 y5 y6 y7 ck cw
          generalize wr.drewN nq = wq at N8 N7 N3 NK ⊢
          clear M8 M7 M3 MK
          obtain ⟨y0, y1, y2, y3, y4, y5, y6, y7⟩ := list_cells N8.out
          go_wp2_with fail
          go_quiet ((go_at_call 65; exact Calls.quiet_of (rotate_any _ _ _ (by omega) (by omega))))
          have O8 := Aside0.mk (show Blk (wq.drewN nq) g8 (u32s (St.list ⟨va, vb, vc, vd, ve, vf, vg, vh⟩)) 111 from N8.out)
          have O7 := Aside0.mk (show Blk (wq.drewN nq) g7 (u32s (swp B 64)) 112 from N7.out)
          have O3 := Aside0.mk (show Blk (wq.drewN nq) g3 (u32s s.list) 111 from N3.out)
          have OK := Aside0.mk (NK.out.below (pw_below_drewN (Below.refl _ _) nq))
          clear y0 y1 y2 y3 y4 y5 y6 y7
          generalize wq.drewN nq = wv at O8 O7 O3 OK ⊢
          clear N8 N7 N3 NK
          obtain ⟨y0, y1, y2, y3, y4, y5, y6, y7⟩ := list_cells O8.out
          go_wp2_with (first
            | ((with_reducible refine gate_store (t := 111) (p := 8) (v := .tmp 119) rfl ?_); refine store_blk_k (cs := u32s (rnd ⟨va, vb, vc, vd, ve, vf, vg, vh⟩ kt wt).list) rfl rfl rfl rfl rfl O8.out size111 rfl (u32s_one _) ?_; intro w20 hz hk hb; have Q8 := Aside0.mk hz; have Q7 := Aside0.mk (O7.out.keep hk (by have := G8.out; omega)); have Q3 := Aside0.mk (O3.out.keep hk (by have := G8.out; omega)); have QK := Aside0.mk (OK.out.keep hk (hb _ _ (by have := G8.out; have := G3.out; have := G2.out; omega)) (by have := G8.out; have := G3.out; omega) (by have := G8.out; omega) (fun ad e => by have := IA.out ad e; have := G8.out; omega)); clear hz hk hb O8 O7 O3 OK y0 y1 y2 y3 y4 y5 y6 y7))
          go_roundg (gk - 1)
          case measure => have := HG.out; omega
          case rel => exact ⟨t + 1, by omega, by go_num, by have := HG.out; unfold Hid; omega, ⟨by rw [HNX.out]; exact Q8.out⟩, Q7, Q3, QK⟩
        · obtain rfl : t = 64 := by omega
          go_wp2_with fail
          obtain ⟨cs, hcs⟩ : ∃ cs, comp s (fw (blk16 B)) 64 = cs := ⟨_, rfl⟩
          have HCS := Aside0.mk hcs
          rw [hcs] at M8
          rw [mix_zero s cs] at M3
          clear hcs
          go_loopg [12] 8 (fun gf x12 wx => ∃ i : Nat, i ≤ 8 ∧ x12 = .int .i64 i ∧ Hid (8 ≤ i + gf) ∧ Aside0 (Blk wx g3 (u32s (mixL s cs i)) 111) ∧ Aside0 (Blk wx g8 (u32s cs.list) 111) ∧ Aside0 (Keeps W wx g2 g4 Ap P))
          case atStart => exact ⟨0, Nat.zero_le _, rfl, by unfold Hid; omega, M3, M8, MK⟩
          case round =>
            clear M8 M7 M3 MK HG
            obtain ⟨i, hi, rfl, HG, M3, M8, MK⟩ := hrel
            by_cases hil : i < 8
            · obtain ⟨xs, hxs⟩ : ∃ x, rd (mixL s cs i) (i : Int) = x := ⟨_, rfl⟩
              obtain ⟨xc, hxc⟩ : ∃ x, rd cs.list (i : Int) = x := ⟨_, rfl⟩
              have c3 := M3.out.u32 i (by rw [mix_length]; exact hil)
              have c8 := (M8.out.u32 i (by show i < 8; exact hil)).1
              rw [hxs] at c3
              rw [hxc] at c8
              obtain ⟨c3, f3⟩ := c3
              have HST := Aside0.mk (mix_step s cs i hil)
              rw [hxs, hxc] at HST
              clear hxs hxc hi
              go_wp2_with fail
              go_region
              go_wp2_with fail
              go_roundg (gk - 1)
              case measure => have := HG.out; omega
              case rel =>
                refine ⟨i + 1, by omega, by go_num, by have := HG.out; unfold Hid; omega, ⟨?_⟩, ⟨M8.out.set_ne (p := ⟨g3, i, none⟩) _ (by have := G8.out; show g8 ≠ g3; omega)⟩, ⟨?_⟩⟩
                · rw [← HST.out]
                  exact M3.out.put i _
                · exact MK.out.keep (g := g3) ((KeepBut.refl _ g3 none).set_ i _) (fun h => below_drew (h.setCell (p := ⟨g3, i, none⟩) (by have := G3.out; have := G2.out; show W.heap.size ≤ g3; omega) _)) (by have := G3.out; omega) (by have := G4.out; omega) HNP.out
            · obtain rfl : i = 8 := by omega
              rw [mix_full s cs] at M3
              clear hi
              go_wp2_with fail
              go_roundg (g0 - 1)
              case measure => have := HG0.out; have := HGo.out; omega
              case rel =>
                refine ⟨at_ + 64, plusS cs s, by omega, by go_num, by have := HG0.out; have := HGo.out; unfold Hid; omega, ⟨by have := HA64.out; omega⟩, ⟨?_⟩, M3, MK⟩
                rw [← HCS.out]
                exact eat_next s P B at_ (by rw [HNL.out]; exact h64) HBB.out HEat.out
    · obtain rfl : at_ = np := by omega
      have hse : (eat st0 P).1 = s := by
        rw [← HEat.out, List.drop_eq_nil_of_le (by rw [HNL.out]; exact Nat.le_refl _), eat_end s [] (by simp)]
      have hout : u8s (outL s 32) = R := by rw [← HR.out, hse, out_full]
      have HOut := Aside0.mk hout
      have hrs : Aside0 (R.size = 32) := ⟨by rw [← hout, u8s_size, out_length]⟩
      have hr1 : Aside0 (R.all (·.oneCell') = true) := ⟨hout ▸ u8s_one _⟩
      have T2 := Aside0.mk HKS.out.1
      have TB := Aside0.mk HKS.out.2.2.2
      clear hse hout hat HKS HEat HGo HG0 HG
      go_wp2_with (first
        | ((with_reducible refine gate_dst (N := 13) rfl ?_); refine alloc_blk rfl rfl rfl zero33 ?_; intro g13 w30 hg hz hb; have G13 := Aside0.mk (show g2 < g13 ∧ g3 < g13 by rw [hg]; exact ⟨blk_lt T2.out, blk_lt H3.out⟩); have U13 := Aside0.mk hz; have U3 := Aside0.mk (H3.out.below hb); have U2 := Aside0.mk (T2.out.below hb); have UB := Aside0.mk (TB.out.trans (hb.mono TB.out.size)); clear hg hz hb H3 T2 TB))
      rw [out_zero s] at U13
      go_loopg [14] 32 (fun gf x14 wx => ∃ i : Nat, i ≤ 32 ∧ x14 = .int .i64 i ∧ Hid (32 ≤ i + gf) ∧ Aside0 (Blk wx g13 (u8s (outL s i)) 33) ∧ Aside0 (Blk wx g3 (u32s s.list) 111) ∧ Aside0 (Blk wx g2 (u8s (List.replicate 32 0)) 33) ∧ Aside0 (Below W.heap.size W wx) ∧ Aside0 (g3 < g13))
      case atStart => exact ⟨0, Nat.zero_le _, rfl, by unfold Hid; omega, U13, U3, U2, UB, ⟨G13.out.2⟩⟩
      case round =>
        clear U13 U3 U2 UB
        obtain ⟨i, hi, rfl, HG, U13, U3, U2, UB, G313⟩ := hrel
        by_cases hil : i < 32
        · obtain ⟨q, hq⟩ : ∃ q : Nat, i / 4 = q := ⟨_, rfl⟩
          obtain ⟨r, hr⟩ : ∃ r : Nat, i % 4 = r := ⟨_, rfl⟩
          obtain ⟨sh, hsh⟩ : ∃ x : Nat, 24 - 8 * r = x := ⟨_, rfl⟩
          obtain ⟨x, hx⟩ : ∃ x, rd s.list (q : Int) = x := ⟨_, rfl⟩
          have e1 : Int.tdiv (i : Int) 4 = (q : Int) := by rw [Int.tdiv_eq_ediv_of_nonneg (by omega)]; omega
          have e1' : (i : Int) / 4 = (q : Int) := by omega
          have e2 : Int.tmod (i : Int) 4 = (r : Int) := by rw [Int.tmod_eq_emod_of_nonneg (by omega)]; omega
          have e2' : (i : Int) % 4 = (r : Int) := by omega
          have hr4 : (r : Int) < 4 := by omega
          have e3 : IntKind.i64.wrap (8 * (r : Int)) = 8 * r := IntWalk.i64_in _ (by omega)
          have e4 : IntKind.i64.wrap (24 - 8 * (r : Int)) = (sh : Int) := by rw [IntWalk.i64_in _ (by omega)]; omega
          have e5 : (24 : Int) - 8 * (r : Int) = (sh : Int) := by omega
          have hq8 : q < 8 := by omega
          have hsh25 : sh ≤ 24 := by omega
          have c3 := (U3.out.u32 q (by show q < 8; exact hq8)).1
          rw [hx] at c3
          obtain ⟨c13, f13⟩ := U13.out.u8 i (by rw [out_length]; exact hil)
          have HST := Aside0.mk (out_step s i hil)
          rw [hq, hr, hsh, hx] at HST
          clear hq hr hsh hx hi
          go_wp2_with fail
          go_roundg (gk - 1)
          case measure => have := HG.out; omega
          case rel =>
            refine ⟨i + 1, by omega, by go_num, by have := HG.out; unfold Hid; omega, ⟨?_⟩, ⟨U3.out.set_ne (p := ⟨g13, i, none⟩) _ (by have := G313.out; show g3 ≠ g13; omega)⟩, ⟨U2.out.set_ne (p := ⟨g13, i, none⟩) _ (by have := G13.out; show g2 ≠ g13; omega)⟩, ⟨below_set UB.out (by have := G13.out; have := G2.out; omega)⟩, G313⟩
            rw [← HST.out]
            exact U13.out.put8 i _
        · obtain rfl : i = 32 := by omega
          rw [HOut.out] at U13
          go_wp2_with (first
            | ((with_reducible refine gate_dst (N := 149) rfl ?_); refine load_blk rfl rfl rfl U13.out Tryz.underlying33 rfl (by rw [hrs.out]; exact size33) ?_)
            | ((with_reducible refine gate_store (t := 33) (p := 2) (v := .tmp 149) rfl ?_); refine store_blk rfl rfl rfl rfl rfl U2.out (by rw [hrs.out]; exact size33) (by rw [hrs.out]; rfl) hr1.out ?_))
          refine bodyPost_ret (results_cell_row rfl _ _ g2 33 R (0, 0) _ ?hp (U2.out.setRow R) Tryz.underlying33 rfl (by rw [hrs.out]; exact size33)) rfl ?_
          case hp => rfl
          exact ⟨rfl, below_setRow UB.out (by rw [G2.out]; exact Nat.le_refl _) _⟩

end Go.Proofs.YtceopllngemnnaaGreatDoor


/-
  Message identifiers: Print of package msgid: what it returns. For every identity.
-/
namespace Go.Proofs.YtceopllngemnnaaGreatDoor
open Go.RowKit Go.Proofs.YtceopllngemnnaaGreatDoorW.PrintWords Go.Proofs.YtceopllngemnnaaGreatDoorW.PrintLast Go.Proofs.YtceopllngemnnaaGreatDoorW.PrintMore Go.Proofs.YtceopllngemnnaaGreatDoor.PRef

theorem add_at (g j : Nat) : (⟨g, 0, none⟩ : Addr).add j = ⟨g, j, none⟩ := by unfold Addr.add; split <;> simp_all
/-- A block of bytes, read as a slice. -/
theorem C_of_blk {W : World} {g t : Nat} {l : List Int} (h : Blk W g (u8s l) t) (hl : l.length ≤ maxLen) : Kd.C (Kd.int .u8) W (some ⟨g, 0, none⟩) l.length l := by
  refine Kd.C_of_reads (d := (0 : Int)) (h1 := fun _ => rfl) ⟨rfl, hl, fun _ => ⟨_, rfl, fun j hj => ?_⟩⟩
  rw [add_at, (h.u8 j hj).1]
  simp [rd]

theorem size37 : (Tryz.prog.info? 37).map (·.size) = some 32 := by kernel_rfl
theorem size34 : (Tryz.prog.info? 34).map (·.size) = some 32 := by kernel_rfl

theorem hexTo_any (A : Option Addr) (c m : Nat) (l : List Int) (s : ByteArray) (w : World) (hm : m = l.length) (hC : Kd.C (Kd.int .u8) w A l.length l) (hb : ∀ x ∈ l, 0 ≤ x ∧ x ≤ 255) (hl : l.length ≤ 1000000) (hs : hexS l = s) :
    Calls Tryz.prog 82 #[.slice A m c] w fun e w' => e = .returned (.string s) ∧ Below w.heap.size w w' := by
  subst hm hs
  exact hex_any A c l w hC hb hl

set_option maxHeartbeats 1000000 in
set_option maxRecDepth 100000 in
theorem mdigits_any (l : List Int) (W : World) (hl : l.length = 32) (hb : ∀ x ∈ l, 0 ≤ x ∧ x ≤ 255) :
    Calls Tryz.prog 86 #[.agg (u8s l)] W fun e w' => e = .returned (.string (hexS l)) ∧ Below W.heap.size W w' := by
  obtain ⟨V, hV⟩ : ∃ V, u8s l = V := ⟨_, rfl⟩
  obtain ⟨s, hs⟩ : ∃ s, hexS l = s := ⟨_, rfl⟩
  have HV := Aside0.mk hV
  have HS := Aside0.mk hs
  have HB := Aside0.mk hb
  have HL := Aside0.mk hl
  have hvs : Aside0 (V.size = 32) := ⟨by rw [← hV, u8s_size, hl]⟩
  have hv1 : Aside0 (V.all (·.oneCell') = true) := ⟨hV ▸ u8s_one _⟩
  rw [hV, hs]
  clear hV hs hb hl
  go_enter Tryz.func86, Tryz.ntmps86
  go_wp2_with (first
    | ((with_reducible refine gate_dst (N := 1) rfl ?_); refine box_blk rfl rfl rfl rfl (by rw [hvs.out]; exact size37) hv1.out ?_; intro g w1 hg hz hb'; have G1 := Aside0.mk hg; have Z1 := Aside0.mk hz; have B1 := Aside0.mk hb'; clear hg hz hb'))
  rw [← HV.out] at Z1
  refine (hexTo_any _ 32 32 l s _ HL.out.symm (C_of_blk Z1.out (by rw [HL.out]; decide)) HB.out (by rw [HL.out]; decide) HS.out).mono ?_
  rintro e w2 ⟨rfl, hb2⟩
  have B2 := Aside0.mk (below_step B1.out hb2)
  clear hb2
  go_wp2_with fail
  go_ret
  exact ⟨rfl, B2.out⟩

def idS (l : List Int) : ByteArray := (⟨#[60]⟩ : ByteArray) ++ hexS l ++ (⟨#[64, 104, 97, 115, 104, 62]⟩ : ByteArray)
theorem hexS_size (l : List Int) : (hexS l).size = 2 * l.length := by rw [hexS, strOfNums_size, hexL_length]

set_option maxHeartbeats 1000000 in
set_option maxRecDepth 100000 in
theorem mprint_any (l : List Int) (W : World) (hl : l.length = 32) (hb : ∀ x ∈ l, 0 ≤ x ∧ x ≤ 255) :
    Calls Tryz.prog 70 #[.agg (u8s l)] W fun e w' => e = .returned (.string (idS l)) ∧ Below W.heap.size W w' := by
  obtain ⟨V, hV⟩ : ∃ V, u8s l = V := ⟨_, rfl⟩
  obtain ⟨s, hs⟩ : ∃ s, hexS l = s := ⟨_, rfl⟩
  have hid : idS l = (⟨#[60]⟩ : ByteArray) ++ s ++ (⟨#[64, 104, 97, 115, 104, 62]⟩ : ByteArray) := by rw [← hs]; rfl
  have hss : s.size = 64 := by rw [← hs, hexS_size, hl]
  have HD := Aside0.mk (show ∀ W, Calls Tryz.prog 86 #[.agg V] W fun e w' => e = .returned (.string s) ∧ Below W.heap.size W w' from fun W => hV ▸ hs ▸ mdigits_any l W hl hb)
  have hvs : Aside0 (V.size = 32) := ⟨by rw [← hV, u8s_size, hl]⟩
  have hv1 : Aside0 (V.all (·.oneCell') = true) := ⟨hV ▸ u8s_one _⟩
  rw [hV, hid]
  clear hV hs hb hl hid
  go_enter Tryz.func70, Tryz.ntmps70
  go_wp2_with (first
    | ((with_reducible refine gate_dst (N := 1) rfl ?_); refine box_blk rfl rfl rfl rfl (by rw [hvs.out]; exact size37) hv1.out ?_; intro g w1 hg hz hb'; have G1 := Aside0.mk hg; have Z1 := Aside0.mk hz; have B1 := Aside0.mk hb'; clear hg hz hb')
    | ((with_reducible refine gate_dst (N := 3) rfl ?_); refine load_blk rfl rfl rfl Z1.out Tryz.underlying37 rfl (by rw [hvs.out]; exact size37) ?_))
  refine (HD.out _).mono ?_
  rintro e w2 ⟨rfl, hb2⟩
  have B2 := Aside0.mk (below_step B1.out hb2)
  clear hb2
  go_wp2_with fail
  go_ret
  exact ⟨rfl, B2.out⟩

end Go.Proofs.YtceopllngemnnaaGreatDoor


/-
  Message identifiers: Digits and Print of the document's answer: what they return. For every identity.
-/
namespace Go.Proofs.YtceopllngemnnaaGreatDoor
open Go.RowKit Go.Proofs.YtceopllngemnnaaGreatDoorW.PrintWords Go.Proofs.YtceopllngemnnaaGreatDoorW.PrintLast Go.Proofs.YtceopllngemnnaaGreatDoorW.PrintMore Go.Proofs.YtceopllngemnnaaGreatDoor.PRef

theorem hex_cut : ∀ a : Nat, a < 16 → (hexT.extract a (a + 1)) = strOfNums [bt hexT (a : Int)]
  | 0, _ => rfl | 1, _ => rfl | 2, _ => rfl | 3, _ => rfl | 4, _ => rfl | 5, _ => rfl | 6, _ => rfl | 7, _ => rfl
  | 8, _ => rfl | 9, _ => rfl | 10, _ => rfl | 11, _ => rfl | 12, _ => rfl | 13, _ => rfl | 14, _ => rfl | 15, _ => rfl
  | k + 16, h => absurd h (by omega)
theorem strOfNums_append (a b : List Int) : strOfNums (a ++ b) = strOfNums a ++ strOfNums b := by
  apply ByteArray.ext
  apply Array.toList_inj.mp
  rw [ByteArray.data_append, Array.toList_append, strOfNums_data, strOfNums_data, strOfNums_data, List.map_append]
theorem hexS_step (l : List Int) (x : Int) (a b : Nat) (ha : x / 16 = a) (hb : x % 16 = b) (ha2 : a < 16) (hb2 : b < 16) : hexS (l ++ [x]) = hexS l ++ (hexT.extract a (a + 1) ++ hexT.extract b (b + 1)) := by
  rw [hex_cut a ha2, hex_cut b hb2, ← strOfNums_append]
  unfold hexS
  rw [hexL_snoc, ha, hb, List.append_assoc, strOfNums_append]

set_option maxHeartbeats 1000000 in
set_option maxRecDepth 100000 in
theorem rdigits_any (l : List Int) (W : World) (hl : l.length = 32) (hb : ∀ x ∈ l, 0 ≤ x ∧ x ≤ 255) :
    Calls Tryz.prog 66 #[.agg (u8s l)] W fun e w' => e = .returned (.string (hexS l)) ∧ Below W.heap.size W w' := by
  obtain ⟨V, hV⟩ : ∃ V, u8s l = V := ⟨_, rfl⟩
  have HV := Aside0.mk hV
  have HB := Aside0.mk hb
  have HL := Aside0.mk hl
  have hvs : Aside0 (V.size = 32) := ⟨by rw [← hV, u8s_size, hl]⟩
  have hv1 : Aside0 (V.all (·.oneCell') = true) := ⟨hV ▸ u8s_one _⟩
  rw [hV]
  clear hV hb hl
  go_enter Tryz.func66, Tryz.ntmps66
  go_wp2_with (first
    | ((with_reducible refine gate_dst (N := 1) rfl ?_); refine box_blk rfl rfl rfl rfl (by rw [hvs.out]; exact size34) hv1.out ?_; intro g w1 hg hz hb'; have G1 := Aside0.mk hg; have Z1 := Aside0.mk hz; have B1 := Aside0.mk hb'; clear hg hz hb'))
  rw [← HV.out] at Z1
  go_loopg [3, 4] 32 (fun gf x3 x4 wx => ∃ (k : Nat) (s : ByteArray), k ≤ 32 ∧ x4 = .int .i64 k ∧ x3 = .string s ∧ Hid (32 ≤ k + gf) ∧ Aside0 (s = hexS (l.take k)) ∧ Aside0 (Blk wx g (u8s l) 34) ∧ Aside0 (Below W.heap.size W wx))
  case atStart => exact ⟨0, ByteArray.empty, Nat.zero_le _, rfl, rfl, by unfold Hid; omega, ⟨rfl⟩, Z1, B1⟩
  case round =>
    clear Z1 B1
    obtain ⟨k, s, hk, rfl, rfl, HG, HS, Z1, B1⟩ := hrel
    by_cases hlt : k < 32
    · obtain ⟨x, hx⟩ : ∃ x, rd l (k : Int) = x := ⟨_, rfl⟩
      have hc := (Z1.out.u8 k (by rw [HL.out]; exact hlt)).1
      rw [hx] at hc
      have hkl : k < l.length := by rw [HL.out]; exact hlt
      have hxl : l[k] = x := by rw [← hx]; simp [rd, List.getD_eq_getElem?_getD, List.getElem?_eq_getElem hkl]
      have hxb := HB.out x (hxl ▸ List.getElem_mem hkl)
      have htk : l.take (k + 1) = l.take k ++ [x] := by rw [List.take_succ_eq_append_getElem hkl, hxl]
      have hss : s.size = 2 * k := by rw [HS.out, hexS_size, List.length_take, HL.out]; omega
      obtain ⟨a, ha⟩ : ∃ a : Nat, x / 16 = a := ⟨(x / 16).toNat, by omega⟩
      obtain ⟨b, hb⟩ : ∃ b : Nat, x % 16 = b := ⟨(x % 16).toNat, by omega⟩
      have ha2 : a < 16 := by omega
      have hb2 : b < 16 := by omega
      have HST := Aside0.mk (hexS_step (l.take k) x a b ha hb ha2 hb2)
      rw [← htk] at HST
      clear hx hxl htk
      obtain ⟨hx0, hx1⟩ := hxb
      have a1 : ((a : Int) + 1) % 256 = (a : Int) + 1 := by omega
      have b1 : ((b : Int) + 1) % 256 = (b : Int) + 1 := by omega
      have a1w : IntKind.u8.wrap ((a : Int) + 1) = (a : Int) + 1 := by rw [IntKind.wrap_u8]; omega
      have b1w : IntKind.u8.wrap ((b : Int) + 1) = (b : Int) + 1 := by rw [IntKind.wrap_u8]; omega
      have a4 : (a : Int) ≤ (a : Int) + 1 := by omega
      have b4 : (b : Int) ≤ (b : Int) + 1 := by omega
      have a5 : ((a : Int) + 1).toNat = a + 1 := by omega
      have b5 : ((b : Int) + 1).toNat = b + 1 := by omega
      have a2 : (0 : Int) ≤ (a : Int) := by omega
      have b2 : (0 : Int) ≤ (b : Int) := by omega
      have a3 : (a : Int) + 1 ≤ 16 := by omega
      have b3 : (b : Int) + 1 ≤ 16 := by omega
      go_wp2_with fail
      go_quiet (fail)
      rw [ha, hb]
      have Z2 := Aside0.mk (show Blk (wr.drewN nq) g (u8s l) 34 from Z1.out)
      have B2 := Aside0.mk (pw_below_drewN B1.out nq)
      clear hc
      generalize wr.drewN nq = wq at Z2 B2 ⊢
      clear Z1 B1 ha hb
      go_wp2_with fail
      go_quiet (fail)
      go_wp2_with fail
      go_roundg (gk - 1)
      case measure => have := HG.out; omega
      case rel => exact ⟨k + 1, s ++ (hexT.extract a (a + 1) ++ hexT.extract b (b + 1)), by omega, by go_num, rfl, by have := HG.out; unfold Hid; omega, ⟨by rw [HST.out, HS.out]⟩, Z2, ⟨pw_below_drewN B2.out _⟩⟩
    · obtain rfl : k = 32 := by omega
      have hfull : s = hexS l := by rw [HS.out, List.take_of_length_le (by rw [HL.out]; exact Nat.le_refl _)]
      have HF := Aside0.mk hfull
      clear hfull
      go_wp2_with fail
      go_ret
      exact ⟨by rw [← HF.out]; rfl, B1.out⟩

set_option maxHeartbeats 1000000 in
set_option maxRecDepth 100000 in
theorem rprint_any (l : List Int) (W : World) (hl : l.length = 32) (hb : ∀ x ∈ l, 0 ≤ x ∧ x ≤ 255) :
    Calls Tryz.prog 38 #[.agg (u8s l)] W fun e w' => e = .returned (.string (idS l)) ∧ Below W.heap.size W w' := by
  obtain ⟨V, hV⟩ : ∃ V, u8s l = V := ⟨_, rfl⟩
  obtain ⟨s, hs⟩ : ∃ s, hexS l = s := ⟨_, rfl⟩
  have hid : idS l = (⟨#[60]⟩ : ByteArray) ++ s ++ (⟨#[64, 104, 97, 115, 104, 62]⟩ : ByteArray) := by rw [← hs]; rfl
  have hss : s.size = 64 := by rw [← hs, hexS_size, hl]
  have HD := Aside0.mk (show ∀ W, Calls Tryz.prog 66 #[.agg V] W fun e w' => e = .returned (.string s) ∧ Below W.heap.size W w' from fun W => hV ▸ hs ▸ rdigits_any l W hl hb)
  have hvs : Aside0 (V.size = 32) := ⟨by rw [← hV, u8s_size, hl]⟩
  have hv1 : Aside0 (V.all (·.oneCell') = true) := ⟨hV ▸ u8s_one _⟩
  rw [hV, hid]
  clear hV hs hb hl hid
  go_enter Tryz.func38, Tryz.ntmps38
  go_wp2_with (first
    | ((with_reducible refine gate_dst (N := 1) rfl ?_); refine box_blk rfl rfl rfl rfl (by rw [hvs.out]; exact size34) hv1.out ?_; intro g w1 hg hz hb'; have G1 := Aside0.mk hg; have Z1 := Aside0.mk hz; have B1 := Aside0.mk hb'; clear hg hz hb')
    | ((with_reducible refine gate_dst (N := 3) rfl ?_); refine load_blk rfl rfl rfl Z1.out Tryz.underlying34 rfl (by rw [hvs.out]; exact size34) ?_))
  refine (HD.out _).mono ?_
  rintro e w2 ⟨rfl, hb2⟩
  have B2 := Aside0.mk (below_step B1.out hb2)
  clear hb2
  go_wp2_with fail
  go_ret
  exact ⟨rfl, B2.out⟩

end Go.Proofs.YtceopllngemnnaaGreatDoor


/-
  strings.Builder's WriteString at a builder of the call's own: what it returns. For every string that fits.
-/
namespace Go.Proofs.YtceopllngemnnaaGreatDoor
open Go.RowKit Go.Proofs.YtceopllngemnnaaGreatDoorW.PrintWords Go.Proofs.YtceopllngemnnaaGreatDoorW.PrintLast Go.Proofs.YtceopllngemnnaaGreatDoorW.PrintMore Go.Proofs.YtceopllngemnnaaGreatDoor.PRef

set_option maxHeartbeats 2000000 in
set_option maxRecDepth 100000 in
theorem writeString_any (B b : Nat) (bs : List Value) (s : ByteArray) (w : World) (h : Lib.IsBuilder 82 5 B b bs w) (hlen : bs.length + s.size ≤ 140737488355328) (hBw : B ≤ w.heap.size) :
    Calls Tryz.prog 40 #[.pointer (some ⟨b, 0, none⟩), .string s] w fun e w' => e = .returned (.tuple #[.int .i64 s.size, .nilIface]) ∧ (Lib.BuilderAt 82 5 B b (.pointer (some ⟨b, 0, none⟩)) (bs ++ Lib.strCells s) w' ∧ Below B w w') := by
  obtain ⟨i0, hi, hz0, hz1, hz2⟩ := info_parts infoByte
  go_enter Tryz.func40, Tryz.ntmps40
  go_wp2_with (go_at_call 67; refine (copyCheck_any B b bs _ h).mono ?_)
  rintro e w1 ⟨rfl, h1, hb1⟩
  obtain ⟨hB, v, hbk, hown, hne⟩ := h1
  have c0 : w1.cell? ⟨b, 0, none⟩ = some (.pointer (some ⟨b, 0, none⟩)) := by rw [Lib.cell_of_heap hbk]; rfl
  have c1 : w1.cell? ⟨b, 1, none⟩ = some v := by rw [Lib.cell_of_heap hbk]; rfl
  go_wp2_with (at_builtin; refine Lib.wpList_append_own_string (w := w1) rfl _ _ 26 9 rfl B 5 i0 Tryz.underlying26 Tryz.underlying9 hi hz0 hz1 hz2 _ _ _ rfl hown s rfl ?c3 ?c4 ?c5 ?_)
  case c3 => unfold maxLen; omega
  case c4 => omega
  case c5 => have := hb1.size; omega
  intro v' w2 hown' hgrow _
  have hlt : b < w1.heap.size := lt_of_block hbk
  have hb2 : w2.heap[b]? = some (.cells #[.pointer (some ⟨b, 0, none⟩), v] 82 (0, 0)) := by
    rw [hgrow.block b hlt (fun e => hne e.symm)]
    exact hbk
  have d0 : w2.cell? ⟨b, 0, none⟩ = some (.pointer (some ⟨b, 0, none⟩)) := by rw [Lib.cell_of_heap hb2]; rfl
  have d1 : w2.cell? ⟨b, 1, none⟩ = some v := by rw [Lib.cell_of_heap hb2]; rfl
  have f1 : w2.frozen? ⟨b, 1, none⟩ = false := Lib.frozen_of_heap hb2 1
  obtain ⟨A', cap, rfl⟩ := own_slice hown'
  go_wp2
  go_ret2
  refine ⟨rfl, ?_, ?_⟩
  · exact Lib.BuilderAt.put (T := 82) (e := 5) hB hb2 (bs' := bs ++ Lib.strCells s) (by simpa [Lib.strCells] using hown') (by decide)
  · exact (hb1.grown hgrow (by have := hb1.size; omega) (fun k hk => (hown.lt k hk).1)).setCell (p := ⟨b, 1, none⟩) hB _

end Go.Proofs.YtceopllngemnnaaGreatDoor


/-
  The end of a line: end of the document's answer for batches: what it returns. For strings of up to five million bytes.
-/
namespace Go.Proofs.YtceopllngemnnaaGreatDoor
open Go.RowKit Go.Proofs.YtceopllngemnnaaGreatDoorW.PrintWords Go.Proofs.YtceopllngemnnaaGreatDoorW.PrintLast Go.Proofs.YtceopllngemnnaaGreatDoorW.PrintMore Go.Proofs.YtceopllngemnnaaGreatDoor.PRef

/-- The first line feed from k on. -/
def nl (s : ByteArray) (k : Nat) : Option Nat := if h : k < s.size then (if (s[k].toNat : Int) = 10 then some k else nl s (k + 1)) else none
termination_by s.size - k
theorem nl_hit (s : ByteArray) (k : Nat) (h : k < s.size) (hc : (s[k].toNat : Int) = 10) : nl s k = some k := by rw [nl, dif_pos h, if_pos hc]
theorem nl_miss (s : ByteArray) (k : Nat) (h : k < s.size) (hc : ¬ (s[k].toNat : Int) = 10) : nl s k = nl s (k + 1) := by rw [nl, dif_pos h, if_neg hc]
theorem nl_end (s : ByteArray) (k : Nat) (h : ¬ k < s.size) : nl s k = none := by rw [nl, dif_neg h]
def nlI (s : ByteArray) (k : Nat) : Int := match nl s k with
  | some j => (j : Int)
  | none => -1

theorem end_f (s : ByteArray) (hs : s.size ≤ 5000000) : ∀ (d k f : Nat), s.size - k = d → d < f → k ≤ s.size → bulletinref35_end.l0 f s (k : Int) = some (nlI s k) := by
  intro d
  induction d with
  | zero =>
    intro k f h1 h2 h3
    obtain ⟨f, rfl⟩ : ∃ m, f = m + 1 := ⟨f - 1, by omega⟩
    simp only [bulletinref35_end.l0]
    rw [if_neg (by omega)]
    unfold nlI
    rw [nl_end s k (by omega)]
  | succ d ih =>
    intro k f h1 h2 h3
    obtain ⟨f, rfl⟩ : ∃ m, f = m + 1 := ⟨f - 1, by omega⟩
    have hlt : k < s.size := by omega
    have hb : bt s (k : Int) = (s[k].toNat : Int) := (bt_at s (k : Int) hlt).symm
    have hw : wrap64 ((k : Int) + 1) = ((k + 1 : Nat) : Int) := by unfold wrap64; omega
    simp only [bulletinref35_end.l0]
    rw [if_pos (by omega), if_pos (by omega), hb, hw]
    by_cases hc : (s[k].toNat : Int) = 10
    · rw [if_pos hc]; unfold nlI; rw [nl_hit s k hlt hc]
    · rw [if_neg hc, ih (k + 1) f (by omega) (by omega) (by omega)]
      unfold nlI; rw [nl_miss s k hlt hc]

theorem end_any (s : ByteArray) (k : Nat) (w : World) (hs : s.size ≤ 5000000) (hk : k ≤ s.size) :
    Calls Tryz.prog 45 #[.string s, .int .i64 k] w fun e w' => e = .returned (.int .i64 (nlI s k)) ∧ ∃ m, w' = w.drewN m :=
  (bulletinref35_end.calls (s.size + 1) s k _ w (end_f s hs _ k (s.size + 1) rfl (by omega) hk)).mono fun _ _ ⟨h, ⟨m, hm⟩⟩ => ⟨h, m, hm⟩

end Go.Proofs.YtceopllngemnnaaGreatDoor


/-
  Decimal and hexadecimal numbers: plain lemmas. For every list of bytes. (Turned from the texts on package ascii by ren.py.)
-/
namespace Go.Proofs.YtceopllngemnnaaGreatDoor
open Go.RowKit Go.Proofs.YtceopllngemnnaaGreatDoorW.PrintWords Go.Proofs.YtceopllngemnnaaGreatDoorW.PrintMore

def mkB (l : List UInt8) : ByteArray := ⟨l.toArray⟩
theorem mkB_data (s : ByteArray) : mkB s.data.toList = s := Lib.mk_data s
theorem data_mkB (l : List UInt8) : (mkB l).data.toList = l := rfl
theorem mkB_size (l : List UInt8) : (mkB l).size = l.length := by simp [mkB, ByteArray.size]

def dig (c : UInt8) : Bool := digitI (c.toNat : Int)
theorem dig_iff (c : UInt8) : dig c = true ↔ 48 ≤ c.toNat ∧ c.toNat ≤ 57 := by
  unfold dig digitI; simp; omega

/-- The number that digits spell behind acc. -/
def val (acc : Nat) : List UInt8 → Nat
  | [] => acc
  | c :: r => val (acc * 10 + (c.toNat - 48)) r

theorem val_ge : ∀ (l : List UInt8) (acc : Nat), acc ≤ val acc l
  | [], acc => Nat.le_refl _
  | c :: r, acc => by
    unfold val
    have := val_ge r (acc * 10 + (c.toNat - 48))
    omega

theorem val_snoc : ∀ (l : List UInt8) (acc : Nat) (c : UInt8), val acc (l ++ [c]) = val acc l * 10 + (c.toNat - 48)
  | [], acc, c => rfl
  | d :: r, acc, c => by
    rw [List.cons_append]
    unfold val
    exact val_snoc r _ c

theorem parse_val : ∀ (l : List UInt8) (acc : Nat), (∀ c ∈ l, dig c = true) → acc < 18446744073709551616 →
    Lib.parseUint10 acc l = if val acc l < 18446744073709551616 then .ok (val acc l) else .range
  | [], acc, _, ha => by unfold val Lib.parseUint10; rw [if_pos ha]
  | c :: r, acc, h, ha => by
    have hc := (dig_iff c).mp (h c List.mem_cons_self)
    have hr := fun d hd => h d (List.mem_cons_of_mem c hd)
    have hge := val_ge r (acc * 10 + (c.toNat - 48))
    unfold val Lib.parseUint10
    rw [if_pos hc]
    by_cases h1 : 1844674407370955162 ≤ acc
    · rw [if_pos h1, if_neg (by omega)]
    · rw [if_neg h1]
      by_cases h2 : 18446744073709551616 ≤ acc * 10 + (c.toNat - 48)
      · rw [if_pos h2, if_neg (by omega)]
      · rw [if_neg h2]
        exact parse_val r _ hr (by omega)

theorem atoi_val (l : List UInt8) (hne : l ≠ []) (h : ∀ c ∈ l, dig c = true) :
    Lib.atoiAll l = if val 0 l < 9223372036854775808 then .ok (val 0 l : Int) else .range := by
  cases l with
  | nil => exact absurd rfl hne
  | cons c r =>
    have hc := (dig_iff c).mp (h c List.mem_cons_self)
    unfold Lib.atoiAll
    have e1 : ¬ (c.toNat = 43 ∨ c.toNat = 45) := by omega
    have e2 : ¬ c.toNat = 45 := by omega
    simp only [if_neg e1]
    unfold Lib.parseMag
    rw [if_neg (by simp), parse_val (c :: r) 0 h (by omega)]
    by_cases h1 : val 0 (c :: r) < 18446744073709551616
    · rw [if_pos h1]
      by_cases h2 : val 0 (c :: r) < 9223372036854775808
      · simp [e2, h2, show ¬ 9223372036854775808 ≤ val 0 (c :: r) by omega]
      · simp [e2, h2, show 9223372036854775808 ≤ val 0 (c :: r) by omega]
    · rw [if_neg h1, if_neg (by omega)]

theorem span_all (p : Int → Bool) (s : ByteArray) (k : Nat) (hk : k ≤ s.size) (h : ∀ j (hj : j < s.size), k ≤ j → p (s[j].toNat : Int) = true) : spanN p s k = s.size := by
  fun_induction spanN p s k with
  | case1 k h1 hp ih => exact ih (by omega) (fun j hj hkj => h j hj (by omega))
  | case2 k h1 hp => exact absurd (h k h1 (Nat.le_refl _)) hp
  | case3 k h1 => omega

theorem span_all' (p : Int → Bool) (s : ByteArray) (k : Nat) (h : spanN p s k = s.size) : ∀ j (hj : j < s.size), k ≤ j → p (s[j].toNat : Int) = true := by
  fun_induction spanN p s k with
  | case1 k h1 hp ih =>
    intro j hj hkj
    by_cases he : j = k
    · subst he; exact hp
    · exact ih h j hj (by omega)
  | case2 k h1 hp => omega
  | case3 k h1 => intro j hj hkj; omega

theorem mem_iff (s : ByteArray) (q : UInt8 → Prop) : (∀ c ∈ s.data.toList, q c) ↔ ∀ j (hj : j < s.size), q s[j] := by
  constructor
  · intro h j hj
    exact h _ (List.mem_iff_getElem.mpr ⟨j, by rw [data_length]; exact hj, rfl⟩)
  · intro h c hc
    obtain ⟨j, hj, rfl⟩ := List.mem_iff_getElem.mp hc
    exact h j (by rw [data_length] at hj; exact hj)

theorem digits_iff (s : ByteArray) : spanN digitI s 0 = s.size ↔ ∀ c ∈ s.data.toList, dig c = true := by
  rw [mem_iff s (fun c => dig c = true)]
  exact ⟨fun h j hj => span_all' digitI s 0 h j hj (Nat.zero_le _), fun h => span_all digitI s 0 (Nat.zero_le _) (fun j hj _ => h j hj)⟩

/-- What Number gives, in plain words. -/
theorem numF_bad (s : ByteArray) (most : Int) (h : s.size = 0 ∨ ¬ (∀ c ∈ s.data.toList, dig c = true) ∨ (bt s 0 = 48 ∧ 1 < s.size)) : numF s most = (0, 3) := by
  unfold numF
  rw [if_pos]
  rcases h with h | h | h
  · exact Or.inl h
  · refine Or.inr (Or.inl ?_)
    have h1 := (spanN_le digitI s 0 (Nat.zero_le _)).2
    have h2 : spanN digitI s 0 ≠ s.size := fun he => h ((digits_iff s).mp he)
    omega
  · exact Or.inr (Or.inr h)

theorem numF_good (s : ByteArray) (most : Int) (h0 : s.size ≠ 0) (h1 : ∀ c ∈ s.data.toList, dig c = true) (h2 : ¬ (bt s 0 = 48 ∧ 1 < s.size)) :
    numF s most = if val 0 s.data.toList < 9223372036854775808 ∧ (val 0 s.data.toList : Int) ≤ most then ((val 0 s.data.toList : Int), 0) else (0, 2) := by
  unfold numF
  have hsp := (digits_iff s).mpr h1
  rw [if_neg (by rw [hsp]; rintro (h | h | h); exact h0 h; omega; exact h2 h),
    atoi_val _ (by intro he; apply h0; rw [← data_length, he]; rfl) h1]
  by_cases h3 : val 0 s.data.toList < 9223372036854775808
  · rw [if_pos h3]
    simp only
    by_cases h4 : (val 0 s.data.toList : Int) ≤ most
    · rw [if_neg (by omega), if_pos ⟨h3, h4⟩]
    · rw [if_pos (by omega), if_neg (by rintro ⟨_, h⟩; exact h4 h)]
  · rw [if_neg h3]
    simp only
    rw [if_neg (by rintro ⟨h, _⟩; exact h3 h)]

theorem dec_digits (u : Nat) : ∀ c ∈ Lib.decDigits u, dig c = true := by
  fun_induction Lib.decDigits u with
  | case1 u h =>
    intro c hc
    obtain rfl := List.mem_singleton.mp hc
    rw [dig_iff, UInt8.toNat_ofNat']; omega
  | case2 u h ih =>
    intro c hc
    rcases List.mem_append.mp hc with hc | hc
    · exact ih c hc
    · obtain rfl := List.mem_singleton.mp hc
      rw [dig_iff, UInt8.toNat_ofNat']; omega

theorem dec_val (u : Nat) : val 0 (Lib.decDigits u) = u := by
  fun_induction Lib.decDigits u with
  | case1 u h =>
    unfold val val
    rw [UInt8.toNat_ofNat']; omega
  | case2 u h ih =>
    rw [val_snoc, ih, UInt8.toNat_ofNat']; omega

theorem dec_ne (u : Nat) : Lib.decDigits u ≠ [] := by
  unfold Lib.decDigits
  split <;> simp

theorem dec_head (u : Nat) : ∀ c, (Lib.decDigits u).head? = some c → c.toNat = 48 → u = 0 := by
  fun_induction Lib.decDigits u with
  | case1 u h =>
    intro c hc h48
    obtain rfl : UInt8.ofNat (48 + u) = c := Option.some.inj hc
    rw [UInt8.toNat_ofNat'] at h48; omega
  | case2 u h ih =>
    intro c hc h48
    rw [List.head?_append] at hc
    cases hh : (Lib.decDigits (u / 10)).head? with
    | none => exact absurd (List.head?_eq_none_iff.mp hh) (dec_ne _)
    | some d =>
      rw [hh] at hc
      simp at hc; subst hc
      have := ih d hh h48
      omega

theorem val_pos : ∀ (l : List UInt8) (acc : Nat), 1 ≤ acc → 1 ≤ val acc l := fun l acc h => Nat.le_trans h (val_ge l acc)

/-- A numeral without a leading zero is what Itoa writes. -/
theorem dec_of_val (l : List UInt8) (hne : l ≠ []) (h : ∀ c ∈ l, dig c = true) (hz : ∀ c r, l = c :: r → c.toNat = 48 → r = []) : Lib.decDigits (val 0 l) = l := by
  have key : ∀ n, ∀ l : List UInt8, l.length = n → l ≠ [] → (∀ c ∈ l, dig c = true) → (∀ c r, l = c :: r → c.toNat = 48 → r = []) → Lib.decDigits (val 0 l) = l := by
    intro n
    induction n with
    | zero => intro l hl hne _ _; exact absurd (List.eq_nil_of_length_eq_zero hl) hne
    | succ n ih =>
      intro l hl hne h hz
      obtain ⟨r, c, rfl⟩ : ∃ r c, l = r ++ [c] := ⟨l.dropLast, l.getLast hne, (List.dropLast_concat_getLast hne).symm⟩
      have hc := (dig_iff c).mp (h c (by simp))
      rw [val_snoc]
      have hco : UInt8.ofNat (48 + (c.toNat - 48)) = c := by
        have : 48 + (c.toNat - 48) = c.toNat := by omega
        rw [this]; exact UInt8.ofNat_toNat
      by_cases hr : r = []
      · subst hr
        show Lib.decDigits (0 * 10 + (c.toNat - 48)) = [c]
        rw [Lib.decDigits, dif_pos (by omega)]
        have : 48 + (0 * 10 + (c.toNat - 48)) = 48 + (c.toNat - 48) := by omega
        rw [this, hco]
      · have hr1 : 1 ≤ val 0 r := by
          obtain ⟨d, q, rfl⟩ : ∃ d q, r = d :: q := by
            cases r with
            | nil => exact absurd rfl hr
            | cons d q => exact ⟨d, q, rfl⟩
          have hd := (dig_iff d).mp (h d (by simp))
          have hd0 : d.toNat ≠ 48 := by
            intro h48
            have := hz d (q ++ [c]) rfl h48
            simp at this
          unfold val
          exact val_pos q _ (by omega)
        have hir := ih r (by simpa using hl) hr (fun d hd => h d (by simp [hd])) (fun d q he h48 => by
          have := hz d (q ++ [c]) (by rw [he]; rfl) h48
          simp at this)
        rw [Lib.decDigits, dif_neg (by omega)]
        have e1 : (val 0 r * 10 + (c.toNat - 48)) / 10 = val 0 r := by omega
        have e2 : 48 + (val 0 r * 10 + (c.toNat - 48)) % 10 = 48 + (c.toNat - 48) := by omega
        rw [e1, e2, hir, hco]
  exact key l.length l rfl hne h hz


theorem bt_head (s : ByteArray) (h : 0 < s.size) : ∃ c r, s.data.toList = c :: r ∧ (c.toNat : Int) = bt s 0 := by
  have hl : s.data.toList = s[0] :: s.data.toList.drop 1 := by
    have := List.drop_eq_getElem_cons (l := s.data.toList) (i := 0) (by rw [data_length]; exact h)
    rw [List.drop_zero] at this
    exact this
  exact ⟨s[0], _, hl, bt_at s 0 h⟩


def nib (n : Int) : Int := if 48 ≤ n ∧ n ≤ 57 then n - 48 else if 97 ≤ n ∧ n ≤ 102 then n - 87 else -1

theorem val_tab : ((List.range 256).all fun n => valI (n : Int) == nib (n : Int)) = true := by kernel_rfl
theorem hex_tab : ((List.range 16).all fun n => nib (bt hexT (n : Int)) == (n : Int)) = true := by kernel_rfl
theorem nib_tab : ((List.range 256).all fun n => decide (nib (n : Int) < 0) || bt hexT (nib (n : Int)) == (n : Int)) = true := by kernel_rfl

theorem valI_nib (n : Int) (h0 : 0 ≤ n) (h1 : n ≤ 255) : valI n = nib n := by
  have := List.all_eq_true.mp val_tab n.toNat (List.mem_range.mpr (by omega))
  have e : (n.toNat : Int) = n := by omega
  rw [e] at this
  simpa using this

theorem nib_hex (x : Int) (h0 : 0 ≤ x) (h1 : x < 16) : nib (bt hexT x) = x := by
  have := List.all_eq_true.mp hex_tab x.toNat (List.mem_range.mpr (by omega))
  have e : (x.toNat : Int) = x := by omega
  rw [e] at this
  simpa using this

theorem hex_nib (n : Int) (h0 : 0 ≤ n) (h1 : n ≤ 255) (h : 0 ≤ nib n) : bt hexT (nib n) = n := by
  have := List.all_eq_true.mp nib_tab n.toNat (List.mem_range.mpr (by omega))
  have e : (n.toNat : Int) = n := by omega
  rw [e] at this
  have h2 : decide (nib n < 0) = false := decide_eq_false (by omega)
  rw [h2] at this
  simpa using this

theorem nib_lt (n : Int) : nib n < 16 := by unfold nib; split; omega; split <;> omega

def toU (l : List Int) : List UInt8 := l.map fun n => UInt8.ofNat n.toNat
theorem hexS_data (l : List Int) : (hexS l).data.toList = toU (hexL l) := strOfNums_data _

theorem drop_two (s : ByteArray) (k : Nat) (a b : UInt8) (r : List UInt8) (h : s.data.toList.drop k = a :: b :: r) :
    k + 1 < s.size ∧ bt s (k : Int) = a.toNat ∧ bt s ((k + 1 : Nat) : Int) = b.toNat ∧ s.data.toList.drop (k + 2) = r := by
  have hl := congrArg List.length h
  simp only [List.length_drop, data_length, List.length_cons] at hl
  have h1 : k < s.size := by omega
  have h2 : k + 1 < s.size := by omega
  have e1 : s.data.toList[k]? = some a := by
    have := congrArg (fun l => l[0]?) h
    simpa using this
  have e2 : s.data.toList[k + 1]? = some b := by
    have := congrArg (fun l => l[1]?) h
    simpa using this
  refine ⟨h2, ?_, ?_, ?_⟩
  · rw [← bt_at s (k : Int) h1]
    have : some s[k] = some a := by rw [← e1, List.getElem?_eq_getElem (by rw [data_length]; exact h1)]; rfl
    rw [← Option.some.inj this]; rfl
  · rw [← bt_at s ((k + 1 : Nat) : Int) h2]
    have : some s[k + 1] = some b := by rw [← e2, List.getElem?_eq_getElem (by rw [data_length]; exact h2)]; rfl
    rw [← Option.some.inj this]; rfl
  · have := congrArg (List.drop 2) h
    rw [List.drop_drop] at this
    simpa using this

theorem u8_back (n : Int) (h0 : 0 ≤ n) (h1 : n ≤ 255) : ((UInt8.ofNat n.toNat).toNat : Int) = n := by
  rw [UInt8.toNat_ofNat']; omega

/-- What Hex writes is read back. -/
theorem unhex_hex (s : ByteArray) : ∀ (rest : List Int) (k f : Nat) (acc : List Int), s.data.toList.drop k = toU (hexL rest) → (∀ x ∈ rest, 0 ≤ x ∧ x ≤ 255) → rest.length < f →
    unhexG s f k acc = (acc ++ rest, 0)
  | [], k, f, acc, hd, _, hf => by
    obtain ⟨f, rfl⟩ : ∃ m, f = m + 1 := ⟨f - 1, by simp at hf; omega⟩
    have hl := congrArg List.length hd
    simp [toU, hexL, data_length] at hl
    unfold unhexG
    rw [if_neg (by omega)]; simp
  | x :: rest, k, f, acc, hd, hb, hf => by
    obtain ⟨f, rfl⟩ : ∃ m, f = m + 1 := ⟨f - 1, by simp at hf; omega⟩
    have hx := hb x List.mem_cons_self
    have he : toU (hexL (x :: rest)) = UInt8.ofNat (bt hexT (x / 16)).toNat :: UInt8.ofNat (bt hexT (x % 16)).toNat :: toU (hexL rest) := by simp [toU, hexL, hexD]
    rw [he] at hd
    obtain ⟨h1, h2, h3, h4⟩ := drop_two s k _ _ _ hd
    have r1 := bt_range hexT (x / 16)
    have r2 := bt_range hexT (x % 16)
    rw [u8_back _ r1.1 r1.2] at h2
    rw [u8_back _ r2.1 r2.2] at h3
    have v1 : valI (bt s (k : Int)) = x / 16 := by rw [h2, valI_nib _ r1.1 r1.2, nib_hex _ (by omega) (by omega)]
    have v2 : valI (bt s ((k + 1 : Nat) : Int)) = x % 16 := by rw [h3, valI_nib _ r2.1 r2.2, nib_hex _ (by omega) (by omega)]
    unfold unhexG
    rw [if_pos (by omega), v1, v2, if_neg (by omega)]
    have e : x / 16 * 16 + x % 16 = x := by omega
    rw [e, unhex_hex s rest (k + 2) f (acc ++ [x]) h4 (fun y hy => hb y (List.mem_cons_of_mem _ hy)) (by simp at hf; omega)]
    simp

theorem unhexF_hexS (l : List Int) (hb : ∀ x ∈ l, 0 ≤ x ∧ x ≤ 255) : unhexF (hexS l) = (l, 0) := by
  have hs : (hexS l).size = 2 * l.length := by rw [← data_length, hexS_data, toU, List.length_map, hexL_length]
  unfold unhexF
  rw [if_neg (by omega)]
  have := unhex_hex (hexS l) l 0 ((hexS l).size + 1) [] (by rw [List.drop_zero, hexS_data]) hb (by omega)
  simpa using this

end Go.Proofs.YtceopllngemnnaaGreatDoor


/-
  number of the document's answer for batches: what it returns, told by what Number of package ascii returns. For every string.
-/
namespace Go.Proofs.YtceopllngemnnaaGreatDoor
open Go.RowKit Go.Proofs.YtceopllngemnnaaGreatDoorW.PrintWords Go.Proofs.YtceopllngemnnaaGreatDoorW.PrintLast Go.Proofs.YtceopllngemnnaaGreatDoorW.PrintMore Go.Proofs.YtceopllngemnnaaGreatDoor.PRef

theorem pow_step (x y n : Nat) (h : x * 10 ≤ y) : x * 10 ^ (n + 1) ≤ y * 10 ^ n := by
  rw [Nat.pow_succ', ← Nat.mul_assoc]
  exact Nat.mul_le_mul_right _ h
theorem pow_step' (x y n : Nat) (h : y ≤ x * 10) : y * 10 ^ n ≤ x * 10 ^ (n + 1) := by
  rw [Nat.pow_succ', ← Nat.mul_assoc]
  exact Nat.mul_le_mul_right _ h
theorem val_pow (l : List UInt8) : ∀ acc : Nat, acc * 10 ^ l.length ≤ val acc l := by
  induction l with
  | nil => intro acc; show acc * 1 ≤ acc; omega
  | cons c r ih =>
    intro acc
    unfold val
    rw [List.length_cons]
    exact Nat.le_trans (pow_step acc (acc * 10 + (c.toNat - 48)) r.length (Nat.le_add_right _ _)) (ih (acc * 10 + (c.toNat - 48)))
theorem val_lt (l : List UInt8) : ∀ acc : Nat, (∀ c ∈ l, dig c = true) → val acc l < (acc + 1) * 10 ^ l.length := by
  induction l with
  | nil => intro acc _; show acc < (acc + 1) * 1; omega
  | cons c r ih =>
    intro acc hd
    have hc := (dig_iff c).mp (hd c List.mem_cons_self)
    unfold val
    rw [List.length_cons]
    exact Nat.lt_of_lt_of_le (ih (acc * 10 + (c.toNat - 48)) (fun x hx => hd x (List.mem_cons_of_mem _ hx))) (pow_step' (acc + 1) (acc * 10 + (c.toNat - 48) + 1) r.length (by omega))

/-- A number, or -1. -/
def numR (s : ByteArray) (most : Int) : Int := if (numF s most).2 = 0 then (numF s most).1 else -1

theorem drop_el (x : ByteArray) (n : Nat) (h : n < x.size) : x.data.toList.drop n = x[n] :: x.data.toList.drop (n + 1) := by
  rw [List.drop_eq_getElem_cons (by rw [data_length]; exact h)]; rfl

theorem number_l0 (s : ByteArray) (most : Int) (hs : s.size ≤ 9) : ∀ d i k (n : Nat), s.size - i = d → i ≤ s.size → d < k → n < 10 ^ i →
    bulletinref35_number.l0 k s most (n : Int) (i : Int) = some (if (∀ c ∈ s.data.toList.drop i, dig c = true) then (if (val n (s.data.toList.drop i) : Int) > most then -1 else (val n (s.data.toList.drop i) : Int)) else -1) := by
  intro d
  induction d with
  | zero =>
    intro i k n h1 h2 h3 h4
    obtain ⟨k, rfl⟩ : ∃ m, k = m + 1 := ⟨k - 1, by omega⟩
    have e : s.data.toList.drop i = [] := List.drop_eq_nil_of_le (by rw [data_length]; omega)
    simp only [bulletinref35_number.l0]
    rw [if_neg (by omega), e, if_pos (show ∀ c ∈ ([] : List UInt8), dig c = true from fun c hc => by cases hc)]
    show _ = some (if (n : Int) > most then -1 else (n : Int))
    by_cases h : (n : Int) > most
    · rw [if_pos h, if_pos h]
    · rw [if_neg h, if_neg h]
  | succ d ih =>
    intro i k n h1 h2 h3 h4
    obtain ⟨k, rfl⟩ : ∃ m, k = m + 1 := ⟨k - 1, by omega⟩
    have hlt : i < s.size := by omega
    have hb : bt s (i : Int) = (s[i].toNat : Int) := (bt_at s (i : Int) hlt).symm
    have h9 : (10 : Nat) ^ i ≤ 10 ^ 9 := Nat.pow_le_pow_right (by decide) (by omega)
    have hn9 : n < 1000000000 := Nat.lt_of_lt_of_le h4 h9
    have hw : wrap64 ((i : Int) + 1) = ((i + 1 : Nat) : Int) := by unfold wrap64; omega
    simp only [bulletinref35_number.l0]
    rw [if_pos (by omega), if_pos (by omega), hb, hw, drop_el s i hlt]
    by_cases hd : dig s[i] = true
    · have hc := (dig_iff s[i]).mp hd
      obtain ⟨c, hcc⟩ : ∃ c, s[i].toNat = c := ⟨_, rfl⟩
      have hv : val n (s[i] :: s.data.toList.drop (i + 1)) = val (n * 10 + (c - 48)) (s.data.toList.drop (i + 1)) := by
        show val (n * 10 + (s[i].toNat - 48)) _ = _
        rw [hcc]
      have hst : wrap64 (wrap64 ((n : Int) * 10) + ((c : Int) - 48) % 256) = ((n * 10 + (c - 48) : Nat) : Int) := by
        have e1 : wrap64 ((n : Int) * 10) = (n : Int) * 10 := by unfold wrap64; omega
        rw [e1]; unfold wrap64; omega
      have hall : (∀ x ∈ s[i] :: s.data.toList.drop (i + 1), dig x = true) ↔ (∀ x ∈ s.data.toList.drop (i + 1), dig x = true) := by
        constructor
        · intro h x hx; exact h x (List.mem_cons_of_mem _ hx)
        · intro h x hx
          rcases List.mem_cons.mp hx with rfl | hx
          · exact hd
          · exact h x hx
      rw [hcc, if_neg (by omega), if_neg (by omega), hst, hv, ih (i + 1) k (n * 10 + (c - 48)) (by omega) (by omega) (by omega) (by rw [Nat.pow_succ]; omega)]
      simp only [hall]
    · have hnd : ¬ (48 ≤ s[i].toNat ∧ s[i].toNat ≤ 57) := fun h => hd ((dig_iff s[i]).mpr h)
      rw [if_neg (show ¬ (∀ x ∈ s[i] :: s.data.toList.drop (i + 1), dig x = true) from fun h => hd (h _ List.mem_cons_self))]
      by_cases hl : (s[i].toNat : Int) < 48
      · rw [if_pos hl]
      · rw [if_neg hl, if_pos (by omega)]

theorem numR_bad (s : ByteArray) (most : Int) (h : s.size = 0 ∨ ¬ (∀ c ∈ s.data.toList, dig c = true) ∨ (bt s 0 = 48 ∧ 1 < s.size)) : numR s most = -1 := by
  unfold numR; rw [numF_bad s most h]; rfl

theorem number_l0R (s : ByteArray) (most : Int) (hs : s.size ≤ 9) (h0 : s.size ≠ 0) (hz : ¬ (bt s 0 = 48 ∧ 1 < s.size)) (k : Nat) (hk : s.size < k) :
    bulletinref35_number.l0 k s most 0 0 = some (numR s most) := by
  have := number_l0 s most hs s.size 0 k 0 rfl (Nat.zero_le _) hk (by decide)
  refine this.trans ?_
  rw [List.drop_zero]
  by_cases hd : ∀ c ∈ s.data.toList, dig c = true
  · rw [if_pos hd]
    unfold numR
    rw [numF_good s most h0 hd hz]
    have hv := val_lt s.data.toList 0 hd
    rw [data_length, Nat.zero_add, Nat.one_mul] at hv
    have h9 : (10 : Nat) ^ s.size ≤ 10 ^ 9 := Nat.pow_le_pow_right (by decide) hs
    have hv9 : val 0 s.data.toList < 1000000000 := Nat.lt_of_lt_of_le hv h9
    by_cases hm : (val 0 s.data.toList : Int) > most
    · rw [if_pos hm, if_neg (c := val 0 s.data.toList < 9223372036854775808 ∧ (val 0 s.data.toList : Int) ≤ most) (by omega)]; rfl
    · rw [if_neg hm, if_pos (c := val 0 s.data.toList < 9223372036854775808 ∧ (val 0 s.data.toList : Int) ≤ most) (by omega)]; rfl
  · rw [if_neg hd, numR_bad s most (Or.inr (Or.inl hd))]

theorem numR_long (s : ByteArray) (most : Int) (hm : most < 1000000000) (h : 9 < s.size) : numR s most = -1 := by
  by_cases hbad : ¬ (∀ c ∈ s.data.toList, dig c = true) ∨ (bt s 0 = 48 ∧ 1 < s.size)
  · exact numR_bad s most (Or.inr hbad)
  · have hd : ∀ c ∈ s.data.toList, dig c = true := Classical.not_not.mp fun h => hbad (Or.inl h)
    have hz : ¬ (bt s 0 = 48 ∧ 1 < s.size) := fun h => hbad (Or.inr h)
    obtain ⟨c, r, hl, hc⟩ := bt_head s (by omega)
    have hc2 := (dig_iff c).mp (hd c (by rw [hl]; exact List.mem_cons_self))
    have hlen : r.length + 1 = s.size := by rw [← data_length, hl]; rfl
    have hv : (c.toNat - 48) * 10 ^ r.length ≤ val 0 s.data.toList := by
      rw [hl]
      show _ ≤ val (0 * 10 + (c.toNat - 48)) r
      rw [Nat.zero_mul, Nat.zero_add]
      exact val_pow r _
    have h9 : (10 : Nat) ^ 9 ≤ 10 ^ r.length := Nat.pow_le_pow_right (by decide) (by omega)
    have hc3 : 1 ≤ c.toNat - 48 := by
      have : ¬ bt s 0 = 48 := fun h => hz ⟨h, by omega⟩
      omega
    have hbig : 1000000000 ≤ val 0 s.data.toList := Nat.le_trans (Nat.le_trans h9 (by have := Nat.mul_le_mul_right (10 ^ r.length) hc3; rwa [Nat.one_mul] at this)) hv
    unfold numR
    rw [numF_good s most (by omega) hd hz, if_neg (c := val 0 s.data.toList < 9223372036854775808 ∧ (val 0 s.data.toList : Int) ≤ most) (by omega)]
    rfl

theorem number_f (s : ByteArray) (most : Int) (hm : most < 1000000000) : bulletinref35_number.f 20 s most = some (numR s most) := by
  unfold bulletinref35_number.f
  have hk : (20 : Nat) = 19 + 1 := rfl
  by_cases h0 : s.size = 0
  · rw [if_pos (toList_nil h0), hk, numR_bad s most (Or.inl h0)]
    simp only [bulletinref35_number.j0]
    rw [if_pos trivial]
  · rw [if_neg (toList_ne (by omega))]
    by_cases h9 : (s.size : Int) > 9
    · rw [if_pos h9, hk, numR_long s most hm (by omega)]
      simp only [bulletinref35_number.j0]
      rw [if_pos trivial]
    · rw [if_neg h9]
      by_cases hz : bt s 0 = 48 ∧ 1 < s.size
      · rw [if_pos (by omega), if_pos (by omega), hk, numR_bad s most (Or.inr (Or.inr hz)), hz.1]
        simp only [bulletinref35_number.j0]
        rw [if_pos (by rfl)]
      · have main := number_l0R s most (by omega) h0 hz 19 (by omega)
        by_cases h1 : 1 < s.size
        · have : ¬ bt s 0 = 48 := fun h => hz ⟨h, h1⟩
          have hb : (bt s 0 == 48) = false := by simpa using this
          rw [if_pos (by omega), if_pos (by omega), hb, hk]
          simp only [bulletinref35_number.j0]
          rw [if_neg (by simp)]
          exact main
        · rw [if_neg (by omega), hk]
          simp only [bulletinref35_number.j0]
          rw [if_neg (by simp)]
          exact main

theorem rnumber_any (s : ByteArray) (most : Int) (w : World) (hm : most < 1000000000) :
    Calls Tryz.prog 47 #[.string s, .int .i64 most] w fun e w' => e = .returned (.int .i64 (numR s most)) ∧ ∃ m, w' = w.drewN m :=
  (bulletinref35_number.calls 20 s most _ w (number_f s most hm)).mono fun _ _ ⟨h, ⟨m, hm⟩⟩ => ⟨h, m, hm⟩

end Go.Proofs.YtceopllngemnnaaGreatDoor


/-
  The text of batches, told without the program: what differs from a batch's text at one place and is a batch's text bears another item of the same digest. For every way to write numbers, digests and identities that keeps the lengths and the separators.
-/
namespace Go.Proofs.YtceopllngemnnaaGreatDoor

theorem split_at {c : UInt8} : ∀ {a b u v : List UInt8}, a ++ c :: u = b ++ c :: v → c ∉ a → c ∉ b → a = b ∧ u = v
  | [], [], u, v, h, _, _ => ⟨rfl, by simpa using h⟩
  | [], y :: b, u, v, h, _, hb => by
    simp at h
    exact absurd h.1 (by rintro rfl; exact hb List.mem_cons_self)
  | x :: a, [], u, v, h, ha, _ => by
    simp at h
    exact absurd h.1 (by rintro rfl; exact ha List.mem_cons_self)
  | x :: a, y :: b, u, v, h, ha, hb => by
    simp at h
    obtain ⟨rfl, h⟩ := h
    obtain ⟨rfl, h2⟩ := split_at h (fun hc => ha (List.mem_cons_of_mem _ hc)) (fun hc => hb (List.mem_cons_of_mem _ hc))
    exact ⟨rfl, h2⟩

theorem app_split {a b u v : List UInt8} (h : a ++ u = b ++ v) (hl : a.length = b.length) : a = b ∧ u = v := List.append_inj h hl
/-- What stands at a place of two equal rows, told by lengths. -/
theorem app_longer {a b u v : List UInt8} (h : a ++ u = b ++ v) (hl : a.length ≤ b.length) : ∃ z, b = a ++ z ∧ u = z ++ v := by
  rcases List.append_eq_append_iff.mp h with ⟨z, h1, h2⟩ | ⟨z, h1, h2⟩
  · exact ⟨z, h1, h2⟩
  · have : z = [] := by
      have := congrArg List.length h1
      simp at this
      exact List.eq_nil_of_length_eq_zero (by omega)
    subst this
    exact ⟨[], by simpa using h1.symm, by simpa using h2.symm⟩

def artW : List UInt8 := [97, 114, 116, 105, 99, 108, 101, 32]
def batW : List UInt8 := [98, 97, 116, 99, 104, 32]
def endW : List UInt8 := [101, 110, 100, 10]

/-- How items are written: numbers, digests, identities. -/
structure Fmt (ι : Type) where
  dec : Nat → List UInt8
  dg : ι × List UInt8 → List UInt8
  pr : ι → List UInt8
  ok : ι → Prop
  dec_sep : ∀ n, ∀ c ∈ dec n, c ≠ 10 ∧ c ≠ 32 ∧ c ≠ 97 ∧ c ≠ 101
  dec_inj : ∀ m n, dec m = dec n → m = n
  dec_ne : ∀ n, dec n ≠ []
  dg_len : ∀ x, (dg x).length = 32
  dg_sep : ∀ x, ∀ c ∈ dg x, c ≠ 10 ∧ c ≠ 32
  pr_len : ∀ i, ok i → (pr i).length = 71
  pr_sep : ∀ i, ok i → ∀ c ∈ pr i, c ≠ 10 ∧ c ≠ 32
  pr_inj : ∀ i j, ok i → ok j → pr i = pr j → i = j

namespace Fmt
variable {ι : Type} (F : Fmt ι)
def line (x : ι × List UInt8) : List UInt8 := artW ++ (F.dec x.2.length ++ 32 :: (F.dg x ++ 32 :: F.pr x.1))
def item (x : ι × List UInt8) : List UInt8 := F.line x ++ 10 :: (x.2 ++ [10])
def cat (l : List (ι × List UInt8)) : List UInt8 := l.flatMap F.item
def text (l : List (ι × List UInt8)) : List UInt8 := batW ++ (F.dec l.length ++ 10 :: (F.cat l ++ endW))

variable {F}
theorem line_sep {x : ι × List UInt8} (h : F.ok x.1) : 10 ∉ F.line x := by
  intro hc
  simp only [line, artW, List.mem_append, List.mem_cons, List.not_mem_nil, or_false] at hc
  rcases hc with (h1 | h1 | h1 | h1 | h1 | h1 | h1 | h1) | h1 | h1 | h1 | h1 | h1
  all_goals first
    | exact absurd h1 (by decide)
    | exact (F.dec_sep _ _ h1).1 rfl
    | exact (F.dg_sep _ _ h1).1 rfl
    | exact (F.pr_sep _ h _ h1).1 rfl

theorem dec_nl (n : Nat) : 10 ∉ F.dec n := fun h => (F.dec_sep n _ h).1 rfl

theorem item_head (x : ι × List UInt8) : ∃ r, F.item x = 97 :: r := ⟨_, rfl⟩
theorem cat_cons (x : ι × List UInt8) (l : List (ι × List UInt8)) : F.cat (x :: l) = F.item x ++ F.cat l := rfl

/-- Two rows that differ at one place. -/
def Near (u v : List UInt8) : Prop := ∃ p a b q, u = p ++ a :: q ∧ v = p ++ b :: q ∧ a ≠ b

theorem Near.len {u v : List UInt8} (h : Near u v) : u.length = v.length := by
  obtain ⟨p, a, b, q, rfl, rfl, _⟩ := h
  simp
theorem Near.ne {u v : List UInt8} (h : Near u v) : u ≠ v := by
  obtain ⟨p, a, b, q, rfl, rfl, hab⟩ := h
  intro he
  have := List.append_cancel_left he
  simp at this
  exact hab this
theorem Near.cases {α α' β β' : List UInt8} (h : Near (α ++ β) (α' ++ β')) (hl : α.length = α'.length) : (Near α α' ∧ β = β') ∨ (α = α' ∧ Near β β') := by
  obtain ⟨p, a, b, q, h1, h2, hab⟩ := h
  by_cases hp : α.length ≤ p.length
  · obtain ⟨z, rfl, hz⟩ := app_longer h1 hp
    rw [List.append_assoc] at h2
    obtain ⟨rfl, h4⟩ := app_split h2 hl.symm
    exact Or.inr ⟨rfl, z, a, b, q, hz, h4, hab⟩
  · obtain ⟨z, hz1, hz2⟩ := app_longer h1.symm (by omega)
    obtain ⟨z', hz1', hz2'⟩ := app_longer h2.symm (by omega)
    have hzl : z.length = z'.length := by
      have e1 := congrArg List.length hz1
      have e2 := congrArg List.length hz1'
      simp at e1 e2; omega
    cases z with
    | nil => simp at hz1; subst hz1; omega
    | cons c z =>
      cases z' with
      | nil => simp at hzl
      | cons c' z' =>
        simp at hz2 hz2' hzl
        obtain ⟨rfl, rfl⟩ := hz2
        obtain ⟨rfl, hq⟩ := hz2'
        obtain ⟨rfl, rfl⟩ := app_split hq hzl
        exact Or.inl ⟨⟨p, a, b, z, hz1, hz1', hab⟩, rfl⟩

theorem line_len {x : ι × List UInt8} (hx : F.ok x.1) : (F.line x).length = (F.dec x.2.length).length + 113 := by
  simp [line, artW, F.dg_len, F.pr_len _ hx]

/-- Two lines that differ at one place, before the same rest. -/
theorem line_near {x o : ι × List UInt8} (hx : F.ok x.1) (ho : F.ok o.1) (h : Near (F.line x) (F.line o)) : (F.dg x = F.dg o) ∨ (x.2.length = o.2.length ∧ x.1 = o.1) := by
  have hl := h.len
  rw [line_len hx, line_len ho] at hl
  unfold line at h
  rcases h.cases rfl with ⟨h1, _⟩ | ⟨_, h1⟩
  · exact absurd rfl h1.ne
  rcases h1.cases (by omega) with ⟨_, h2⟩ | ⟨hd, h2⟩
  · simp at h2
    exact Or.inl (app_split h2 (by rw [F.dg_len, F.dg_len])).1
  · have h3 : Near ([32] ++ (F.dg x ++ 32 :: F.pr x.1)) ([32] ++ (F.dg o ++ 32 :: F.pr o.1)) := h2
    rcases h3.cases rfl with ⟨h4, _⟩ | ⟨_, h4⟩
    · exact absurd rfl h4.ne
    rcases h4.cases (by rw [F.dg_len, F.dg_len]) with ⟨_, h5⟩ | ⟨h5, _⟩
    · exact Or.inr ⟨F.dec_inj _ _ hd, F.pr_inj _ _ hx ho (by simpa using h5)⟩
    · exact Or.inl h5

theorem head_nl (n : Nat) : 10 ∉ batW ++ F.dec n := by
  intro h
  simp only [batW, List.mem_append, List.mem_cons, List.not_mem_nil, or_false] at h
  rcases h with (h | h | h | h | h | h) | h
  all_goals first
    | exact absurd h (by decide)
    | exact dec_nl n h

end Fmt
end Go.Proofs.YtceopllngemnnaaGreatDoor


/-
  Words for items: how an item lies in memory, loads and stores of items, slices of items. For every item.
-/
namespace Go.Proofs.YtceopllngemnnaaGreatDoor
open Go.RowKit Go.Proofs.YtceopllngemnnaaGreatDoorW.PrintWords Go.Proofs.YtceopllngemnnaaGreatDoorW.PrintLast Go.Proofs.YtceopllngemnnaaGreatDoorW.PrintMore Go.Proofs.YtceopllngemnnaaGreatDoor.PRef

/-- An item: its identity and its text. -/
abbrev It := List Int × ByteArray
def okId (l : List Int) : Prop := l.length = 32 ∧ ∀ x ∈ l, 0 ≤ x ∧ x ≤ 255
def itV (x : It) : Array Value := (u8s x.1).push (.string x.2)
/-- n operations: those at b's bits are done. -/
def fl (n b : Nat) : Array Bool := ((List.range n).map fun i => b.testBit i).toArray
def zId : List Int := List.replicate 32 0
def zIt : It := (zId, ByteArray.empty)
theorem okId_z : okId zId := ⟨rfl, by intro x hx; rw [List.eq_of_mem_replicate hx]; omega⟩

theorem itV_size {x : It} (h : okId x.1) : (itV x).size = 33 := by simp [itV, u8s_size, h.1]
theorem itV_one (x : It) : (itV x).all (·.oneCell') = true := by
  unfold itV
  rw [Array.all_push, u8s_one]
  rfl
theorem itV_str {x : It} (h : okId x.1) : (itV x)[32]? = some (.string x.2) := by
  have hs : (u8s x.1).size = 32 := by rw [u8s_size, h.1]
  unfold itV
  rw [← hs, Array.getElem?_push_size]
theorem itV_id {x : It} (h : okId x.1) (j : Nat) (hj : j < 32) : (itV x)[j]? = (u8s x.1)[j]? := by
  have hs : (u8s x.1).size = 32 := by rw [u8s_size, h.1]
  unfold itV
  rw [Array.getElem?_push, if_neg (by omega)]
theorem size39 : (Tryz.prog.info? 39).map (·.size) = some 33 := by kernel_rfl
theorem size36 : (Tryz.prog.info? 36).map (·.size) = some 33 := by kernel_rfl
theorem zero39 : (Tryz.prog.info? 39).map (fun i => (i.zero, i.size)) = some (some (.agg (itV zIt)), 33) := by kernel_rfl
theorem zero36 : (Tryz.prog.info? 36).map (fun i => (i.zero, i.size)) = some (some (.agg (itV zIt)), 33) := by kernel_rfl
theorem zero37 : (Tryz.prog.info? 37).map (fun i => (i.zero, i.size)) = some (some (.agg (u8s zId)), 32) := by kernel_rfl
theorem zero34 : (Tryz.prog.info? 34).map (fun i => (i.zero, i.size)) = some (some (.agg (u8s zId)), 32) := by kernel_rfl

section
variable {P : Program}
/-- A value of several cells, from any address. -/
theorem run_load_cells {W : World} {A : Addr} {t : TypeId} {cs : Array Value} {d : TypeDesc} (hu : P.underlying t = some d) (hd : d.isRow = true) (hi : (P.info? t).map (·.size) = some cs.size)
    (h : ∀ (j : Nat) v, cs[j]? = some v → W.cell? (A.add j) = some v) : (Instr.loadAt t (.pointer (some A))).run P W = .ok (.agg cs) W := by
  have hl : (loadCells A cs.toList.length).run P W = .ok cs.toList.toArray W := run_loadCells_list (P := P) W A cs.toList (fun j v hv => h j v (by simpa using hv))
  have hv : (loadVar t A).run P W = .ok (.agg cs) W := by
    cases hq : P.info? t with
    | none => simp [hq] at hi
    | some i =>
      have hs : i.size = cs.size := by simpa [hq] using hi
      have hagg : (isAgg t).run P W = .ok true W := by
        unfold isAgg
        rw [Sem.run_bind, run_underlying hu W]
        cases d <;> simp_all
      have hl' : (loadCells A cs.size).run P W = .ok cs W := by simpa using hl
      simp [loadVar, Sem.run_bind, hagg, sizeOf, typeInfo, hq, hs, hl']
  simp only [Instr.loadAt, Instr.sureAddr, Sem.run_bind, Sem.run_pure, Result.andThen_ok, hv]

theorem exec_load {o : Oper} {a : Act} {W : World} {t : TypeId} {p : Tmp} {A : Option Addr} {v : Value} (ho : o.op = .load t (.tmp p)) (ha : a.eval (.tmp p) = .pointer A) (h : (Instr.loadAt t (.pointer A)).run P W = .ok v W) : (execOp a.eval o).run P W = .ok (.value v) W := by
  simp [execOp, ho, ha, h]

/-- The first cells of a block. -/
theorem blk_head {W : World} {g t : Nat} {cs hd : Array Value} (h : Blk W g cs t) (hh : ∀ (j : Nat) v, hd[j]? = some v → cs[j]? = some v) : ∀ (j : Nat) v, hd[j]? = some v → W.cell? ((⟨g, 0, none⟩ : Addr).add j) = some v := by
  intro j v hv
  rw [add_plain, Lib.cell_of_heap h]
  exact hh j v hv
theorem it_head {x : It} (h : okId x.1) : ∀ (j : Nat) v, (u8s x.1)[j]? = some v → (itV x)[j]? = some v := by
  intro j v hv
  have hj : j < 32 := by
    have := (Array.getElem?_eq_some_iff.1 hv).1
    rw [u8s_size, h.1] at this
    exact this
  rw [itV_id h j hj]
  exact hv
end

section
variable {P : Program} {ops : Array Oper} {rest : List Oper} {o : Oper} {a : Act} {Q : Exit → Act → World → Prop} {S : World → Prop}
theorem yields_id {g t ty : Nat} {x : It} {d : TypeDesc} (hw : Region.wanted o (yielded ops a.tmps) = true) {p : Tmp} (ho : o.op = .load ty (.tmp p)) (haddr : a.eval (.tmp p) = .pointer (some ⟨g, 0, none⟩)) (hS : ∀ w, S w → Blk w g (itV x) t) (hx : okId x.1)
    (hu : P.underlying ty = some d) (hd : d.isRow = true) (hi : (P.info? ty).map (·.size) = some 32) : YieldsIf P ops S o (.agg (u8s x.1)) a :=
  .inl ⟨hw, fun w hS' => exec_load ho haddr (run_load_cells hu hd (by rw [u8s_size, hx.1]; exact hi) (blk_head (hS w hS') (it_head hx)))⟩
/-- A whole block. -/
theorem yields_blk {g t ty : Nat} {cs : Array Value} {d : TypeDesc} (hw : Region.wanted o (yielded ops a.tmps) = true) {p : Tmp} (ho : o.op = .load ty (.tmp p)) (haddr : a.eval (.tmp p) = .pointer (some ⟨g, 0, none⟩)) (hS : ∀ w, S w → Blk w g cs t)
    (hu : P.underlying ty = some d) (hd : d.isRow = true) (hi : (P.info? ty).map (·.size) = some cs.size) : YieldsIf P ops S o (.agg cs) a :=
  .inl ⟨hw, fun w hS' => exec_load ho haddr (run_load_cells hu hd hi (blk_head (hS w hS') (fun _ _ h => h)))⟩
end

/-- The kind of an item in a slice. -/
def Kit : Kd It where
  sz := 33
  E := []
  K := fun _ x cs => cs = (itV x).toList ∧ okId x.1
  M := fun _ _ _ x cs => cs = (itV x).toList ∧ okId x.1
  K_len := fun h => by rw [h.1, Array.length_toList, itV_size h.2]
  K_one := @fun w x cs h u hu => by
    rw [h.1] at hu
    exact Array.all_eq_true_iff_forall_mem.mp (itV_one x) u (Array.mem_toList_iff.mp hu)
  K_below := fun _ h => h
  K_of_M := fun h => h
  M_mono := fun _ h => h
  M_bound := fun h => h
  M_move := fun _ h => h
  M_lower := fun _ h => h

/-! ### building an item -/
theorem fill_step {place : Nat → Option (Nat × Nat)} {cells : Array Value} {i off size : Nat} {v : Value} {rest : List (Nat × Value)} (h : place i = some (off, size)) (hv : v.cells.size = size) (hle : off + size ≤ cells.size) :
    Instr.fill place cells ((i, v) :: rest) = Instr.fill place (v.cells.zipIdx.foldl (fun cs (x : Value × Nat) => cs.setIfInBounds (off + x.2) x.1) cells) rest := by
  rw [Instr.fill]
  simp only [h, hv]
  rw [if_neg (by simp; omega)]
theorem fill_item (V : Array Value) (s : ByteArray) (Z : Array Value) (hV : V.size = 32) (hZ : Z.size = 33) : Instr.fill ((#[(0, 32), (32, 1)] : Array (Nat × Nat))[·]?) Z [(0, .agg V), (1, .string s)] = some (V.push (.string s)) := by
  obtain ⟨g1, g2⟩ := Great.foldl_set 0 V.toList 0 Z
  have e1 : (V.zipIdx.foldl (fun (cs : Array Value) (x : Value × Nat) => cs.setIfInBounds (0 + x.2) x.1) Z) = (V.toList.zipIdx 0).foldl (fun (cs : Array Value) (x : Value × Nat) => cs.setIfInBounds (0 + x.2) x.1) Z := by
    rw [← Array.foldl_toList, Array.toList_zipIdx]
  obtain ⟨R, hR⟩ : ∃ R, (V.toList.zipIdx 0).foldl (fun (cs : Array Value) (x : Value × Nat) => cs.setIfInBounds (0 + x.2) x.1) Z = R := ⟨_, rfl⟩
  rw [hR] at g1 g2 e1
  have hfill : Instr.fill ((#[(0, 32), (32, 1)] : Array (Nat × Nat))[·]?) Z [(0, .agg V), (1, .string s)] = some (R.setIfInBounds 32 (.string s)) := by
    rw [fill_step (v := .agg V) (off := 0) (size := 32) rfl hV (by omega)]
    show Instr.fill _ (V.zipIdx.foldl _ Z) _ = _
    rw [e1, fill_step (v := .string s) (off := 32) (size := 1) rfl rfl (by omega)]
    rfl
  rw [hfill]
  congr 1
  apply Array.ext_getElem?
  intro j
  rw [Array.getElem?_setIfInBounds, Array.getElem?_push, hV, g1, hZ]
  by_cases hj : j = 32
  · subst hj; simp
  · rw [if_neg (fun h => hj h.symm), if_neg hj, g2 j]
    by_cases hj2 : j < 32
    · rw [if_pos (by simp [hV]; omega)]
      simp
    · rw [if_neg (by simp [hV]; omega), Array.getElem?_eq_none (by omega), Array.getElem?_eq_none (by omega)]

theorem built39 (V : Array Value) (s : ByteArray) (hV : V.size = 32) : Tryz.prog.built 39 [(0, .agg V), (1, .string s)] = some (V.push (.string s)) :=
  (show Tryz.prog.built 39 [(0, .agg V), (1, .string s)] = Instr.fill ((#[(0, 32), (32, 1)] : Array (Nat × Nat))[·]?) (itV zIt) [(0, .agg V), (1, .string s)] by kernel_rfl).trans (fill_item V s _ hV (itV_size okId_z))
theorem built36 (V : Array Value) (s : ByteArray) (hV : V.size = 32) : Tryz.prog.built 36 [(0, .agg V), (1, .string s)] = some (V.push (.string s)) :=
  (show Tryz.prog.built 36 [(0, .agg V), (1, .string s)] = Instr.fill ((#[(0, 32), (32, 1)] : Array (Nat × Nat))[·]?) (itV zIt) [(0, .agg V), (1, .string s)] by kernel_rfl).trans (fill_item V s _ hV (itV_size okId_z))
theorem builtz39 : Tryz.prog.built 39 [] = some (itV zIt) := by kernel_rfl
theorem builtz36 : Tryz.prog.built 36 [] = some (itV zIt) := by kernel_rfl
theorem builtz37 : Tryz.prog.built 37 [] = some (u8s zId) := by kernel_rfl
theorem builtz34 : Tryz.prog.built 34 [] = some (u8s zId) := by kernel_rfl

theorem fill_one (V Z : Array Value) (n : Nat) (hV : V.size = n) (hZ : Z.size = n) : Instr.fill (fun i => some (i * n, n)) Z [(0, .agg V)] = some V := by
  obtain ⟨g1, g2⟩ := Great.foldl_set 0 V.toList 0 Z
  have e1 : (V.zipIdx.foldl (fun (cs : Array Value) (x : Value × Nat) => cs.setIfInBounds (0 * n + x.2) x.1) Z) = (V.toList.zipIdx 0).foldl (fun (cs : Array Value) (x : Value × Nat) => cs.setIfInBounds (0 + x.2) x.1) Z := by
    rw [← Array.foldl_toList, Array.toList_zipIdx]
    simp only [Nat.zero_mul]
  rw [fill_step (v := .agg V) (off := 0 * n) (size := n) rfl hV (by omega)]
  show Instr.fill _ (V.zipIdx.foldl _ Z) _ = _
  rw [e1, Instr.fill]
  congr 1
  apply Array.ext_getElem?
  intro j
  rw [g2 j]
  by_cases hj : j < n
  · rw [if_pos (by simp [hV, hZ]; omega)]; simp
  · rw [if_neg (by simp [hV, hZ]; omega), Array.getElem?_eq_none (by omega), Array.getElem?_eq_none (by omega)]

section
variable {P : Program} {ops : Array Oper} {rest : List Oper} {o o2 : Oper} {a : Act} {Q : Exit → Act → World → Prop}
/-- A variable and what is stored into it at once. -/
theorem var_blk {W : World} {t n : Nat} {N : Tmp} {x : Operand} {cs zs : Array Value} (hgd : o.guard = none) (ho : o.op = .alloc t) (hd : o.dst = some N) (hgd2 : o2.guard = none) (ho2 : o2.op = .store t (.tmp N) x) (hd2 : o2.dst = none)
    (hz : (P.info? t).map (fun i => (i.zero, i.size)) = some (some (.agg zs), n)) (hzn : zs.size = n) (hcn : cs.size = n) (h1 : cs.all (·.oneCell') = true)
    (hx : ∀ p, (a.put (some N) p).eval x = .agg cs) (hN : ∀ p, (a.put (some N) p).eval (.tmp N) = p)
    (hk : ∀ g w1, g = W.heap.size → Blk w1 g cs t → Below W.heap.size W w1 → wpList P ops Q rest (a.put (some N) (.pointer (some ⟨g, 0, none⟩))) w1) : wpList P ops Q (o :: o2 :: rest) a W := by
  refine alloc_blk hgd ho hd hz ?_
  intro g w1 hg hb hw
  have hi : (P.info? t).map (·.size) = some cs.size := by
    cases hq : P.info? t with
    | none => simp [hq] at hz
    | some i =>
      simp [hq] at hz
      simp [hz.2, hcn]
  refine store_blk_l hgd2 ho2 hd2 (hN _) (hx _) hb hi (by omega) h1 ?_
  intro w2 hb2 hw2 _
  exact hk g w2 hg hb2 (hw2 W W.heap.size (by omega) hw)

/-- A struct or array literal. -/
theorem build_blk {W : World} {t : Nat} {parts : Array (Nat × Operand)} {cs : Array Value} (hgd : o.guard = none) (ho : o.op = .build t parts) {vs : List (Nat × Value)} (hp : (parts.map fun (i, x) => (i, a.eval x)).toList = vs) (hb : P.built t vs = some cs)
    (hk : wpList P ops Q rest (a.put o.dst (.agg cs)) W) : wpList P ops Q (o :: rest) a W := by
  refine Kd.event_run hgd ?_ hk
  subst hp
  simp only [execOp, ho, Sem.run_bind, run_build W t _ cs hb, Result.andThen_ok]
  rfl
/-- A slice of one struct. -/
theorem slice_one {W : World} {t e : Nat} {x : Operand} {cs : Array Value} {zs : Array Value} {n : Nat} (hgd : o.guard = none) (ho : o.op = .buildSlice t 1 #[(0, x)]) (hx : a.eval x = .agg cs) (hu : P.underlying t = some (.slice e))
    (hz : (P.info? e).map (fun i => (i.zero, i.size)) = some (some (.agg zs), n)) (hzn : zs.size = n) (hcn : cs.size = n) (h0 : 0 < n) (h24 : n ≤ 16777216)
    (hk : ∀ g w1, g = W.heap.size → Blk w1 g cs e → Below W.heap.size W w1 → wpList P ops Q rest (a.put o.dst (.slice (some ⟨g, 0, none⟩) 1 1)) w1) : wpList P ops Q (o :: rest) a W := by
  obtain ⟨i, hi, hzz⟩ := Option.map_eq_some_iff.1 hz
  simp only [Prod.mk.injEq] at hzz
  obtain ⟨hz0, hz1⟩ := hzz
  refine wpList_buildSlice hgd t e 1 _ ho cs i (.agg zs) hu hi hz0 (by omega) (by omega) ?_ (hk _ _ rfl (blk_new W _) (below_alloc (Below.refl _ _) _))
  rw [hz1]
  have : (#[(0, x)].map fun (p : Nat × Operand) => (p.1, a.eval p.2)).toList = [(0, .agg cs)] := by simp [hx]
  rw [this]
  refine fill_one cs _ n hcn ?_
  simp
end

/-! ### slices of items -/
theorem Kit.at_ {W : World} {A : Option Addr} {n : Nat} {l : List It} (h : Kit.C W A n l) (k : Nat) (hk : k < n) : ∃ ad x, A = some ad ∧ l[k]? = some x ∧ okId x.1 ∧ ∀ (j : Nat) v, (itV x)[j]? = some v → W.cell? ((ad.add (k * 33)).add j) = some v := by
  obtain ⟨ad, e, hc⟩ := h.2.2 (by omega)
  have hl : k < l.length := by have := h.1; omega
  obtain ⟨c, hs, hr, hcell⟩ := hc k _ (List.getElem?_eq_getElem hl)
  refine ⟨ad, l[k], e, List.getElem?_eq_getElem hl, hr.2, fun j v hv => ?_⟩
  have h1 := hcell j v (by rw [hr.1]; simpa using hv)
  rw [Go.Proofs.YtceopllngemnnaaGreatDoorW.PrintWords.add_add]
  exact h1
theorem Kit.of_blk {W : World} {g t : Nat} {x : It} (h : Blk W g (itV x) t) (hx : okId x.1) : Kit.C W (some ⟨g, 0, none⟩) 1 [x] := by
  refine ⟨rfl, by omega, fun _ => ⟨_, rfl, fun j p hj => ?_⟩⟩
  cases j with
  | succ j => simp at hj
  | zero =>
    obtain rfl : x = p := by simpa using hj
    refine ⟨(itV x).toList, by rw [Array.length_toList, itV_size hx]; rfl, ⟨rfl, hx⟩, fun i u hu => ?_⟩
    rw [add_plain, Lib.cell_of_heap h]
    simpa using hu
section
variable {P : Program} {ops : Array Oper} {rest : List Oper} {o : Oper} {a : Act} {Q : Exit → Act → World → Prop}
/-- An item out of a slice of items. -/
theorem load_it {W : World} {ty : Nat} {x : It} {ad : Addr} {d : TypeDesc} (hgd : o.guard = none) {p : Tmp} (ho : o.op = .load ty (.tmp p)) (haddr : a.eval (.tmp p) = .pointer (some ad)) (h : ∀ (j : Nat) v, (itV x)[j]? = some v → W.cell? (ad.add j) = some v) (hx : okId x.1)
    (hu : P.underlying ty = some d) (hd : d.isRow = true) (hi : (P.info? ty).map (·.size) = some 33)
    (hk : wpList P ops Q rest (a.put o.dst (.agg (itV x))) W) : wpList P ops Q (o :: rest) a W :=
  Kd.event_run hgd (exec_load ho haddr (run_load_cells hu hd (by rw [itV_size hx]; exact hi) h)) hk
end

end Go.Proofs.YtceopllngemnnaaGreatDoor


/-
  The text of batches, plain: lines, words, heads, items: what is read and when. For every string.
-/
namespace Go.Proofs.YtceopllngemnnaaGreatDoor
open Go.RowKit Go.Proofs.YtceopllngemnnaaGreatDoorW.PrintWords Go.Proofs.YtceopllngemnnaaGreatDoorW.PrintMore

/-! ### lines -/
theorem drop_at (s : ByteArray) (k : Nat) (h : k < s.size) : s.data.toList.drop k = s[k] :: s.data.toList.drop (k + 1) := drop_el s k h
theorem byte10 (c : UInt8) : (c.toNat : Int) = 10 ↔ c = 10 := by
  constructor
  · intro h
    have : c.toNat = 10 := by omega
    exact UInt8.toNat_inj.mp this
  · rintro rfl; rfl

theorem nl_some (s : ByteArray) (k : Nat) : ∀ j, nl s k = some j → ∃ a r, s.data.toList.drop k = a ++ 10 :: r ∧ 10 ∉ a ∧ j = k + a.length := by
  fun_induction nl s k with
  | case1 k h hc =>
    intro j hj
    obtain rfl := Option.some.inj hj
    refine ⟨[], s.data.toList.drop (k + 1), ?_, by simp, rfl⟩
    rw [drop_at s k h, (byte10 _).mp hc]; rfl
  | case2 k h hc ih =>
    intro j hj
    obtain ⟨a, r, h1, h2, h3⟩ := ih j hj
    refine ⟨s[k] :: a, r, by rw [drop_at s k h, h1]; rfl, ?_, by simp; omega⟩
    intro hm
    rcases List.mem_cons.mp hm with e | e
    · exact hc ((byte10 _).mpr e.symm)
    · exact h2 e
  | case3 k h => intro j hj; cases hj

theorem nl_none (s : ByteArray) (k : Nat) (h : nl s k = none) : 10 ∉ s.data.toList.drop k := by
  fun_induction nl s k with
  | case1 k h1 hc => cases h
  | case2 k h1 hc ih =>
    rw [drop_at s k h1]
    intro hm
    rcases List.mem_cons.mp hm with e | e
    · exact hc ((byte10 _).mpr e.symm)
    · exact ih h e
  | case3 k h1 => rw [List.drop_eq_nil_of_le (by rw [data_length]; omega)]; simp

theorem nl_of (s : ByteArray) (k : Nat) (a r : List UInt8) (h : s.data.toList.drop k = a ++ 10 :: r) (ha : 10 ∉ a) : nl s k = some (k + a.length) := by
  cases hn : nl s k with
  | none => exact absurd (by rw [h]; simp) (nl_none s k hn)
  | some j =>
    obtain ⟨a', r', h1, h2, rfl⟩ := nl_some s k j hn
    rw [h] at h1
    obtain ⟨rfl, _⟩ := split_at h1 ha h2
    rfl
theorem nl_of_none (s : ByteArray) (k : Nat) (h : 10 ∉ s.data.toList.drop k) : nl s k = none := by
  cases hn : nl s k with
  | none => rfl
  | some j =>
    obtain ⟨a, r, h1, h2, rfl⟩ := nl_some s k j hn
    exact absurd (by rw [h1]; simp) h
theorem nl_le (s : ByteArray) (k j : Nat) (h : nl s k = some j) : k ≤ j ∧ j < s.size := by
  obtain ⟨a, r, h1, h2, rfl⟩ := nl_some s k j h
  have := congrArg List.length h1
  simp [data_length] at this
  omega
theorem extract_list (s : ByteArray) (a b : Nat) : (s.extract a b).data.toList = (s.data.toList.drop a).take (b - a) := Lib.extract_data s a b
theorem nl_line (s : ByteArray) (k : Nat) (a r : List UInt8) (h : s.data.toList.drop k = a ++ 10 :: r) : (s.extract k (k + a.length)).data.toList = a := by
  rw [extract_list, h, Nat.add_sub_cancel_left, List.take_left']
  rfl

def nlD (s : ByteArray) (k : Nat) : Int := match nl s k with
  | some j => ((j - k : Nat) : Int)
  | none => -1
theorem index_nl (s : ByteArray) (k : Nat) : Lib.indexByte (s.data.toList.drop k) 10 = nlD s k := by
  unfold nlD
  cases hn : nl s k with
  | none =>
    have h := nl_none s k hn
    have hge := Lib.indexByte_ge (s.data.toList.drop k) 10
    by_cases he : Lib.indexByte (s.data.toList.drop k) 10 = -1
    · exact he
    · obtain ⟨o, ho⟩ : ∃ o : Nat, Lib.indexByte (s.data.toList.drop k) 10 = o := ⟨(Lib.indexByte (s.data.toList.drop k) 10).toNat, by omega⟩
      exact absurd (List.mem_iff_getElem?.mpr ⟨o, (Lib.indexByte_some ho).1⟩) h
  | some j =>
    obtain ⟨a, r, h1, h2, rfl⟩ := nl_some s k j hn
    show _ = ((k + a.length - k : Nat) : Int)
    rw [h1, Nat.add_sub_cancel_left]
    clear hn h1
    induction a with
    | nil => simp [Lib.indexByte]
    | cons c a ih =>
      have hc : c ≠ 10 := by rintro rfl; exact h2 List.mem_cons_self
      have ih := ih (fun h => h2 (List.mem_cons_of_mem _ h))
      rw [List.cons_append, Lib.indexByte, ih, if_neg (by simpa using hc), if_neg (by simp)]
      simp

/-! ### words -/
def spB : ByteArray := ⟨#[32]⟩
def wordsF (s : ByteArray) : List ByteArray := Lib.splitB spB 0 (Lib.countB s spB) s

theorem data_inj {a b : ByteArray} (h : a.data.toList = b.data.toList) : a = b := by rw [← mkB_data a, h, mkB_data]

theorem index32 (l : List UInt8) : Lib.index l [32] = Lib.indexByte l 32 := Lib.index_one l 32
theorem indexByte_not (c : UInt8) : ∀ l : List UInt8, c ∉ l → Lib.indexByte l c = -1
  | [], _ => rfl
  | b :: l, h => by
    have hb : b ≠ c := by rintro rfl; exact h List.mem_cons_self
    rw [Lib.indexByte, if_neg (by simpa using hb), indexByte_not c l (fun h' => h (List.mem_cons_of_mem _ h')), if_pos (by rfl)]
theorem indexByte_at (c : UInt8) (r : List UInt8) : ∀ a : List UInt8, c ∉ a → Lib.indexByte (a ++ c :: r) c = a.length
  | [], _ => by simp [Lib.indexByte]
  | b :: l, h => by
    have hb : b ≠ c := by rintro rfl; exact h List.mem_cons_self
    rw [List.cons_append, Lib.indexByte, if_neg (by simpa using hb), indexByte_at c r l (fun h' => h (List.mem_cons_of_mem _ h')), if_neg (by simp)]
    simp

/-- Either no separator, or the first one. -/
theorem find_sep (c : UInt8) : ∀ l : List UInt8, c ∉ l ∨ ∃ a r, l = a ++ c :: r ∧ c ∉ a
  | [] => Or.inl (by simp)
  | b :: l => by
    by_cases hb : b = c
    · exact Or.inr ⟨[], l, by rw [hb]; rfl, by simp⟩
    · rcases find_sep c l with h | ⟨a, r, rfl, h⟩
      · exact Or.inl (by simp [Ne.symm hb, h])
      · exact Or.inr ⟨b :: a, r, rfl, by simp [Ne.symm hb, h]⟩

theorem words_one (s : ByteArray) (h : 32 ∉ s.data.toList) : wordsF s = [s] := by
  unfold wordsF
  exact Lib.splitB_miss _ _ _ _ (by show Lib.index s.data.toList [32] = -1; rw [index32, indexByte_not _ _ h])
theorem words_cons (s : ByteArray) (a r : List UInt8) (h : s.data.toList = a ++ 32 :: r) (ha : 32 ∉ a) : wordsF s = mkB a :: wordsF (mkB r) := by
  have hi : Lib.indexB s spB = (a.length : Int) := by show Lib.index s.data.toList [32] = _; rw [index32, h, indexByte_at _ _ _ ha]
  have e1 : s.extract (a.length + spB.size) s.size = mkB r := by
    apply data_inj
    rw [extract_list, h, data_mkB]
    have hs : s.size = a.length + (r.length + 1) := by rw [← data_length, h]; simp
    show (List.drop (a.length + 1) (a ++ 32 :: r)).take _ = r
    rw [← List.drop_drop, List.drop_left']
    · show (List.drop 1 (32 :: r)).take _ = r
      show r.take (s.size - (a.length + 1)) = r
      exact List.take_of_length_le (by omega)
    · rfl
  have e2 : s.extract 0 (a.length + 0) = mkB a := by
    apply data_inj
    rw [extract_list, h, data_mkB, List.drop_zero]
    show List.take (a.length + 0 - 0) (a ++ 32 :: r) = a
    rw [List.take_left']
    omega
  unfold wordsF
  rw [Lib.countB_hit s spB a.length (by decide) hi, e1, Nat.add_comm, Lib.splitB_hit _ _ _ _ _ hi, e1, e2]

/-- Four words. -/
theorem words_four (s : ByteArray) (a b c d : List UInt8) (h : s.data.toList = a ++ 32 :: (b ++ 32 :: (c ++ 32 :: d))) (ha : 32 ∉ a) (hb : 32 ∉ b) (hc : 32 ∉ c) (hd : 32 ∉ d) :
    wordsF s = [mkB a, mkB b, mkB c, mkB d] := by
  rw [words_cons s a _ h ha, words_cons (mkB _) b _ rfl hb, words_cons (mkB _) c _ rfl hc, words_one (mkB d) hd]
theorem words_ne (s : ByteArray) : wordsF s ≠ [] := by
  rcases find_sep 32 s.data.toList with h | ⟨a, r, h, ha⟩
  · rw [words_one s h]; simp
  · rw [words_cons s a r h ha]; simp
theorem words_is_one (s x : ByteArray) (h : wordsF s = [x]) : s = x ∧ 32 ∉ s.data.toList := by
  rcases find_sep 32 s.data.toList with h1 | ⟨a, r, h1, ha⟩
  · rw [words_one s h1] at h
    injection h with h
    exact ⟨h, h1⟩
  · rw [words_cons s a r h1 ha] at h
    injection h with _ h
    exact absurd h (words_ne _)
theorem words_is_cons (s x y : ByteArray) (r : List ByteArray) (h : wordsF s = x :: y :: r) : s.data.toList = x.data.toList ++ 32 :: (s.data.toList.drop (x.size + 1)) ∧ 32 ∉ x.data.toList ∧ wordsF (mkB (s.data.toList.drop (x.size + 1))) = y :: r := by
  rcases find_sep 32 s.data.toList with h1 | ⟨a, q, h1, ha⟩
  · rw [words_one s h1] at h; simp at h
  · rw [words_cons s a q h1 ha] at h
    injection h with h2 h3
    subst h2
    have e : s.data.toList.drop ((mkB a).size + 1) = q := by rw [mkB_size, h1, ← List.drop_drop, List.drop_left' rfl]; rfl
    rw [e]
    exact ⟨h1, ha, h3⟩
theorem words_is_four (s a b c d : ByteArray) (h : wordsF s = [a, b, c, d]) : s.data.toList = a.data.toList ++ 32 :: (b.data.toList ++ 32 :: (c.data.toList ++ 32 :: d.data.toList)) ∧
    32 ∉ a.data.toList ∧ 32 ∉ b.data.toList ∧ 32 ∉ c.data.toList ∧ 32 ∉ d.data.toList := by
  obtain ⟨h1, h2, h3⟩ := words_is_cons _ _ _ _ h
  obtain ⟨h4, h5, h6⟩ := words_is_cons _ _ _ _ h3
  obtain ⟨h7, h8, h9⟩ := words_is_cons _ _ _ _ h6
  obtain ⟨h10, h11⟩ := words_is_one _ _ h9
  rw [h10] at h11
  have h12 := congrArg (fun x : ByteArray => x.data.toList) h10
  simp only [data_mkB] at h4 h7 h12
  exact ⟨by rw [h1, h4, h7, h12], h2, h5, h8, h11⟩

/-! ### numbers -/
theorem num_dec (s : ByteArray) (most : Int) (hm : most < 9223372036854775808) (h : (numF s most).2 = 0) : ∃ n : Nat, (numF s most).1 = n ∧ (n : Int) ≤ most ∧ s.data.toList = Lib.decDigits n := by
  by_cases hbad : s.size = 0 ∨ ¬ (∀ c ∈ s.data.toList, dig c = true) ∨ (bt s 0 = 48 ∧ 1 < s.size)
  · rw [numF_bad s most hbad] at h; exact absurd h (by decide)
  · have h0 : s.size ≠ 0 := fun h => hbad (Or.inl h)
    have hd : ∀ c ∈ s.data.toList, dig c = true := Classical.not_not.mp fun h => hbad (Or.inr (Or.inl h))
    have hz : ¬ (bt s 0 = 48 ∧ 1 < s.size) := fun h => hbad (Or.inr (Or.inr h))
    rw [numF_good s most h0 hd hz] at h ⊢
    by_cases hc : val 0 s.data.toList < 9223372036854775808 ∧ (val 0 s.data.toList : Int) ≤ most
    · rw [if_pos hc]
      refine ⟨val 0 s.data.toList, rfl, hc.2, (dec_of_val _ (fun e => h0 (by rw [← data_length, e]; rfl)) hd ?_).symm⟩
      intro c r he h48
      obtain ⟨c', r', h1, h2⟩ := bt_head s (by omega)
      rw [he] at h1
      injection h1 with h1 h3
      subst h1
      have hb : bt s 0 = 48 := by omega
      have : ¬ 1 < s.size := fun h => hz ⟨hb, h⟩
      have hl := congrArg List.length he
      rw [data_length] at hl
      simp at hl
      exact List.eq_nil_of_length_eq_zero (by omega)
    · rw [if_neg hc] at h; exact absurd h (by decide)

theorem num_of_dec (s : ByteArray) (most : Int) (n : Nat) (hs : s.data.toList = Lib.decDigits n) (h : (n : Int) ≤ most) (hm : most < 9223372036854775808) : numF s most = ((n : Int), 0) := by
  have hd := dec_digits n
  rw [← hs] at hd
  have h0 : s.size ≠ 0 := by
    intro h
    rw [← data_length, hs] at h
    exact dec_ne n (List.eq_nil_of_length_eq_zero h)
  have hz : ¬ (bt s 0 = 48 ∧ 1 < s.size) := by
    rintro ⟨h1, h2⟩
    obtain ⟨c, r, h3, h4⟩ := bt_head s (by omega)
    have hn := dec_head n c (by rw [← hs, h3]; rfl) (by omega)
    subst hn
    rw [← data_length, hs] at h2
    rw [Lib.decDigits, dif_pos (by omega)] at h2; simp at h2
  rw [numF_good s most h0 hd hz, hs, dec_val, if_pos ⟨by omega, h⟩]

/-! ### identities -/
theorem idS_data (l : List Int) : (idS l).data.toList = 60 :: (toU (hexL l) ++ [64, 104, 97, 115, 104, 62]) := by
  unfold idS
  rw [ByteArray.data_append, Array.toList_append, ByteArray.data_append, Array.toList_append, hexS_data]
  simp
theorem toU_length (l : List Int) : (toU l).length = l.length := by simp [toU]
theorem idS_size (l : List Int) : (idS l).size = 2 * l.length + 7 := by rw [← data_length, idS_data]; simp [toU_length, hexL_length]

theorem hex_part (l : List Int) : (idS l).extract 1 (2 * l.length + 1) = hexS l := by
  apply data_inj
  rw [extract_list, idS_data, hexS_data]
  show List.take _ (toU (hexL l) ++ _) = _
  rw [List.take_left']
  rw [toU_length, hexL_length]; omega

theorem bt_hexT (x : Int) (h0 : 0 ≤ x) (h1 : x < 16) : (48 ≤ bt hexT x ∧ bt hexT x ≤ 57) ∨ (97 ≤ bt hexT x ∧ bt hexT x ≤ 102) := by
  have := nib_hex x h0 h1
  unfold nib at this
  split at this
  · exact Or.inl (by omega)
  · split at this
    · exact Or.inr (by omega)
    · omega
theorem hexL_digit (l : List Int) (hb : ∀ x ∈ l, 0 ≤ x ∧ x ≤ 255) : ∀ c ∈ toU (hexL l), c ≠ 10 ∧ c ≠ 32 := by
  intro c hc
  simp only [toU, hexL, hexD, List.mem_map, List.mem_flatMap, List.mem_cons, List.not_mem_nil, or_false] at hc
  obtain ⟨y, ⟨x, hx, hy⟩, rfl⟩ := hc
  have hxb := hb x hx
  have hr : (48 ≤ y ∧ y ≤ 57) ∨ (97 ≤ y ∧ y ≤ 102) := by
    rcases hy with rfl | rfl
    · exact bt_hexT _ (by omega) (by omega)
    · exact bt_hexT _ (by omega) (by omega)
  have ht : (UInt8.ofNat y.toNat).toNat = y.toNat := by rw [UInt8.toNat_ofNat']; omega
  constructor <;> (intro e; rw [e] at ht; simp at ht; omega)

theorem idS_inj {i j : List Int} (hi : okId i) (hj : okId j) (h : idS i = idS j) : i = j := by
  have h1 := hex_part i
  have h2 := hex_part j
  rw [hi.1] at h1
  rw [hj.1, ← h, h1] at h2
  have h3 := unhexF_hexS i hi.2
  rw [h2, unhexF_hexS j hj.2] at h3
  exact (Prod.ext_iff.mp h3).1.symm

def parseF (s : ByteArray) : Option (List Int) := if s = idS (unhexF (s.extract 1 65)).1 ∧ (unhexF (s.extract 1 65)).1.length = 32 then some (unhexF (s.extract 1 65)).1 else none
theorem unhexG_range (s : ByteArray) : ∀ (f k : Nat) (acc : List Int), (∀ x ∈ acc, 0 ≤ x ∧ x ≤ 255) → ∀ x ∈ (unhexG s f k acc).1, 0 ≤ x ∧ x ≤ 255 := by
  intro f
  induction f with
  | zero => intro k acc h; exact h
  | succ f ih =>
    intro k acc h
    unfold unhexG
    split
    · split
      · simp
      · rename_i h1 h2
        apply ih
        intro x hx
        rcases List.mem_append.mp hx with hx | hx
        · exact h x hx
        · obtain rfl := List.mem_singleton.mp hx
          have r1 := valI_range (bt s (k : Int))
          have r2 := valI_range (bt s ((k + 1 : Nat) : Int))
          omega
    · exact h
theorem unhexF_range (s : ByteArray) : ∀ x ∈ (unhexF s).1, 0 ≤ x ∧ x ≤ 255 := by
  unfold unhexF
  split
  · simp
  · exact unhexG_range s _ _ _ (by simp)
theorem parseF_some (s : ByteArray) (i : List Int) : parseF s = some i ↔ okId i ∧ s = idS i := by
  unfold parseF
  constructor
  · intro h
    split at h
    · rename_i hc
      obtain rfl := Option.some.inj h
      exact ⟨⟨hc.2, unhexF_range _⟩, hc.1⟩
    · cases h
  · rintro ⟨hi, rfl⟩
    have h1 := hex_part i
    rw [hi.1] at h1
    rw [show (2 * 32 + 1) = 65 from rfl] at h1
    rw [h1, unhexF_hexS i hi.2, if_pos ⟨rfl, hi.1⟩]

end Go.Proofs.YtceopllngemnnaaGreatDoor

