/-
  Index of package batch: what it returns. For texts of up to a million bytes.
-/
import Derived.Test.YtceopllngemnnaaGreatDoorME
set_option linter.unusedVariables false
set_option linter.unusedSimpArgs false
namespace Go.Proofs.YtceopllngemnnaaGreatDoor
open Go.RowKit Go.Proofs.YtceopllngemnnaaGreatDoorW.PrintWords Go.Proofs.YtceopllngemnnaaGreatDoorW.PrintLast Go.Proofs.YtceopllngemnnaaGreatDoorW.PrintMore Go.Proofs.YtceopllngemnnaaGreatDoor.PRef
attribute [local go_sem] max2_int min2_int max_two min_two

/-- The kind of an identity in a slice. -/
def Kid : Kd (List Int) where
  sz := 32
  E := []
  K := fun _ l cs => cs = (u8s l).toList ∧ okId l
  M := fun _ _ _ l cs => cs = (u8s l).toList ∧ okId l
  K_len := fun h => by rw [h.1, Array.length_toList, u8s_size, h.2.1]
  K_one := @fun w x cs h u hu => by
    rw [h.1] at hu
    exact Array.all_eq_true_iff_forall_mem.mp (u8s_one x) u (Array.mem_toList_iff.mp hu)
  K_below := fun _ h => h
  K_of_M := fun h => h
  M_mono := fun _ h => h
  M_bound := fun h => h
  M_move := fun _ h => h
  M_lower := fun _ h => h
theorem Kid.of_blk {W : World} {g t : Nat} {l : List Int} (h : Blk W g (u8s l) t) (hx : okId l) : Kid.C W (some ⟨g, 0, none⟩) 1 [l] := by
  refine ⟨rfl, by omega, fun _ => ⟨_, rfl, fun j p hj => ?_⟩⟩
  cases j with
  | succ j => simp at hj
  | zero =>
    obtain rfl : l = p := by simpa using hj
    refine ⟨(u8s l).toList, by rw [Array.length_toList, u8s_size, hx.1]; rfl, ⟨rfl, hx⟩, fun i u hu => ?_⟩
    rw [add_plain, Lib.cell_of_heap h]
    simpa using hu
theorem info37 : (Tryz.prog.info? 37).map (fun i => (i.zero, i.size, i.bytes)) = some (some (.agg (u8s zId)), 32, 32) := by kernel_rfl
theorem info3' : (Tryz.prog.info? 3).map (fun i => (i.zero, i.size, i.bytes)) = some (some (.int .i64 0), 1, 8) := by kernel_rfl
def idsF (l : List It) : List (List Int) := l.map (·.1)
def sizesF (l : List It) : List Int := l.map fun x => (x.2.size : Int)
theorem unpackF_ok (s : ByteArray) : (∀ x ∈ (unpackF s).1, okIt x) ∧ (unpackF s).1.length ≤ 1000 := by
  by_cases h : (unpackF s).2.2 = 0
  · obtain ⟨_, h1, h2, _⟩ := unpack_inv s h
    exact ⟨h1, h2⟩
  · rw [unpack_err s h]; simp
theorem ids_take (l : List It) (k : Nat) (x : It) (h : l[k]? = some x) : idsF (l.take (k + 1)) = idsF (l.take k) ++ [x.1] := by
  unfold idsF; rw [List.take_add_one, h, List.map_append]; rfl
theorem sizes_take (l : List It) (k : Nat) (x : It) (h : l[k]? = some x) : sizesF (l.take (k + 1)) = sizesF (l.take k) ++ [(x.2.size : Int)] := by
  unfold sizesF; rw [List.take_add_one, h, List.map_append]; rfl

set_option maxHeartbeats 8000000 in
set_option maxRecDepth 100000 in
theorem index_any (s : ByteArray) (W : World) (he : Env W) (hs : s.size ≤ 1000000) :
    Calls Tryz.prog 22 #[.string s] W fun r w' => ∃ v1 v2, r = .returned (.tuple #[v1, v2, .int .i64 (unpackF s).2.2]) ∧ Kid.R 37 w' W.heap.size (fun _ => True) v1 (idsF (unpackF s).1) ∧ (Kd.int .i64).R 3 w' W.heap.size (fun _ => True) v2 (sizesF (unpackF s).1) ∧ Below W.heap.size W w' := by
  have HUN := Aside0.mk (fun w he => unpack_any s w he hs)
  obtain ⟨l, hl⟩ : ∃ l, (unpackF s).1 = l := ⟨_, rfl⟩
  obtain ⟨at', hat⟩ : ∃ a, (unpackF s).2.1 = a := ⟨_, rfl⟩
  obtain ⟨ec, hec⟩ : ∃ e, (unpackF s).2.2 = e := ⟨_, rfl⟩
  have hok := unpackF_ok s
  rw [hl] at hok HUN ⊢
  rw [hat, hec] at HUN
  rw [hec]
  obtain ⟨n, hn⟩ : ∃ n, l.length = n := ⟨_, rfl⟩
  have hn1 : n ≤ 1000 := by have := hok.2; omega
  have HN := Aside0.mk hn
  have HOK := Aside0.mk hok.1
  have HE := Aside0.mk he
  clear hl hat hec hok hn he
  go_enter Tryz.func22, Tryz.ntmps22
  go_wp2_with fail
  refine (HUN.out _ HE.out).mono ?_
  rintro e w1 ⟨v1, rfl, hr, hb⟩
  have B1 := Aside0.mk hb
  obtain ⟨A1, c1, e1⟩ := Kd.R_slice hr
  rw [HN.out] at e1
  subst e1
  have R1 := Aside0.mk hr
  clear hb hr HUN
  go_wp2_with fail
  go_loopg [2, 3, 17] n (fun gf x2 x3 x17 wx => ∃ k : Nat, k ≤ n ∧ x17 = .int .i64 k ∧ Hid (n ≤ k + gf) ∧ Aside0 (Kit.R 39 wx W.heap.size (fun _ => True) (.slice A1 n c1) l) ∧ Aside0 (Kid.R 37 wx W.heap.size (fun _ => True) x2 (idsF (l.take k))) ∧ Aside0 ((Kd.int .i64).R 3 wx W.heap.size (fun _ => True) x3 (sizesF (l.take k))) ∧ Aside0 (Below W.heap.size W wx))
  case atStart => exact ⟨0, Nat.zero_le _, rfl, by unfold Hid; omega, R1, ⟨Kd.R_nil _ _ _ _ _⟩, ⟨Kd.R_nil _ _ _ _ _⟩, B1⟩
  case round =>
    clear R1 B1
    obtain ⟨k, hk, rfl, HG, RL, RI, RS, B⟩ := hrel
    by_cases hlt : k < n
    · obtain ⟨A1', c1', e1, _, hC⟩ := Kd.R_reads RL.out
      injection e1 with e1 e2 e3
      subst e1
      rw [HN.out] at hC
      obtain ⟨ad, x, hA, hx, hok, hcell⟩ := Kit.at_ hC k hlt
      subst hA
      have HX := Aside0.mk hok
      have HCL := Aside0.mk hcell
      have HTI := Aside0.mk (ids_take l k x hx)
      have HTS := Aside0.mk (sizes_take l k x hx)
      have hxs : x.2.size ≤ 65536 := (HOK.out x (mem_at hx)).2
      have hli : (idsF (l.take k)).length ≤ 1000 := by unfold idsF; rw [List.length_map, List.length_take]; omega
      have hls : (sizesF (l.take k)).length ≤ 1000 := by unfold sizesF; rw [List.length_map, List.length_take]; omega
      clear hok hcell hx hC e2 e3
      go_wp2_with (first
        | ((with_reducible refine gate_dst (N := 20) rfl ?_); refine load_it rfl rfl rfl HCL.out HX.out Tryz.underlying39 rfl size39 ?_)
        | ((with_reducible refine gate_dst (N := 8) rfl ?_); refine var_blk (cs := itV x) rfl rfl rfl rfl rfl rfl zero39 (itV_size okId_z) (itV_size HX.out) (itV_one x) (fun _ => rfl) (fun _ => rfl) ?_; intro g8 w2 hg hz hb; have Z2 := Aside0.mk hz; have L2 := Aside0.mk (Kd.R_below RL.out hb); have I2 := Aside0.mk (Kd.R_below RI.out hb); have S2 := Aside0.mk (Kd.R_below RS.out hb); have B2 := Aside0.mk (below_step B.out hb); clear hg hz hb)
        | ((with_reducible refine gate_dst (N := 23) rfl ?_); refine load_id (x := x) rfl rfl rfl Z2.out HX.out Tryz.underlying37 rfl size37 ?_)
        | ((with_reducible refine gate_dst (N := 24) rfl ?_); refine slice_one (cs := u8s x.1) rfl rfl rfl Tryz.underlying51 zero37 (by rw [u8s_size]; rfl) (by rw [u8s_size, HX.out.1]) (by omega) (by omega) ?_; intro g24 w3 hg hz hb; have Y3 := Aside0.mk (Kid.of_blk hz HX.out); have Z3 := Aside0.mk (Z2.out.below hb); have L3 := Aside0.mk (Kd.R_below L2.out hb); have I3 := Aside0.mk (Kd.R_below I2.out hb); have S3 := Aside0.mk (Kd.R_below S2.out hb); have B3 := Aside0.mk (below_step B2.out hb); clear hg hz hb)
        | ((with_reducible refine gate_builtin (b := .append) (xs := #[.tmp 21, .tmp 24]) rfl ?_); refine Kd.R_append_rows Kid (Rr := Kid.K w3) (w0 := W) W.heap.size rfl (.tmp 21) (.tmp 24) 51 37 (.agg (u8s zId)) 32 rfl Tryz.underlying51 info37 (by rw [show (Value.agg (u8s zId)).cells = u8s zId from rfl, u8s_size]; rfl) (by decide) (by omega) u2 (idsF (l.take k)) [x.1] (some ⟨g24, 0, none⟩) 1 1 (fun _ => True) (fun _ => False) rfl rfl I3.out Y3.out (fun _ _ h => h) (fun _ h => h.elim) (fun _ _ => trivial) B3.out B3.out.size (by omega) ?_; intro v4 w4 ho hb hgr _; have I4 := Aside0.mk ho; have B4 := Aside0.mk hb; have L4 := Aside0.mk (Kd.R_over' L3.out (Kd.R_typed I3.out) (by intro q hq; rcases List.mem_cons.mp hq with rfl | hq; decide; cases hq) hgr); have S4 := Aside0.mk (Kd.R_over' S3.out (Kd.R_typed I3.out) (by intro q hq; rcases List.mem_cons.mp hq with rfl | hq; decide; cases hq) hgr); have Z4 := Aside0.mk (show Blk w4 g8 (itV x) 39 from blk_grown Z3.out hgr (Kd.R_ne I3.out Z3.out (by decide))); have hcs : w4.cell? ⟨g8, 32, none⟩ = some (.string x.2) := (by rw [Lib.cell_of_heap (show Blk w4 g8 (itV x) 39 from blk_grown Z3.out hgr (Kd.R_ne I3.out Z3.out (by decide)))]; exact itV_str HX.out); clear ho hb hgr)
        | ((with_reducible refine gate_builtin (b := .append) (xs := #[.tmp 26, .tmp 30]) rfl ?_); refine Kd.R_append (Kd.int .i64) (w0 := W) W.heap.size rfl (.tmp 26) (.tmp 30) 52 3 (.int .i64 0) 8 rfl Tryz.underlying52 info3' rfl (by decide) (by omega) u3 (sizesF (l.take k)) (x.2.size : Int) [.int .i64 (x.2.size : Int)] (fun _ => True) (fun _ => False) rfl rfl rfl (fun _ h => h.elim) (fun _ _ => trivial) S4.out B4.out B4.out.size (by omega) ?_; intro v5 w5 ho hb hgr _; have S5 := Aside0.mk ho; have B5 := Aside0.mk hb; have L5 := Aside0.mk (Kd.R_over' L4.out (Kd.R_typed S4.out) (by intro q hq; rcases List.mem_cons.mp hq with rfl | hq; decide; cases hq) hgr); have I5 := Aside0.mk (Kd.R_over' I4.out (Kd.R_typed S4.out) (by intro q hq; rcases List.mem_cons.mp hq with rfl | hq; decide; cases hq) hgr); clear ho hb hgr))
      go_roundg (gk - 1)
      case measure => have := HG.out; omega
      case rel => exact ⟨k + 1, by omega, by go_num, by have := HG.out; unfold Hid; omega, L5, ⟨by rw [HTI.out]; exact I5.out⟩, ⟨by rw [HTS.out]; exact S5.out⟩, B5⟩
    · obtain rfl : k = n := by omega
      have hfull : l.take k = l := List.take_of_length_le (by rw [HN.out]; exact Nat.le_refl _)
      have hI := RI.out
      have hS := RS.out
      rw [hfull] at hI hS
      have HI := Aside0.mk hI
      have HS := Aside0.mk hS
      clear hfull hI hS
      go_wp2_with fail
      go_ret3
      exact ⟨_, _, rfl, HI.out, HS.out, B.out⟩
end Go.Proofs.YtceopllngemnnaaGreatDoor

