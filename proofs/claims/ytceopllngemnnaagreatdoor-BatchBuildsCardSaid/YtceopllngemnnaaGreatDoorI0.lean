/-
  Split of the document's answer: what it returns. For lists of up to ten items.
-/
import Derived.Test.YtceopllngemnnaaGreatDoorG9
import Derived.Test.YtceopllngemnnaaGreatDoorLBatchTruncates
namespace Go.Proofs.YtceopllngemnnaaGreatDoor
open Go.RowKit Go.Proofs.YtceopllngemnnaaGreatDoorW.PrintWords Go.Proofs.YtceopllngemnnaaGreatDoorW.PrintLast Go.Proofs.YtceopllngemnnaaGreatDoorW.PrintMore Go.Proofs.YtceopllngemnnaaGreatDoor.PRef
attribute [local go_sem] max2_int min2_int max_two min_two

/-- Items cut out. -/
theorem cut_rng {P : Program} (t e : TypeId) {i : TypeInfo} (ht : P.underlying t = some (.slice e)) (hi : P.info? e = some i) (hsz : i.size = 33) (A : Option Addr) (n c : Nat) (l : List It) (a b : Nat) (B : Int) (hB : B = (b : Int)) (h1 : a ≤ b) (h2 : b ≤ n) (hl : l.length = n) (hc : n ≤ c) :
    ∃ A', (∀ W : World, (Instr.slice t (.slice A n c) (some (.int .i64 (a : Int))) (some (.int .i64 B)) none).run P W = .ok (.slice A' (b - a) (c - a)) W) ∧ ∀ w, Kit.C w A n l → Kit.C w A' (b - a) ((l.take b).drop a) := by
  subst hB
  refine ⟨if c = a then A else A.map (·.add (a * 33)), fun W => ?_, fun w h => ?_⟩
  · have := cut_mid (P := P) t e .i64 .i64 ht hi 33 hsz A n c (a : Int) (b : Int) (by omega) (by omega) (by omega) hc W
    rw [this]
    simp only [Int.toNat_natCast]
  · rw [← hl] at h hc h2
    have := Kd.C_mid (lo := a) (hi := b) (c := c) h h1 h2 hc
    rw [show ((l.take b).drop a).length = b - a by rw [List.length_drop, List.length_take]; omega] at this
    exact this
theorem info24 : (Tryz.prog.info? 24).map (fun i => (i.zero, i.size, i.bytes)) = some (some (.slice none 0 0), 1, 24) := by kernel_rfl
theorem exec_empty {P : Program} {o : Oper} {a : Act} {W : World} {t e : TypeId} {n : Nat} (ho : o.op = .buildSlice t 0 #[]) (hu : P.underlying t = some (.slice e)) (hi : (P.info? e).map (·.size) = some n) : (execOp a.eval o).run P W = .ok (.value (.slice (some ⟨W.heap.size, 0, none⟩) 0 0)) (W.alloc (.cells #[] e)) := by
  obtain ⟨i, hi, hn⟩ := Option.map_eq_some_iff.1 hi
  have hr : (Instr.buildSlice t 0 #[]).run P W = .ok (.slice (some ⟨W.heap.size, 0, none⟩) 0 0) (W.alloc (.cells #[] e)) := by
    unfold Instr.buildSlice
    rw [Sem.run_bind, run_underlying hu W]
    have h0 : Array.range 0 = #[] := rfl
    simp [Sem.run_bind, sizeOf, typeInfo, hi, Instr.fill, newRow, h0]
  simp [execOp, ho, hr]
section
variable {P : Program} {ops : Array Oper} {rest : List Oper} {o : Oper} {a : Act} {Q : Exit → Act → World → Prop}
/-- An empty slice of items. -/
theorem slice_empty {W : World} {t e : TypeId} {n : Nat} (hgd : o.guard = none) (ho : o.op = .buildSlice t 0 #[]) (hu : P.underlying t = some (.slice e)) (hi : (P.info? e).map (·.size) = some n)
    (hk : ∀ v w1, Kit.R e w1 W.heap.size (fun _ => True) v [] → Below W.heap.size W w1 → wpList P ops Q rest (a.put o.dst v) w1) : wpList P ops Q (o :: rest) a W := by
  refine Kd.event_run hgd (exec_empty ho hu hi) (hk _ _ ⟨fun _ _ => trivial, [], ?_, ⟨rfl, fun j p hj => by simp at hj⟩⟩ (below_alloc (Below.refl _ _) _))
  exact World.ownsRow_lit (base := W.heap.size) (e := e) (size := 33) W #[] 0 (Nat.le_refl _) (by simp [maxLen]) (by simp)
end
abbrev KG : Kd (List It) := Kd.slice 36 Kit
theorem sub_total {l : List It} (h1 : l.length ≤ 10) (h2 : ∀ x ∈ l, x.2.size ≤ 65536) (a b : Nat) : totalN ((l.take b).drop a) ≤ 1000000 :=
  small_total (by rw [List.length_drop, List.length_take]; omega) (fun x hx => h2 x (List.mem_of_mem_take (List.mem_of_mem_drop hx)))

set_option maxHeartbeats 4000000 in
theorem rsplit_range (v : Value) (most : Int) (W : World) (hm : ¬ okMost most) :
    Calls Tryz.prog 27 #[v, .int .i64 most] W fun r w' => r = .returned (.tuple #[.slice none 0 0, .int .i64 2]) ∧ Below W.heap.size W w' := by
  by_cases h1 : most < 1
  · clear hm
    go_enter Tryz.func27, Tryz.ntmps27
    go_wp2_with fail
    go_ret2
    exact ⟨rfl, Below.refl _ _⟩
  · have h2 : 4194304 < most := by unfold okMost at hm; omega
    clear hm
    go_enter Tryz.func27, Tryz.ntmps27
    go_wp2_with fail
    go_ret2
    exact ⟨rfl, Below.refl _ _⟩

set_option maxHeartbeats 8000000 in
set_option maxRecDepth 100000 in
theorem rsplit_long (A : Option Addr) (n c : Nat) (l : List It) (most : Int) (W : World) (hC : Kit.C W A n l) (hnc : n ≤ c) (hn : n ≤ 10) (hl : ∀ x ∈ l, x.2.size ≤ 65536) (hm : okMost most) (hf : ¬ allFit l most) :
    Calls Tryz.prog 27 #[.slice A n c, .int .i64 most] W fun r w' => r = .returned (.tuple #[.slice none 0 0, .int .i64 5]) ∧ Below W.heap.size W w' := by
  have HAF := Aside0.mk hf
  clear hf
  have hlen : l.length = n := hC.1
  have hoks := Kit.ok_all hC
  have hm1 : ¬ most < 1 := by have := hm.1; omega
  have hm2 : ¬ 4194304 < most := by have := hm.2; omega
  have HL := Aside0.mk hlen
  have HC := Aside0.mk hC
  have HNC := Aside0.mk hnc
  have HS := Aside0.mk hl
  have HOK := Aside0.mk hoks
  have HTE := Aside0.mk (fun A c m (l2 : List It) w h h1 h2 => rtext_any A m c l2 w h h1 h2)
  obtain ⟨i36, hi36, hs36⟩ := Option.map_eq_some_iff.1 size36
  have HI36 := Aside0.mk hi36
  have HS36 := Aside0.mk hs36
  clear hm hC hlen hoks hl hnc hi36 hs36
  go_enter Tryz.func27, Tryz.ntmps27
  go_wp2_with fail
  go_loopg [6] n (fun gf x6 wx => ∃ k : Nat, k ≤ n ∧ x6 = .int .i64 k ∧ Hid (n ≤ k + gf) ∧ Aside0 (∀ j y, j < k → l[j]? = some y → ((totalN [y] : Nat) : Int) ≤ most) ∧ Aside0 (Below W.heap.size W wx))
  case atStart => exact ⟨0, Nat.zero_le _, rfl, by unfold Hid; omega, ⟨fun j y hj => absurd hj (Nat.not_lt_zero _)⟩, ⟨Below.refl _ _⟩⟩
  case round =>
    obtain ⟨k, hk, rfl, HG, HF, HB⟩ := hrel
    by_cases hlt : k < n
    · obtain ⟨ad, x, hA, hx, hok, hcell⟩ := Kit.at_ (Kd.C_below HC.out HB.out) k hlt
      have HX := Aside0.mk hx
      have HOX := Aside0.mk hok
      have hit := ItAt.str hcell hok
      obtain ⟨A9, hcut, hC9⟩ := cut_one (P := Tryz.prog) 24 36 Tryz.underlying24 HI36.out HS36.out A n c l k x hx HL.out HNC.out
      have HCUT := Aside0.mk hcut
      have C9 := Aside0.mk (hC9 _ (Kd.C_below HC.out HB.out))
      have hxs : x.2.size ≤ 65536 := HS.out x (mem_at hx)
      have hxI : ¬ ((65536 : Int) < (x.2.size : Int)) := by omega
      have hps := packS_size [x] (by intro z hz; rw [List.mem_singleton.mp hz]; exact hok)
      have htot := small_total (l := [x]) (by simp) (by intro z hz; rw [List.mem_singleton.mp hz]; exact hxs)
      obtain ⟨s, hs⟩ : ∃ s, packS [x] = s := ⟨_, rfl⟩
      have HT1 := Aside0.mk (fun w h => HTE.out A9 (c - k) 1 [x] w h (by omega) (by intro z hz; rw [List.mem_singleton.mp hz]; exact hxs))
      rw [hs] at hps HT1
      have HPS := Aside0.mk hps
      rw [← hps] at htot
      subst hA
      clear hx hok hcell hcut hC9 hs hps
      go_wp2_with (first
        | ((with_reducible refine gate_dst (N := 34) rfl ?_); refine event_run_g rfl (exec_slice Tryz.underlying24 rfl rfl rfl rfl (HCUT.out _)) ?_))
      refine (HT1.out _ C9.out).mono ?_
      rintro e w1 ⟨rfl, hb⟩
      have HB1 := Aside0.mk (below_step HB.out hb)
      clear hb hit
      by_cases hfit : ((s.size : Nat) : Int) ≤ most
      · have hnf : ¬ (most < (s.size : Int)) := by omega
        go_wp2_with fail
        go_roundg (gk - 1)
        case measure => have := HG.out; omega
        case rel => exact ⟨k + 1, by omega, by go_num, by have := HG.out; unfold Hid; omega, ⟨fun j y hj hy => by by_cases e : j = k; (subst e; rw [HX.out] at hy; obtain rfl := Option.some.inj hy; rw [← HPS.out]; exact hfit); exact HF.out j y (by omega) hy⟩, HB1⟩
      · have hnf : (most < (s.size : Int)) := by omega
        go_wp2_with fail
        go_ret2
        exact ⟨rfl, HB1.out⟩
    · exfalso
      obtain rfl : k = n := by omega
      refine HAF.out (fun x hx => ⟨HS.out x hx, ?_⟩)
      obtain ⟨j, hj⟩ := List.mem_iff_getElem?.mp hx
      exact HF.out j x (by rw [← HL.out]; exact (List.getElem?_eq_some_iff.1 hj).1) hj

set_option maxHeartbeats 8000000 in
set_option maxRecDepth 100000 in
theorem rsplit_ok (A : Option Addr) (n c : Nat) (l : List It) (most : Int) (W : World) (hC : Kit.C W A n l) (hnc : n ≤ c) (hn : n ≤ 10) (hl : ∀ x ∈ l, x.2.size ≤ 65536) (hm : okMost most) (hf : allFit l most) :
    Calls Tryz.prog 27 #[.slice A n c, .int .i64 most] W fun r w' => ∃ v, r = .returned (.tuple #[v, .int .i64 0]) ∧ KG.R 24 w' W.heap.size (fun _ => True) v (splitF l most) ∧ Below W.heap.size W w' := by
  have HAF := Aside0.mk hf
  have HSP := Aside0.mk (show splitF l most = grF l most l.length 1 0 from rfl)
  clear hf
  have hlen : l.length = n := hC.1
  have hoks := Kit.ok_all hC
  have hm1 : ¬ most < 1 := by have := hm.1; omega
  have hm2 : ¬ 4194304 < most := by have := hm.2; omega
  have HL := Aside0.mk hlen
  have HC := Aside0.mk hC
  have HNC := Aside0.mk hnc
  have HS := Aside0.mk hl
  have HOK := Aside0.mk hoks
  have HTE := Aside0.mk (fun A c m (l2 : List It) w h h1 h2 => rtext_any A m c l2 w h h1 h2)
  obtain ⟨i36, hi36, hs36⟩ := Option.map_eq_some_iff.1 size36
  have HI36 := Aside0.mk hi36
  have HS36 := Aside0.mk hs36
  clear hm hC hlen hoks hl hnc hi36 hs36
  go_enter Tryz.func27, Tryz.ntmps27
  go_wp2_with fail
  go_loopg [6] n (fun gf x6 wx => ∃ k : Nat, k ≤ n ∧ x6 = .int .i64 k ∧ Hid (n ≤ k + gf) ∧ Aside0 (∀ j y, j < k → l[j]? = some y → ((totalN [y] : Nat) : Int) ≤ most) ∧ Aside0 (Below W.heap.size W wx))
  case atStart => exact ⟨0, Nat.zero_le _, rfl, by unfold Hid; omega, ⟨fun j y hj => absurd hj (Nat.not_lt_zero _)⟩, ⟨Below.refl _ _⟩⟩
  case round =>
    obtain ⟨k, hk, rfl, HG, HF, HB⟩ := hrel
    by_cases hlt : k < n
    · obtain ⟨ad, x, hA, hx, hok, hcell⟩ := Kit.at_ (Kd.C_below HC.out HB.out) k hlt
      have HX := Aside0.mk hx
      have HOX := Aside0.mk hok
      have hit := ItAt.str hcell hok
      obtain ⟨A9, hcut, hC9⟩ := cut_one (P := Tryz.prog) 24 36 Tryz.underlying24 HI36.out HS36.out A n c l k x hx HL.out HNC.out
      have HCUT := Aside0.mk hcut
      have C9 := Aside0.mk (hC9 _ (Kd.C_below HC.out HB.out))
      have hxs : x.2.size ≤ 65536 := HS.out x (mem_at hx)
      have hxI : ¬ ((65536 : Int) < (x.2.size : Int)) := by omega
      have hps := packS_size [x] (by intro z hz; rw [List.mem_singleton.mp hz]; exact hok)
      have htot := small_total (l := [x]) (by simp) (by intro z hz; rw [List.mem_singleton.mp hz]; exact hxs)
      obtain ⟨s, hs⟩ : ∃ s, packS [x] = s := ⟨_, rfl⟩
      have HT1 := Aside0.mk (fun w h => HTE.out A9 (c - k) 1 [x] w h (by omega) (by intro z hz; rw [List.mem_singleton.mp hz]; exact hxs))
      rw [hs] at hps HT1
      have HPS := Aside0.mk hps
      rw [← hps] at htot
      subst hA
      clear hx hok hcell hcut hC9 hs hps
      go_wp2_with (first
        | ((with_reducible refine gate_dst (N := 34) rfl ?_); refine event_run_g rfl (exec_slice Tryz.underlying24 rfl rfl rfl rfl (HCUT.out _)) ?_))
      refine (HT1.out _ C9.out).mono ?_
      rintro e w1 ⟨rfl, hb⟩
      have HB1 := Aside0.mk (below_step HB.out hb)
      clear hb hit
      by_cases hfit : ((s.size : Nat) : Int) ≤ most
      · have hnf : ¬ (most < (s.size : Int)) := by omega
        go_wp2_with fail
        go_roundg (gk - 1)
        case measure => have := HG.out; omega
        case rel => exact ⟨k + 1, by omega, by go_num, by have := HG.out; unfold Hid; omega, ⟨fun j y hj hy => by by_cases e : j = k; (subst e; rw [HX.out] at hy; obtain rfl := Option.some.inj hy; rw [← HPS.out]; exact hfit); exact HF.out j y (by omega) hy⟩, HB1⟩
      · exfalso
        exact hfit (by rw [HPS.out]; exact (HAF.out x (mem_at HX.out)).2)
    · obtain rfl : k = n := by omega
      clear HF
      go_wp2_with fail
      go_loopg [7, 8, 9] (k + 1) (fun gf x7 x8 x9 wx => ∃ (i fr : Nat) (acc : List (List It)), i ≤ k + 1 ∧ fr < i ∧ x8 = .int .i64 fr ∧ x9 = .int .i64 i ∧ Hid (k + 1 ≤ i + gf) ∧ Hid (acc.length ≤ fr) ∧ Aside0 (KG.R 24 wx W.heap.size (fun _ => True) x7 acc) ∧ Aside0 (acc ++ grF l most (k + 1 - i) i fr = splitF l most) ∧ Aside0 (Below W.heap.size W wx))
      case atStart => exact ⟨1, 0, [], by omega, by omega, rfl, rfl, by unfold Hid; omega, by unfold Hid; simp, ⟨Kd.R_nil _ _ _ _ _⟩, ⟨by rw [HSP.out, HL.out]; rfl⟩, HB⟩
      case round =>
        clear HB
        obtain ⟨i, fr, acc, hi, hfr, rfl, rfl, HG, HAL, HR, HE, HB⟩ := hrel
        by_cases hlt : i ≤ k
        · by_cases hin : i = k
          · subst hin
            obtain ⟨A8, hcut8, hC8⟩ := cut_rng (P := Tryz.prog) 24 36 Tryz.underlying24 HI36.out HS36.out A i c l fr i (i : Int) rfl (by omega) (by omega) HL.out HNC.out
            have HCUT8 := Aside0.mk hcut8
            have HC8 := Aside0.mk hC8
            have hgl : ((l.take i).drop fr).length = i - fr := by rw [List.length_drop, List.length_take, HL.out]; omega
            obtain ⟨gp, hgp⟩ : ∃ gp, (l.take i).drop fr = gp := ⟨_, rfl⟩
            rw [hgp] at hgl HC8
            have HGL := Aside0.mk hgl
            have HGP := Aside0.mk hgp
            clear hcut8 hC8 hgl hgp
            go_wp2_with (first
              | ((with_reducible refine gate_dst (N := 68) rfl ?_); refine slice_empty rfl rfl Tryz.underlying24 size36 ?_; intro v68 w2 ho hb; have HO2 := Aside0.mk ho; have HB2 := Aside0.mk hb; clear ho hb)
              | ((with_reducible refine gate_dst (N := 72) rfl ?_); refine Kd.event_run rfl (exec_slice Tryz.underlying24 rfl rfl rfl rfl (HCUT8.out _)) ?_)
              | ((with_reducible refine gate_builtin (b := .append) (xs := #[.tmp 68, .tmp 72]) rfl ?_); refine Kd.R_append_rows Kit (Rr := Kit.K w2) (w0 := wr) (wr).heap.size rfl (.tmp 68) (.tmp 72) 24 36 (.agg (itV zIt)) 48 rfl Tryz.underlying24 info36 (itV_size okId_z) (by decide) (by omega) v68 [] gp A8 (i - fr) (c - fr) (fun _ => True) (fun _ => False) rfl rfl HO2.out ?aR1 (fun _ _ h => h) (fun _ h => h.elim) (fun _ _ => trivial) HB2.out HB2.out.size (by simp; omega) ?_; (case aR1 => exact HC8.out _ (Kd.C_below HC.out (below_step (HB).out HB2.out))); intro v73 w3 ho hb _ _; rw [List.nil_append] at ho; obtain ⟨A73, c73, e73⟩ := Kd.R_slice ho; rw [HGL.out] at e73; subst e73; have HO3 := Aside0.mk ho; have HB3 := Aside0.mk hb; have HR3 := Aside0.mk (Kd.R_below (HR).out hb); have HB03 := Aside0.mk (below_step (HB).out hb); clear ho hb)
              | ((with_reducible refine gate_builtin (b := .append) (xs := #[.tmp 67, .tmp 74]) rfl ?_); refine Kd.R_append KG (w0 := W) W.heap.size rfl (.tmp 67) (.tmp 74) 61 24 (.slice none 0 0) 24 rfl Tryz.underlying61 info24 rfl (by decide) (by omega) u7 acc gp [.slice A73 (i - fr) c73] (fun _ => True) (fun k => True ∧ some k ≠ (u7 : Value).ownBlock) rfl rfl ?aM1 (fun _ h => h) (fun _ _ => trivial) HR3.out HB03.out HB03.out.size (by have := HAL.out; omega) ?_; (case aM1 => exact ⟨_, rfl, Kd.R_apart' (Kd.R_lower HO3.out (HB).out.size) (Kd.R_typed HR3.out) (by intro q hq; rcases List.mem_cons.mp hq with rfl | hq; decide; cases hq)⟩); intro v75 w4 ho hb _ _; have HO4 := Aside0.mk ho; have HB4 := Aside0.mk hb; clear ho hb))
            go_wp2_with fail
            go_roundg (gk - 1)
            case measure => have := HG.out; omega
            case rel =>
              refine ⟨i + 1, i, acc ++ [gp], by omega, by omega, rfl, by go_num, by have := HG.out; unfold Hid; omega, by have := HAL.out; unfold Hid; simp; omega, HO4, ⟨?_⟩, HB4⟩
              have h1 := HE.out
              rw [show i + 1 - i = 0 + 1 by omega, show grF l most (0 + 1) i fr = [gp] by rw [← HGP.out, ← HL.out, gr_end, List.take_of_length_le (Nat.le_refl _)]] at h1
              rw [gr_past _ _ _ _ _ (by rw [HL.out]; omega), List.append_nil]
              exact h1
          · have hik : i < k := by omega
            have hinI : ¬ (i : Int) = (k : Int) := by omega
            have hne : ¬ (i : Int) - (fr : Int) = 1000 := by omega
            have hin1 : ((i : Int) == (k : Int)) = false := by simp; omega
            have hin2 : (i == k) = false := by simp; omega
            have hne1 : ((i : Int) - (fr : Int) == 1000) = false := by simp; omega
            obtain ⟨A9, hcut, hC9⟩ := cut_rng (P := Tryz.prog) 24 36 Tryz.underlying24 HI36.out HS36.out A k c l fr (i + 1) ((i : Int) + 1) (by omega) (by omega) (by omega) HL.out HNC.out
            have HCUT := Aside0.mk hcut
            have C9 := Aside0.mk (hC9 _ (Kd.C_below HC.out HB.out))
            have hps := packS_size ((l.take (i + 1)).drop fr) (by intro z hz; exact HOK.out z (List.mem_of_mem_take (List.mem_of_mem_drop hz)))
            have htot := sub_total (l := l) (by rw [HL.out]; exact hn) HS.out fr (i + 1)
            have HT1 := Aside0.mk (fun w h => HTE.out A9 (c - fr) (i + 1 - fr) ((l.take (i + 1)).drop fr) w h (by omega) (by intro z hz; exact HS.out z (List.mem_of_mem_take (List.mem_of_mem_drop hz))))
            obtain ⟨s, hs⟩ : ∃ s, packS ((l.take (i + 1)).drop fr) = s := ⟨_, rfl⟩
            rw [hs] at hps HT1
            have HPS := Aside0.mk hps
            rw [← hps] at htot
            clear hcut hC9 hs hps
            go_wp2_with (first
              | ((with_reducible refine gate_dst (N := 61) rfl ?_); refine event_run_g rfl (exec_slice Tryz.underlying24 rfl rfl rfl rfl (HCUT.out _)) ?_))
            refine (HT1.out _ C9.out).mono ?_
            rintro e w1 ⟨rfl, hb⟩
            have HB1 := Aside0.mk (below_step HB.out hb)
            have HR1 := Aside0.mk (Kd.R_below HR.out hb)
            clear hb HB HR C9
            by_cases hfit : ((s.size : Nat) : Int) ≤ most
            · have hnf : ¬ (most < (s.size : Int)) := by omega
              go_wp2_with fail
              go_roundg (gk - 1)
              case measure => have := HG.out; omega
              case rel =>
                refine ⟨i + 1, fr, acc, by omega, by omega, rfl, by go_num, by have := HG.out; unfold Hid; omega, HAL, HR1, ⟨?_⟩, HB1⟩
                have h1 := HE.out
                rw [show k + 1 - i = (k - i) + 1 by omega, gr_go l most _ i fr (by rw [HL.out]; exact hik) (by rw [← HPS.out]; omega)] at h1
                rw [show k + 1 - (i + 1) = k - i by omega]
                exact h1
            · have hnf : (most < (s.size : Int)) := by omega
              obtain ⟨A8, hcut8, hC8⟩ := cut_rng (P := Tryz.prog) 24 36 Tryz.underlying24 HI36.out HS36.out A k c l fr i (i : Int) rfl (by omega) (by omega) HL.out HNC.out
              have HCUT8 := Aside0.mk hcut8
              have HC8 := Aside0.mk hC8
              have hgl : ((l.take i).drop fr).length = i - fr := by rw [List.length_drop, List.length_take, HL.out]; omega
              obtain ⟨gp, hgp⟩ : ∃ gp, (l.take i).drop fr = gp := ⟨_, rfl⟩
              rw [hgp] at hgl HC8
              have HGL := Aside0.mk hgl
              have HGP := Aside0.mk hgp
              clear hcut8 hC8 hgl hgp
              go_wp2_with (first
                | ((with_reducible refine gate_dst (N := 68) rfl ?_); refine slice_empty rfl rfl Tryz.underlying24 size36 ?_; intro v68 w2 ho hb; have HO2 := Aside0.mk ho; have HB2 := Aside0.mk hb; clear ho hb)
                | ((with_reducible refine gate_dst (N := 72) rfl ?_); refine Kd.event_run rfl (exec_slice Tryz.underlying24 rfl rfl rfl rfl (HCUT8.out _)) ?_)
                | ((with_reducible refine gate_builtin (b := .append) (xs := #[.tmp 68, .tmp 72]) rfl ?_); refine Kd.R_append_rows Kit (Rr := Kit.K w2) (w0 := w1) (w1).heap.size rfl (.tmp 68) (.tmp 72) 24 36 (.agg (itV zIt)) 48 rfl Tryz.underlying24 info36 (itV_size okId_z) (by decide) (by omega) v68 [] gp A8 (i - fr) (c - fr) (fun _ => True) (fun _ => False) rfl rfl HO2.out ?aR2 (fun _ _ h => h) (fun _ h => h.elim) (fun _ _ => trivial) HB2.out HB2.out.size (by simp; omega) ?_; (case aR2 => exact HC8.out _ (Kd.C_below HC.out (below_step (HB1).out HB2.out))); intro v73 w3 ho hb _ _; rw [List.nil_append] at ho; obtain ⟨A73, c73, e73⟩ := Kd.R_slice ho; rw [HGL.out] at e73; subst e73; have HO3 := Aside0.mk ho; have HB3 := Aside0.mk hb; have HR3 := Aside0.mk (Kd.R_below (HR1).out hb); have HB03 := Aside0.mk (below_step (HB1).out hb); clear ho hb)
                | ((with_reducible refine gate_builtin (b := .append) (xs := #[.tmp 67, .tmp 74]) rfl ?_); refine Kd.R_append KG (w0 := W) W.heap.size rfl (.tmp 67) (.tmp 74) 61 24 (.slice none 0 0) 24 rfl Tryz.underlying61 info24 rfl (by decide) (by omega) u7 acc gp [.slice A73 (i - fr) c73] (fun _ => True) (fun k => True ∧ some k ≠ (u7 : Value).ownBlock) rfl rfl ?aM2 (fun _ h => h) (fun _ _ => trivial) HR3.out HB03.out HB03.out.size (by have := HAL.out; omega) ?_; (case aM2 => exact ⟨_, rfl, Kd.R_apart' (Kd.R_lower HO3.out (HB1).out.size) (Kd.R_typed HR3.out) (by intro q hq; rcases List.mem_cons.mp hq with rfl | hq; decide; cases hq)⟩); intro v75 w4 ho hb _ _; have HO4 := Aside0.mk ho; have HB4 := Aside0.mk hb; clear ho hb))
              go_wp2_with fail
              go_roundg (gk - 1)
              case measure => have := HG.out; omega
              case rel =>
                refine ⟨i + 1, i, acc ++ [gp], by omega, by omega, rfl, by go_num, by have := HG.out; unfold Hid; omega, by have := HAL.out; unfold Hid; simp; omega, HO4, ⟨?_⟩, HB4⟩
                have h1 := HE.out
                rw [show k + 1 - i = (k - i) + 1 by omega, gr_cut l most _ i fr (by rw [HL.out]; exact hik) (by rw [← HPS.out]; omega), HGP.out] at h1
                rw [show k + 1 - (i + 1) = k - i by omega, List.append_assoc]
                exact h1
        · obtain rfl : i = k + 1 := by omega
          have hq := HE.out
          rw [gr_past _ _ _ _ _ (by rw [HL.out]; omega), List.append_nil] at hq
          have HQ := Aside0.mk hq
          clear hq
          go_wp2_with fail
          go_ret2
          exact ⟨_, rfl, by rw [← HQ.out]; exact HR.out, HB.out⟩

end Go.Proofs.YtceopllngemnnaaGreatDoor

