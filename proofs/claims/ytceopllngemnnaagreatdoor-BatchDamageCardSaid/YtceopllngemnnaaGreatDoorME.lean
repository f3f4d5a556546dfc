/-
  Unpack, the reference's Text and the statements' own helpers: what they return.
-/
import Derived.Test.YtceopllngemnnaaGreatDoorMD
import Derived.ChangeKeysEq
set_option linter.unusedVariables false
set_option linter.unusedSimpArgs false
/-
  Message identifiers: Parse of package msgid: what it returns. For every string.
-/
namespace Go.Proofs.YtceopllngemnnaaGreatDoor
open Go.RowKit Go.Proofs.YtceopllngemnnaaGreatDoorW.PrintWords Go.Proofs.YtceopllngemnnaaGreatDoorW.PrintLast Go.Proofs.YtceopllngemnnaaGreatDoorW.PrintMore Go.Proofs.YtceopllngemnnaaGreatDoor.PRef

section
variable {P : Program}
theorem results_cttt {fn : Func} {p u v x : Tmp} {ty : TypeId} (h : fn.results = #[.cell p ty, .tmp u, .tmp v, .tmp x]) (tmps : Array Value) (w : World) (g : Nat) (t : TypeId) (cs : Array Value) (fr : Nat × Nat) (d : TypeDesc)
    (hp : tmps.getD p undef = .pointer (some ⟨g, 0, none⟩)) (hg : w.heap[g]? = some (.cells cs t fr))
    (hu : P.underlying ty = some d) (hd : (match d with | .struct _ | .array _ _ => true | _ => false) = true) (hi : (P.info? ty).map (·.size) = some cs.size) :
    (results fn tmps).run P w = .ok (.tuple #[.agg cs, tmps.getD u undef, tmps.getD v undef, tmps.getD x undef]) w := by
  have hp' : tmps[p]?.getD undef = .pointer (some ⟨g, 0, none⟩) := by simpa using hp
  simp [results, h, hp', asAddr, run_loadVar_row w g t ty cs fr d hg hu hd hi]
end
section
variable {ops : Array Oper} {rest : List Oper} {o : Oper} {a : Act} {Q : Exit → Act → World → Prop}
/-- copy of as many bytes as a block has. -/
theorem copy_full {W : World} {x y : Operand} {g t n dc sc : Nat} {A : Option Addr} {old : Array Value} {l : List Int} (hgd : o.guard = none) (ho : o.op = .call { callee := .builtin .copy, args := #[x, y], argTypes := #[26, 26] })
    (hd : a.eval x = .slice (some ⟨g, 0, none⟩) n dc) (hs : a.eval y = .slice A n sc) (h : Blk W g old t) (hn : old.size = n) (hl : l.length = n) (hp : 0 < n) (hC : Kd.C (Kd.int .u8) W A n l)
    (hk : ∀ w1, Blk w1 g (u8s l) t → (∀ w0 base, base ≤ g → Below base w0 W → Below base w0 w1) → wpList Tryz.prog ops Q rest (a.put o.dst (goInt n)) w1) : wpList Tryz.prog ops Q (o :: rest) a W := by
  obtain ⟨ad, rfl, hcell⟩ := hC.2.2 hp
  have hlen : (nums .u8 l).length = n := by rw [nums_length, hl]
  refine wpList_copy_own hgd x y 26 26 ho 5 Tryz.underlying26 (by kernel_rfl) g 0 n dc ad n sc hd hs old t h (nums .u8 l) (by rw [hlen]; simp) ?_ (by rw [hlen, hn]; omega) ?_ ?_
  · intro j v hv
    have hj : j < l.length := by
      have := (List.getElem?_eq_some_iff.1 hv).1
      rwa [nums_length] at this
    obtain ⟨c, _, hc2, hc3⟩ := hcell j l[j] (List.getElem?_eq_getElem hj)
    have hc2' : c = [.int .u8 l[j]] := hc2
    subst hc2'
    have h0 := hc3 0 _ rfl
    have he : nums .u8 l = l.map fun x => .int .u8 x := rfl
    rw [he, List.getElem?_map, List.getElem?_eq_getElem hj] at hv
    simp only [Option.map_some, Option.some.injEq] at hv
    rw [← hv]
    simpa [Kd.int, Kd.scalar] using h0
  · intro v hv
    simp only [nums, List.mem_map] at hv
    obtain ⟨x, _, rfl⟩ := hv
    rfl
  · rw [hlen]
    have e : (old.toList.take 0 ++ (nums .u8 l ++ old.toList.drop (0 + n))).toArray = u8s l := by
      rw [List.take_zero, List.nil_append, List.drop_eq_nil_of_le (by simp; omega), List.append_nil]; rfl
    rw [e]
    exact hk _ (h.setRow _) (fun w0 base hb hw => below_setRow hw hb _)
end

theorem ib_any (b v : Int) (h0 : 0 ≤ b) (h1 : b ≤ 255) (hv : nib b = v) (W : World) : Calls Tryz.prog 97 #[.string ⟨#[48, 49, 50, 51, 52, 53, 54, 55, 56, 57, 97, 98, 99, 100, 101, 102]⟩, .int .u8 b] W fun e w' => e = .returned (.int .i64 v) ∧ w' = W := by
  subst hv
  rw [← valI_nib b h0 h1]
  exact Tryz.strings_IndexByte hexT b W
theorem form_lo : bt (idS zId) 0 = 60 := good_idS zId okId_z 0 (by omega)
theorem form_hi (k : Nat) (h1 : 64 < k) (h2 : k < 71) : bt (idS zId) (k : Int) = bt tailS ((k - 65 : Nat) : Int) := by
  have := good_idS zId okId_z k h2
  unfold goodB at this
  rwa [if_neg (by omega), if_neg (by omega)] at this

set_option maxHeartbeats 4000000 in
set_option maxRecDepth 100000 in
theorem mparse_ok (s : ByteArray) (i : List Int) (W : World) (hp : parseF s = some i) :
    Calls Tryz.prog 80 #[.string s] W fun r w' => r = .returned (.tuple #[.agg (u8s i), .int .i64 0, .int .i64 0]) ∧ Below W.heap.size W w' := by
  have hi := (parseF_some s i).mp hp
  have hs : s.size = 71 := by rw [hi.2]; exact idS_size71 hi.1.1
  have HG71 := Aside0.mk (show ∀ k, k < 71 → goodB s k by rw [hi.2]; exact fun k hk => good_idS i hi.1 k hk)
  have hpi : pidF s = i := Option.some.inj ((parseF_good s hs HG71.out).symm.trans hp)
  have HU := Aside0.mk (unhex_pid s hs HG71.out)
  rw [hpi] at HU
  have HI := Aside0.mk hi.1
  clear hp hi hpi
  have HMP := Aside0.mk (fun W => mprint_any zId W okId_z.1 okId_z.2)
  obtain ⟨sF, hsF⟩ : ∃ sF, idS zId = sF := ⟨_, rfl⟩
  have hfs : sF.size = 71 := by rw [← hsF]; exact idS_size71 okId_z.1
  have HF0 := Aside0.mk form_lo
  have HF1 := Aside0.mk form_hi
  rw [hsF] at HMP HF0 HF1
  clear hsF
  go_enter Tryz.func80, Tryz.ntmps80
  go_wp2_with (first
    | ((with_reducible refine gate_dst (N := 2) rfl ?_); refine alloc_blk rfl rfl rfl zero37 ?_; intro g w1 hg hz hb; have HGE := Aside0.mk (show W.heap.size ≤ g by rw [hg]; exact Nat.le_refl _); have Z1 := Aside0.mk hz; have B1 := Aside0.mk hb; clear hg hz hb)
    | ((with_reducible refine gate_dst (N := 10) rfl ?_); refine build_blk rfl rfl rfl builtz37 ?_))
  refine (HMP.out _).mono ?_
  rintro e w2 ⟨rfl, hb⟩
  have Z2 := Aside0.mk (Z1.out.below hb)
  have B2 := Aside0.mk (below_step B1.out hb)
  clear hb Z1 B1
  go_wp2_with fail
  go_loopg [15] 71 (fun gf x15 wx => ∃ k : Nat, k ≤ 71 ∧ x15 = .int .i64 k ∧ Hid (71 ≤ k + gf) ∧  Aside0 (Blk wx g (u8s zId) 37) ∧ Aside0 (Below W.heap.size W wx))
  case atStart => exact ⟨0, Nat.zero_le _, rfl, by unfold Hid; omega,  Z2, B2⟩
  case round =>
    clear Z2 B2
    obtain ⟨k, hk, rfl, HG, Z, B⟩ := hrel
    by_cases hlt : k < 71
    · have hgood := HG71.out k hlt
      have HGD := Aside0.mk hgood
      have hgb := hgood
      clear hgood
      unfold goodB at hgb
      by_cases hk0 : k = 0
      · subst hk0
        rw [if_pos rfl] at hgb
        have hks : 0 < s.size := by omega
        have hbr := bt_range s ((0 : Nat) : Int)
        obtain ⟨b, hb⟩ : ∃ b, bt s ((0 : Nat) : Int) = b := ⟨_, rfl⟩
        have hS : (s[0].toNat : Int) = b := (show (s[0].toNat : Int) = bt s ((0 : Nat) : Int) from bt_at s ((0 : Nat) : Int) hks).trans hb
        rw [hb] at hbr
        rw [hb] at hgb
        have hkf : 0 < sF.size := by omega
        have hFk : (sF[0].toNat : Int) = 60 := (show (sF[0].toNat : Int) = bt sF ((0 : Nat) : Int) from bt_at sF ((0 : Nat) : Int) hkf).trans HF0.out
        subst hgb
        clear hb hbr
        go_wp2_with fail
        go_quiet (fail)
        go_wp2_with fail
        go_roundg (gk - 1)
        case measure => have := HG.out; omega
        case rel => exact ⟨1, by omega, by go_num, by have := HG.out; unfold Hid; omega,  ⟨Z.out⟩, ⟨pw_below_drewN B.out _⟩⟩
      · rw [if_neg hk0] at hgb
        by_cases hk1 : k ≤ 64
        · rw [if_pos hk1] at hgb
          have hks : k < s.size := by omega
          have hbr := bt_range s (k : Int)
          obtain ⟨b, hb⟩ : ∃ b, bt s (k : Int) = b := ⟨_, rfl⟩
          have hS : (s[k].toNat : Int) = b := (show (s[k].toNat : Int) = bt s (k : Int) from bt_at s (k : Int) hks).trans hb
          rw [hb] at hbr
          rw [hb] at hgb
          obtain ⟨v, hv⟩ : ∃ v, nib b = v := ⟨_, rfl⟩
          have HV := Aside0.mk (show nib (s[k].toNat : Int) = v by rw [hS]; exact hv)
          have HBR := Aside0.mk (show 0 ≤ (s[k].toNat : Int) ∧ (s[k].toNat : Int) ≤ 255 by rw [hS]; exact hbr)
          clear hS
          rw [hv] at hgb
          have hvd : decide (v < 0) = false := by simp; omega
          clear hb hbr hv
          have e1 : (1 : Int) ≤ (k : Int) := by omega
          have e2 : (k : Int) < 65 := by omega
          have e3 : (k : Int) < (s.size : Int) := by omega
          go_wp2_with fail
          go_quiet ((go_at_call 97; exact Calls.quiet_of_same (ib_any _ v HBR.out.1 HBR.out.2 HV.out _)))
          go_wp2_with fail
          go_roundg (gk - 1)
          case measure => have := HG.out; omega
          case rel => exact ⟨k + 1, by omega, by go_num, by have := HG.out; unfold Hid; omega,  ⟨Z.out⟩, ⟨pw_below_drewN B.out _⟩⟩
        · rw [if_neg hk1] at hgb
          have hks : k < s.size := by omega
          have hbr := bt_range s (k : Int)
          obtain ⟨b, hb⟩ : ∃ b, bt s (k : Int) = b := ⟨_, rfl⟩
          have hS : (s[k].toNat : Int) = b := (show (s[k].toNat : Int) = bt s (k : Int) from bt_at s (k : Int) hks).trans hb
          rw [hb] at hbr
          rw [hb] at hgb
          obtain ⟨f, hf⟩ : ∃ f, bt tailS ((k - 65 : Nat) : Int) = f := ⟨_, rfl⟩
          have hkf : k < sF.size := by omega
          have hFk : (sF[k].toNat : Int) = f := (show (sF[k].toNat : Int) = bt sF (k : Int) from bt_at sF (k : Int) hkf).trans ((HF1.out k (by omega) (by omega)).trans hf)
          rw [hf] at hgb
          subst hgb
          clear hb hbr hf
          have e1 : (1 : Int) ≤ (k : Int) := by omega
          have e2 : ¬ (k : Int) < 65 := by omega
          have e3 : (k : Int) < (s.size : Int) := by omega
          have e4 : (k : Int) < 71 := by omega
          go_wp2_with fail
          go_quiet (fail)
          go_wp2_with fail
          go_roundg (gk - 1)
          case measure => have := HG.out; omega
          case rel => exact ⟨k + 1, by omega, by go_num, by have := HG.out; unfold Hid; omega,  ⟨Z.out⟩, ⟨pw_below_drewN B.out _⟩⟩
    · obtain rfl : k = 71 := by omega
      obtain ⟨sx, hsx⟩ : ∃ sx, s.extract 1 65 = sx := ⟨_, rfl⟩
      have hsxs : sx.size = 64 := by rw [← hsx, ← data_length, extract_list, List.length_take, List.length_drop, data_length, hs]; rfl
      have HUX := Aside0.mk (fun w => unhexOf_any sx i 0 w (by omega) (hsx ▸ HU.out))
      go_wp2_with fail
      refine (HUX.out _).mono ?_
      rintro e w3 ⟨v, rfl, hR, hb⟩
      obtain ⟨A3, c3, rfl, hc3, hC3⟩ := Kd.R_reads hR
      have HC3 := Aside0.mk hC3
      have Z3 := Aside0.mk (Z.out.below hb)
      have B3 := Aside0.mk (below_step B.out hb)
      have hil := HI.out.1
      rw [hil] at HC3
      clear hR hb hC3 hsx
      rw [hil]
      go_wp2_with (first
        | ((with_reducible refine gate_builtin (b := .copy) (xs := #[.tmp 66, .tmp 67]) rfl ?_); refine copy_full rfl rfl rfl rfl Z3.out (by rw [u8s_size]; rfl) HI.out.1 (by omega) HC3.out ?_; intro w4 hz hb; have Z4 := Aside0.mk hz; have B4 := Aside0.mk (hb _ _ HGE.out B3.out); clear hz hb)
        | ((with_reducible refine gate_dst (N := 69) rfl ?_); refine load_blk rfl rfl rfl Z4.out Tryz.underlying37 rfl (by rw [u8s_size, HI.out.1]; exact size37) ?_)
        | ((with_reducible refine gate_store (t := 37) (p := 2) (v := .tmp 69) rfl ?_); refine store_blk_l rfl rfl rfl rfl rfl Z4.out (by rw [u8s_size, HI.out.1]; exact size37) rfl (u8s_one _) ?_; intro w5 hz hb _; have Z5 := Aside0.mk hz; have B5 := Aside0.mk (hb _ _ HGE.out B4.out); clear hz hb))
      refine bodyPost_ret (results_ctt rfl _ _ g 37 (u8s i) (0, 0) _ ?hp Z5.out Tryz.underlying37 rfl (by rw [u8s_size, HI.out.1]; exact size37)) rfl ?_
      case hp => rfl
      exact ⟨rfl, B5.out⟩

set_option maxHeartbeats 8000000 in
set_option maxRecDepth 100000 in
theorem mparse_bad (s : ByteArray) (W : World) (hsz : s.size ≤ 1000000) (hp : parseF s = none) :
    Calls Tryz.prog 80 #[.string s] W fun r w' => ∃ k e : Int, e ≠ 0 ∧ r = .returned (.tuple #[.agg (u8s zId), .int .i64 k, .int .i64 e]) ∧ Below W.heap.size W w' := by
  have HNG := Aside0.mk (show (∀ k, k < 71 → goodB s k) → s.size ≠ 71 from fun h hs => by rw [parseF_good s hs h] at hp; cases hp)
  obtain ⟨n, hn⟩ : ∃ n, min s.size 71 = n := ⟨_, rfl⟩
  have hn1 : n ≤ 71 := by omega
  have hn2 : n ≤ s.size := by omega
  have hnI : min (s.size : Int) 71 = (n : Int) := by omega
  have HN := Aside0.mk (show n = 71 ∨ n = s.size by omega)
  clear hp hn
  have HMP := Aside0.mk (fun W => mprint_any zId W okId_z.1 okId_z.2)
  obtain ⟨sF, hsF⟩ : ∃ sF, idS zId = sF := ⟨_, rfl⟩
  have hfs : sF.size = 71 := by rw [← hsF]; exact idS_size71 okId_z.1
  have HF0 := Aside0.mk form_lo
  have HF1 := Aside0.mk form_hi
  rw [hsF] at HMP HF0 HF1
  clear hsF
  go_enter Tryz.func80, Tryz.ntmps80
  go_wp2_with (first
    | ((with_reducible refine gate_dst (N := 2) rfl ?_); refine alloc_blk rfl rfl rfl zero37 ?_; intro g w1 hg hz hb; have HGE := Aside0.mk (show W.heap.size ≤ g by rw [hg]; exact Nat.le_refl _); have Z1 := Aside0.mk hz; have B1 := Aside0.mk hb; clear hg hz hb)
    | ((with_reducible refine gate_dst (N := 10) rfl ?_); refine build_blk rfl rfl rfl builtz37 ?_))
  refine (HMP.out _).mono ?_
  rintro e w2 ⟨rfl, hb⟩
  have Z2 := Aside0.mk (Z1.out.below hb)
  have B2 := Aside0.mk (below_step B1.out hb)
  clear hb Z1 B1
  go_wp2_with fail
  go_loopg [15] n (fun gf x15 wx => ∃ k : Nat, k ≤ n ∧ x15 = .int .i64 k ∧ Hid (n ≤ k + gf) ∧ Aside0 (∀ j, j < k → goodB s j) ∧ Aside0 (Blk wx g (u8s zId) 37) ∧ Aside0 (Below W.heap.size W wx))
  case atStart => exact ⟨0, Nat.zero_le _, rfl, by unfold Hid; omega, ⟨fun j hj => absurd hj (Nat.not_lt_zero _)⟩, Z2, B2⟩
  case round =>
    clear Z2 B2
    obtain ⟨k, hk, rfl, HG, HGA, Z, B⟩ := hrel
    by_cases hlt : k < n
    · by_cases hgood : goodB s k
      · have HGD := Aside0.mk hgood
        have hgb := hgood
        clear hgood
        unfold goodB at hgb
        by_cases hk0 : k = 0
        · subst hk0
          rw [if_pos rfl] at hgb
          have hks : 0 < s.size := by omega
          have hbr := bt_range s ((0 : Nat) : Int)
          obtain ⟨b, hb⟩ : ∃ b, bt s ((0 : Nat) : Int) = b := ⟨_, rfl⟩
          have hS : (s[0].toNat : Int) = b := (show (s[0].toNat : Int) = bt s ((0 : Nat) : Int) from bt_at s ((0 : Nat) : Int) hks).trans hb
          rw [hb] at hbr
          rw [hb] at hgb
          have hkf : 0 < sF.size := by omega
          have hFk : (sF[0].toNat : Int) = 60 := (show (sF[0].toNat : Int) = bt sF ((0 : Nat) : Int) from bt_at sF ((0 : Nat) : Int) hkf).trans HF0.out
          subst hgb
          clear hb hbr
          go_wp2_with fail
          go_quiet (fail)
          go_wp2_with fail
          go_roundg (gk - 1)
          case measure => have := HG.out; omega
          case rel => exact ⟨1, by omega, by go_num, by have := HG.out; unfold Hid; omega, ⟨fun j hj => by by_cases e : j = 0; (subst e; exact HGD.out); exact HGA.out j (by omega)⟩, ⟨Z.out⟩, ⟨pw_below_drewN B.out _⟩⟩
        · rw [if_neg hk0] at hgb
          by_cases hk1 : k ≤ 64
          · rw [if_pos hk1] at hgb
            have hks : k < s.size := by omega
            have hbr := bt_range s (k : Int)
            obtain ⟨b, hb⟩ : ∃ b, bt s (k : Int) = b := ⟨_, rfl⟩
            have hS : (s[k].toNat : Int) = b := (show (s[k].toNat : Int) = bt s (k : Int) from bt_at s (k : Int) hks).trans hb
            rw [hb] at hbr
            rw [hb] at hgb
            obtain ⟨v, hv⟩ : ∃ v, nib b = v := ⟨_, rfl⟩
            have HV := Aside0.mk (show nib (s[k].toNat : Int) = v by rw [hS]; exact hv)
            have HBR := Aside0.mk (show 0 ≤ (s[k].toNat : Int) ∧ (s[k].toNat : Int) ≤ 255 by rw [hS]; exact hbr)
            clear hS
            rw [hv] at hgb
            have hvd : decide (v < 0) = false := by simp; omega
            clear hb hbr hv
            have e1 : (1 : Int) ≤ (k : Int) := by omega
            have e2 : (k : Int) < 65 := by omega
            have e3 : (k : Int) < (s.size : Int) := by omega
            go_wp2_with fail
            go_quiet ((go_at_call 97; exact Calls.quiet_of_same (ib_any _ v HBR.out.1 HBR.out.2 HV.out _)))
            go_wp2_with fail
            go_roundg (gk - 1)
            case measure => have := HG.out; omega
            case rel => exact ⟨k + 1, by omega, by go_num, by have := HG.out; unfold Hid; omega, ⟨fun j hj => by by_cases e : j = k; (subst e; exact HGD.out); exact HGA.out j (by omega)⟩, ⟨Z.out⟩, ⟨pw_below_drewN B.out _⟩⟩
          · rw [if_neg hk1] at hgb
            have hks : k < s.size := by omega
            have hbr := bt_range s (k : Int)
            obtain ⟨b, hb⟩ : ∃ b, bt s (k : Int) = b := ⟨_, rfl⟩
            have hS : (s[k].toNat : Int) = b := (show (s[k].toNat : Int) = bt s (k : Int) from bt_at s (k : Int) hks).trans hb
            rw [hb] at hbr
            rw [hb] at hgb
            obtain ⟨f, hf⟩ : ∃ f, bt tailS ((k - 65 : Nat) : Int) = f := ⟨_, rfl⟩
            have hkf : k < sF.size := by omega
            have hFk : (sF[k].toNat : Int) = f := (show (sF[k].toNat : Int) = bt sF (k : Int) from bt_at sF (k : Int) hkf).trans ((HF1.out k (by omega) (by omega)).trans hf)
            rw [hf] at hgb
            subst hgb
            clear hb hbr hf
            have e1 : (1 : Int) ≤ (k : Int) := by omega
            have e2 : ¬ (k : Int) < 65 := by omega
            have e3 : (k : Int) < (s.size : Int) := by omega
            have e4 : (k : Int) < 71 := by omega
            go_wp2_with fail
            go_quiet (fail)
            go_wp2_with fail
            go_roundg (gk - 1)
            case measure => have := HG.out; omega
            case rel => exact ⟨k + 1, by omega, by go_num, by have := HG.out; unfold Hid; omega, ⟨fun j hj => by by_cases e : j = k; (subst e; exact HGD.out); exact HGA.out j (by omega)⟩, ⟨Z.out⟩, ⟨pw_below_drewN B.out _⟩⟩
      · have HGD := Aside0.mk hgood
        have hgb := hgood
        clear hgood
        unfold goodB at hgb
        by_cases hk0 : k = 0
        · subst hk0
          rw [if_pos rfl] at hgb
          have hks : 0 < s.size := by omega
          have hbr := bt_range s ((0 : Nat) : Int)
          obtain ⟨b, hb⟩ : ∃ b, bt s ((0 : Nat) : Int) = b := ⟨_, rfl⟩
          have hS : (s[0].toNat : Int) = b := (show (s[0].toNat : Int) = bt s ((0 : Nat) : Int) from bt_at s ((0 : Nat) : Int) hks).trans hb
          rw [hb] at hbr
          rw [hb] at hgb
          have hbb : (b != 60) = true := by simp [hgb]
          have hkf : 0 < sF.size := by omega
          have hFk : (sF[0].toNat : Int) = 60 := (show (sF[0].toNat : Int) = bt sF ((0 : Nat) : Int) from bt_at sF ((0 : Nat) : Int) hkf).trans HF0.out
          clear hb hbr
          go_wp2_with fail
          go_quiet (fail)
          go_wp2_with (first
            | ((with_reducible refine gate_dst (N := 45) rfl ?_); refine build_blk rfl rfl rfl builtz37 ?_)
            | ((with_reducible refine gate_store (t := 37) (p := 2) (v := .tmp 45) rfl ?_); refine store_blk_l (W := wr.drewN nq) (cs := u8s zId) rfl rfl rfl rfl rfl (show Blk (wr.drewN nq) g (u8s zId) 37 from Z.out) (by rw [u8s_size]; exact size37) rfl (u8s_one _) ?_; intro w5 hz hb _; have Z5 := Aside0.mk hz; have B5 := Aside0.mk (hb _ _ HGE.out (pw_below_drewN B.out nq)); clear hz hb))
          refine bodyPost_ret (results_ctt rfl _ _ g 37 (u8s zId) (0, 0) _ ?hp Z5.out Tryz.underlying37 rfl (by rw [u8s_size]; exact size37)) rfl ?_
          case hp => rfl
          exact ⟨_, _, by decide, rfl, B5.out⟩
        · rw [if_neg hk0] at hgb
          by_cases hk1 : k ≤ 64
          · rw [if_pos hk1] at hgb
            have hks : k < s.size := by omega
            have hbr := bt_range s (k : Int)
            obtain ⟨b, hb⟩ : ∃ b, bt s (k : Int) = b := ⟨_, rfl⟩
            have hS : (s[k].toNat : Int) = b := (show (s[k].toNat : Int) = bt s (k : Int) from bt_at s (k : Int) hks).trans hb
            rw [hb] at hbr
            rw [hb] at hgb
            obtain ⟨v, hv⟩ : ∃ v, nib b = v := ⟨_, rfl⟩
            have HV := Aside0.mk (show nib (s[k].toNat : Int) = v by rw [hS]; exact hv)
            have HBR := Aside0.mk (show 0 ≤ (s[k].toNat : Int) ∧ (s[k].toNat : Int) ≤ 255 by rw [hS]; exact hbr)
            clear hS
            rw [hv] at hgb
            have hvd : decide (v < 0) = true := by simp; omega
            clear hb hbr hv
            have e1 : (1 : Int) ≤ (k : Int) := by omega
            have e2 : (k : Int) < 65 := by omega
            have e3 : (k : Int) < (s.size : Int) := by omega
            go_wp2_with fail
            go_quiet ((go_at_call 97; exact Calls.quiet_of_same (ib_any _ v HBR.out.1 HBR.out.2 HV.out _)))
            go_wp2_with (first
              | ((with_reducible refine gate_dst (N := 45) rfl ?_); refine build_blk rfl rfl rfl builtz37 ?_)
              | ((with_reducible refine gate_store (t := 37) (p := 2) (v := .tmp 45) rfl ?_); refine store_blk_l (W := wr.drewN nq) (cs := u8s zId) rfl rfl rfl rfl rfl (show Blk (wr.drewN nq) g (u8s zId) 37 from Z.out) (by rw [u8s_size]; exact size37) rfl (u8s_one _) ?_; intro w5 hz hb _; have Z5 := Aside0.mk hz; have B5 := Aside0.mk (hb _ _ HGE.out (pw_below_drewN B.out nq)); clear hz hb))
            refine bodyPost_ret (results_ctt rfl _ _ g 37 (u8s zId) (0, 0) _ ?hp Z5.out Tryz.underlying37 rfl (by rw [u8s_size]; exact size37)) rfl ?_
            case hp => rfl
            exact ⟨_, _, by decide, rfl, B5.out⟩
          · rw [if_neg hk1] at hgb
            have hks : k < s.size := by omega
            have hbr := bt_range s (k : Int)
            obtain ⟨b, hb⟩ : ∃ b, bt s (k : Int) = b := ⟨_, rfl⟩
            have hS : (s[k].toNat : Int) = b := (show (s[k].toNat : Int) = bt s (k : Int) from bt_at s (k : Int) hks).trans hb
            rw [hb] at hbr
            rw [hb] at hgb
            obtain ⟨f, hf⟩ : ∃ f, bt tailS ((k - 65 : Nat) : Int) = f := ⟨_, rfl⟩
            have hkf : k < sF.size := by omega
            have hFk : (sF[k].toNat : Int) = f := (show (sF[k].toNat : Int) = bt sF (k : Int) from bt_at sF (k : Int) hkf).trans ((HF1.out k (by omega) (by omega)).trans hf)
            rw [hf] at hgb
            have hbb : (b != f) = true := by simp [hgb]
            clear hb hbr hf
            have e1 : (1 : Int) ≤ (k : Int) := by omega
            have e2 : ¬ (k : Int) < 65 := by omega
            have e3 : (k : Int) < (s.size : Int) := by omega
            have e4 : (k : Int) < 71 := by omega
            go_wp2_with fail
            go_quiet (fail)
            go_wp2_with (first
              | ((with_reducible refine gate_dst (N := 45) rfl ?_); refine build_blk rfl rfl rfl builtz37 ?_)
              | ((with_reducible refine gate_store (t := 37) (p := 2) (v := .tmp 45) rfl ?_); refine store_blk_l (W := wr.drewN nq) (cs := u8s zId) rfl rfl rfl rfl rfl (show Blk (wr.drewN nq) g (u8s zId) 37 from Z.out) (by rw [u8s_size]; exact size37) rfl (u8s_one _) ?_; intro w5 hz hb _; have Z5 := Aside0.mk hz; have B5 := Aside0.mk (hb _ _ HGE.out (pw_below_drewN B.out nq)); clear hz hb))
            refine bodyPost_ret (results_ctt rfl _ _ g 37 (u8s zId) (0, 0) _ ?hp Z5.out Tryz.underlying37 rfl (by rw [u8s_size]; exact size37)) rfl ?_
            case hp => rfl
            exact ⟨_, _, by decide, rfl, B5.out⟩
    · obtain rfl : k = n := by omega
      by_cases h71 : s.size < 71
      · go_wp2_with (first
          | ((with_reducible refine gate_dst (N := 52) rfl ?_); refine build_blk rfl rfl rfl builtz37 ?_)
          | ((with_reducible refine gate_store (t := 37) (p := 2) (v := .tmp 52) rfl ?_); refine store_blk_l (W := wr) (cs := u8s zId) rfl rfl rfl rfl rfl Z.out (by rw [u8s_size]; exact size37) rfl (u8s_one _) ?_; intro w5 hz hb _; have Z5 := Aside0.mk hz; have B5 := Aside0.mk (hb _ _ HGE.out B.out); clear hz hb))
        refine bodyPost_ret (results_ctt rfl _ _ g 37 (u8s zId) (0, 0) _ ?hp Z5.out Tryz.underlying37 rfl (by rw [u8s_size]; exact size37)) rfl ?_
        case hp => rfl
        exact ⟨_, _, by decide, rfl, B5.out⟩
      · have h72 : 71 < s.size := by
          have := HNG.out (fun j hj => HGA.out j (by have := HN.out; omega))
          omega
        go_wp2_with (first
          | ((with_reducible refine gate_dst (N := 59) rfl ?_); refine build_blk rfl rfl rfl builtz37 ?_)
          | ((with_reducible refine gate_store (t := 37) (p := 2) (v := .tmp 59) rfl ?_); refine store_blk_l (W := wr) (cs := u8s zId) rfl rfl rfl rfl rfl Z.out (by rw [u8s_size]; exact size37) rfl (u8s_one _) ?_; intro w5 hz hb _; have Z5 := Aside0.mk hz; have B5 := Aside0.mk (hb _ _ HGE.out B.out); clear hz hb))
        refine bodyPost_ret (results_ctt rfl _ _ g 37 (u8s zId) (0, 0) _ ?hp Z5.out Tryz.underlying37 rfl (by rw [u8s_size]; exact size37)) rfl ?_
        case hp => rfl
        exact ⟨_, _, by decide, rfl, B5.out⟩

end Go.Proofs.YtceopllngemnnaaGreatDoor


/-
  head of package batch: what it returns. For lines of up to a million bytes.
-/
namespace Go.Proofs.YtceopllngemnnaaGreatDoor
open Go.RowKit Go.Proofs.YtceopllngemnnaaGreatDoorW.PrintWords Go.Proofs.YtceopllngemnnaaGreatDoorW.PrintLast Go.Proofs.YtceopllngemnnaaGreatDoorW.PrintMore Go.Proofs.YtceopllngemnnaaGreatDoor.PRef

theorem mparse_any (s : ByteArray) (W : World) (hs : s.size ≤ 1000000) :
    Calls Tryz.prog 80 #[.string s] W fun r w' => ∃ (id : List Int) (k e : Int), r = .returned (.tuple #[.agg (u8s id), .int .i64 k, .int .i64 e]) ∧ okId id ∧ (∀ i, parseF s = some i → e = 0 ∧ id = i) ∧ (parseF s = none → e ≠ 0) ∧ Below W.heap.size W w' := by
  cases hp : parseF s with
  | none => exact (mparse_bad s W hs hp).mono fun r w' ⟨k, e, h1, h2, h3⟩ => ⟨zId, k, e, h2, okId_z, fun i h => (by cases h), fun _ => h1, h3⟩
  | some i => exact (mparse_ok s i W hp).mono fun r w' ⟨h2, h3⟩ => ⟨i, 0, 0, h2, ((parseF_some s i).mp hp).1, fun j h => ⟨rfl, Option.some.inj h⟩, fun h => (by cases h), h3⟩

/-- What the line of an item tells. -/
def headF (line : ByteArray) : Option (List Int × Nat × ByteArray) := match wordsF line with
  | [a, b, c, d] => if a = artB ∧ (numF b 65536).2 = 0 ∧ (unhexF c).2 = 0 ∧ c.size = 32 then (parseF d).map fun id => (id, (numF b 65536).1.toNat, c) else none
  | _ => none
theorem artB_ne {wd : ByteArray} (h : wd ≠ artB) : ¬ wd.toList = [97, 114, 116, 105, 99, 108, 101] := by
  intro he
  apply h
  apply data_inj
  rw [ByteArray.toList_eq] at he
  rw [he]; rfl
theorem words_len (s : ByteArray) : (wordsF s).length = Lib.countB s spB + 1 := Lib.splitB_all spB (by decide) 0 _ s rfl
def wordsV (l : List ByteArray) : Array Value := (l.map Value.string).toArray
theorem split_any (s : ByteArray) (m : Int) (w : World) (hs : s.size < 4294967281) (hm : w.cell? ⟨0, 0, none⟩ = some (.int .i64 m)) :
    Calls Tryz.prog 78 #[.string s, .string ⟨#[32]⟩] w fun e w' => ∃ g, e = .returned (.slice (some ⟨g, 0, none⟩) (wordsF s).length (wordsF s).length) ∧ Blk w' g (wordsV (wordsF s)) 9 ∧ Below w.heap.size w w' :=
  (Tryz.strings_Split s ⟨#[32]⟩ m w hs hm (by decide)).mono fun e w' ⟨he, hw⟩ => ⟨w.heap.size, by rw [words_len]; exact he, by rw [hw]; exact blk_new w _, by rw [hw]; exact below_alloc (Below.refl _ _) _⟩

/-! Region tables, printed by rg2.py. -/
def r60_8.T : Bool × List (List Nat × List Nat) := (true, [([], []), ([], []), ([], []), ([2], [2]), ([3], [3]), ([], []), ([0, 0], [0]), ([1, 6, 0, 1, 6], [1]), ([4, 7, 0, 1, 2, 3, 4, 6, 7], [4]), ([5, 8, 0, 1, 2, 3, 4, 5, 6, 7, 8], [5])])
def r60_8.B : List Nat := [0, 0, 0, 4, 12, 0, 1, 67, 223, 511]
theorem r60_8.tab : rtab .any (opsOf Tryz.f60 8) = r60_8.T := by kernel_rfl
theorem r60_8.bits : waitsOk r60_8.T.2 r60_8.B = true := by kernel_rfl

theorem word_size {s x : ByteArray} (h : x ∈ wordsF s) : x.size ≤ s.size := by
  have : ∀ n (s : ByteArray), s.size ≤ n → x ∈ wordsF s → x.size ≤ s.size := by
    intro n
    induction n with
    | zero =>
      intro s hn hx
      have h0 : s.data.toList = [] := List.eq_nil_of_length_eq_zero (by rw [data_length]; omega)
      rw [words_one s (by rw [h0]; simp)] at hx
      obtain rfl : x = s := by simpa using hx
      exact Nat.le_refl _
    | succ n ih =>
      intro s hn hx
      rcases find_sep 32 s.data.toList with h1 | ⟨a, r, h1, ha⟩
      · rw [words_one s h1] at hx
        obtain rfl : x = s := by simpa using hx
        exact Nat.le_refl _
      · rw [words_cons s a r h1 ha] at hx
        have hl := congrArg List.length h1
        rw [data_length] at hl
        simp at hl
        rcases List.mem_cons.mp hx with rfl | hx
        · rw [mkB_size]; omega
        · have := ih (mkB r) (by rw [mkB_size]; omega) hx
          rw [mkB_size] at this
          omega
  exact this s.size s (Nat.le_refl _) h

set_option maxHeartbeats 4000000 in
set_option maxRecDepth 100000 in
theorem head_any (s : ByteArray) (W : World) (he : Env W) (hs : s.size ≤ 1000000) :
    Calls Tryz.prog 60 #[.string s] W fun r w' => ∃ (id : List Int) (v : Int) (c : ByteArray), okId id ∧ r = .returned (.tuple #[.agg (u8s id), .int .i64 v, .string c, .bool (headF s).isSome]) ∧ (∀ i n x, headF s = some (i, n, x) → id = i ∧ v = n ∧ c = x) ∧ Below W.heap.size W w' := by
  obtain ⟨mx, hmx⟩ := he.len
  have HSP := Aside0.mk (fun w mx hm => split_any s mx w (by omega) hm)
  have HE := Aside0.mk he
  have HWS := Aside0.mk (fun x (hx : x ∈ wordsF s) => word_size hx)
  obtain ⟨r, hr⟩ : ∃ r, headF s = r := ⟨_, rfl⟩
  have hdef := hr
  unfold headF at hdef
  obtain ⟨ws, hws⟩ : ∃ ws, wordsF s = ws := ⟨_, rfl⟩
  rw [hws] at hdef HSP HWS
  rw [hr]
  obtain ⟨n, hn⟩ : ∃ n, ws.length = n := ⟨_, rfl⟩
  rw [hn] at HSP
  clear hws hr hmx he
  by_cases h4 : n = 4
  · obtain ⟨a, b, c, d, rfl⟩ : ∃ a b c d, ws = [a, b, c, d] := by
      match ws, hn.trans h4 with
      | [a, b, c, d], _ => exact ⟨a, b, c, d, rfl⟩
    subst h4
    simp only [] at hdef
    by_cases ha' : a = artB
    · subst ha'
      have hal : artB.toList = [97, 114, 116, 105, 99, 108, 101] := by rw [ByteArray.toList_eq]; rfl
      have hbs := HWS.out b (by simp)
      have hcs := HWS.out c (by simp)
      have hds := HWS.out d (by simp)
      have HNA := Aside0.mk (fun w he => number_any b 65536 w he (by omega))
      have hnr := numF_range b 65536 (by omega) (by omega)
      obtain ⟨v, hv⟩ : ∃ v, (numF b 65536).1 = v := ⟨_, rfl⟩
      obtain ⟨e1, he1⟩ : ∃ e, (numF b 65536).2 = e := ⟨_, rfl⟩
      obtain ⟨lu, e2, hu⟩ : ∃ l e, unhexF c = (l, e) := ⟨_, _, rfl⟩
      have HUX := Aside0.mk (fun w => unhexOf_any c lu e2 w (by omega) hu)
      have HPA := Aside0.mk (fun w => mparse_any d w (by omega))
      rw [hv, he1] at HNA hdef
      rw [hv] at hnr
      rw [hu] at hdef
      have HDEF := Aside0.mk hdef
      have HNR := Aside0.mk hnr
      clear hdef hnr hbs hds hv he1 hu hn HWS
      go_enter Tryz.func60, Tryz.ntmps60
      go_wp2_with (first
        | ((with_reducible refine gate_dst (N := 2) rfl ?_); refine alloc_blk rfl rfl rfl zero37 ?_; intro g w1 hg hz hb; have HGE := Aside0.mk (show W.heap.size ≤ g by rw [hg]; exact Nat.le_refl _); have Z1 := Aside0.mk hz; have B1 := Aside0.mk hb; have E1 := Aside0.mk (HE.out.below hb); clear hg hz hb))
      obtain ⟨mx, hmx⟩ := E1.out.len
      refine (HSP.out _ mx hmx).mono ?_
      rintro e w2 ⟨g6, rfl, hy, hb⟩
      have Y2 := Aside0.mk (show Blk w2 g6 #[.string artB, .string b, .string c, .string d] 9 from hy)
      have Z2 := Aside0.mk (Z1.out.below hb)
      have B2 := Aside0.mk (below_step B1.out hb)
      have k0 : w2.cell? ⟨g6, 0, none⟩ = some (.string artB) := by rw [Lib.cell_of_heap hy]; rfl
      have k1 : w2.cell? ⟨g6, 1, none⟩ = some (.string b) := by rw [Lib.cell_of_heap hy]; rfl
      clear hy hb Z1 B1 hmx
      go_wp2_with fail
      refine (HNA.out _ (HE.out.below B2.out)).mono ?_
      rintro e w3 ⟨rfl, hb⟩
      have Y3 := Aside0.mk (Y2.out.below hb)
      have Z3 := Aside0.mk (Z2.out.below hb)
      have B3 := Aside0.mk (below_step B2.out hb)
      have k2 : w3.cell? ⟨g6, 2, none⟩ = some (.string c) := by rw [Lib.cell_of_heap Y3.out]; rfl
      clear hb k0 k1 Y2 Z2 B2
      go_wp2_with fail
      refine (HUX.out _).mono ?_
      rintro e w4 ⟨vu, rfl, _, hb⟩
      have Y4 := Aside0.mk (Y3.out.below hb)
      have Z4 := Aside0.mk (Z3.out.below hb)
      have B4 := Aside0.mk (below_step B3.out hb)
      have k3 : w4.cell? ⟨g6, 3, none⟩ = some (.string d) := by rw [Lib.cell_of_heap Y4.out]; rfl
      clear hb k2 Y3 Z3 B3
      go_wp2_with fail
      refine (HPA.out _).mono ?_
      rintro e w6 ⟨id, kk, e3, rfl, hid, hps, hpn, hb⟩
      have HI := Aside0.mk hid
      have HPS := Aside0.mk hps
      have HPN := Aside0.mk hpn
      have Y6 := Aside0.mk (Y4.out.below hb)
      have Z6 := Aside0.mk (Z4.out.below hb)
      have B6 := Aside0.mk (below_step B4.out hb)
      clear hb k3 Y4 Z4 B4 hid hps hpn
      go_upto_region 7 with (first
        | ((with_reducible refine gate_store (t := 37) (p := 2) (v := .tmp 43) rfl ?_); refine store_blk_l rfl rfl rfl rfl rfl Z6.out (by rw [u8s_size, HI.out.1]; exact size37) (by rw [u8s_size, u8s_size, HI.out.1]; rfl) (u8s_one _) ?_; intro w5 hz hb hn; have Z := Aside0.mk hz; have B := Aside0.mk (hb _ _ HGE.out B6.out); have Y := Aside0.mk (hn _ _ _ Y6.out (by have := blk_ne Z6.out Y6.out (by decide); omega)); clear hz hb hn))
      have k2 : w5.cell? ⟨g6, 2, none⟩ = some (.string c) := by rw [Lib.cell_of_heap Y.out]; rfl
      obtain ⟨okb, hokb⟩ : ∃ okb : Bool, (decide (e1 = 0) && decide (e2 = 0) && decide (e3 = 0) && decide (c.size = 32)) = okb := ⟨_, rfl⟩
      have HOK := Aside0.mk hokb
      clear hokb
      go_cut [5] (fun v5 wx => v5 = .bool okb ∧ w5 = wx)
      case first =>
        by_cases h1 : e1 = 0
        · by_cases h2 : e2 = 0
          · by_cases h3 : e3 = 0
            · by_cases h4 : c.size = 32
              · have hok := HOK.out
                rw [decide_eq_true h1, decide_eq_true h2, decide_eq_true h3, decide_eq_true h4] at hok
                have HK := Aside0.mk hok
                clear HOK hok
                go_wp2_with fail
                go_meet
                exact ⟨by rw [← HK.out]; rfl, rfl⟩
              · have hok := HOK.out
                rw [decide_eq_true h1, decide_eq_true h2, decide_eq_true h3, decide_eq_false h4] at hok
                have hcI : ((c.size : Int) == 32) = false := by simp; omega
                have HK := Aside0.mk hok
                clear HOK hok
                go_wp2_with fail
                go_meet
                exact ⟨by rw [← HK.out]; rfl, rfl⟩
            · have hok := HOK.out
              rw [decide_eq_false h3, Bool.and_false, Bool.false_and] at hok
              have hb3 : (e3 == 0) = false := by simp [h3]
              have HK := Aside0.mk hok
              clear HOK hok
              go_wp2_with fail
              go_meet
              exact ⟨by rw [← HK.out], rfl⟩
          · have hok := HOK.out
            rw [decide_eq_false h2, Bool.and_false, Bool.false_and, Bool.false_and] at hok
            have hb2 : (e2 == 0) = false := by simp [h2]
            have HK := Aside0.mk hok
            clear HOK hok
            go_wp2_with fail
            go_meet
            exact ⟨by rw [← HK.out], rfl⟩
        · have hok := HOK.out
          rw [decide_eq_false h1, Bool.false_and, Bool.false_and, Bool.false_and] at hok
          have hb1 : (e1 == 0) = false := by simp [h1]
          have HK := Aside0.mk hok
          clear HOK hok
          go_wp2_with fail
          go_meet
          exact ⟨by rw [← HK.out], rfl⟩
      case rest =>
        obtain ⟨rfl, rfl⟩ := hcut
        have HR : Aside0 (okb = r.isSome ∧ ∀ i n x, r = some (i, n, x) → id = i ∧ v = n ∧ c = x) := ⟨by
          have hd := HDEF.out
          have hb := HOK.out
          by_cases hall : e1 = 0 ∧ e2 = 0 ∧ c.size = 32
          · rw [if_pos ⟨trivial, hall⟩] at hd
            rw [decide_eq_true hall.1, decide_eq_true hall.2.1, decide_eq_true hall.2.2] at hb
            cases hp : parseF d with
            | none =>
              rw [hp] at hd
              rw [decide_eq_false (HPN.out hp)] at hb
              rw [← hd, ← hb]
              exact ⟨rfl, fun i n x h => by cases h⟩
            | some i =>
              rw [hp] at hd
              obtain ⟨q1, q2⟩ := HPS.out i hp
              rw [decide_eq_true q1] at hb
              rw [← hd, ← hb]
              refine ⟨rfl, fun i' n' x' h => ?_⟩
              simp only [Option.map_some, Option.some.injEq, Prod.mk.injEq] at h
              obtain ⟨rfl, rfl, rfl⟩ := h
              exact ⟨q2, by have := HNR.out; omega, rfl⟩
          · rw [if_neg (fun h => hall h.2)] at hd
            have hf : okb = false := by
              rw [← hb]
              by_cases h1 : e1 = 0
              · by_cases h2 : e2 = 0
                · have h3 : ¬ c.size = 32 := fun h => hall ⟨h1, h2, h⟩
                  rw [decide_eq_false h3, Bool.and_false]
                · rw [decide_eq_false h2, Bool.and_false, Bool.false_and, Bool.false_and]
              · rw [decide_eq_false h1, Bool.false_and, Bool.false_and, Bool.false_and]
            rw [← hd, hf]
            exact ⟨rfl, fun i n x h => by cases h⟩⟩
        clear k2 HOK HPS HPN HDEF
        obtain ⟨hr1, hr2⟩ := HR.out
        have HR1 := Aside0.mk hr1
        have HR := Aside0.mk hr2
        clear hr1 hr2
        have HNE := Aside0.mk (show g6 ≠ g from fun h => blk_ne Z.out Y.out (by decide) h.symm)
        have HCW := Aside0.mk (show c.size ≤ 1000000 by omega)
        obtain ⟨a, ha⟩ : ∃ a, artB = a := ⟨_, rfl⟩
        have HY := Aside0.mk Y.out
        rw [ha] at HY
        have Y := HY
        clear HY
        go_wp2_with fail
        refine start_ (n := 10) (S := fun w' => Blk w' g (u8s id) 37 ∧ Blk w' g6 #[.string a, .string b, .string c, .string d] 9 ∧ Below W.heap.size W w') (ds := []) #[false, false, false, false, false, false, false, false, false, false] (by kernel_rfl) rfl rfl ⟨Z.out, Y.out, below_drew B.out⟩ (fun hHeld => ?_)
        refine with_tabW r60_8.tab r60_8.bits (fun HT_ HW_ => ?_)
        generalize w5.drew = wd at hHeld ⊢
        have HH := Aside0.mk hHeld
        clear hHeld
        refine pure_ (i := 1) (N := some 64) (v := ?_) (a' := ?_) #[false, true, false, false, false, false, false, false, false, false] rfl rfl (any_of HT_.out (by kernel_rfl)) (fun _ _ _ h => h) (Or.inl ⟨by rfl, ?_⟩) ?_ ?_
        rotate_left
        · intro w'
          go_simp
          with_reducible rfl
        rotate_left
        · simp only [Act.put, List.setIfInBounds_toArray, List.set_cons_zero, List.set_cons_succ, i64_w, i32_w]
          rfl
        refine pure_ (i := 2) (N := some 65) (v := ?_) (a' := ?_) #[false, true, true, false, false, false, false, false, false, false] rfl rfl (any_of HT_.out (by kernel_rfl)) (fun _ _ _ h => h) (Or.inl ⟨by rfl, ?_⟩) ?_ ?_
        rotate_left
        · intro w'
          go_simp
          with_reducible rfl
        rotate_left
        · simp only [Act.put, List.setIfInBounds_toArray, List.set_cons_zero, List.set_cons_succ, i64_w, i32_w]
          rfl
        refine pure_ (i := 3) (N := some 66) (v := ?_) (a' := ?_) #[false, true, true, true, false, false, false, false, false, false] rfl rfl (any_of HT_.out (by kernel_rfl)) (fun _ _ _ h => h) (Or.inl ⟨by rfl, ?_⟩) ?_ ?_
        rotate_left
        · intro w'
          go_simp
          with_reducible rfl
        rotate_left
        · simp only [Act.put, List.setIfInBounds_toArray, List.set_cons_zero, List.set_cons_succ, i64_w, i32_w]
          rfl
        refine pure_ (i := 5) (N := some 68) (v := ?_) (a' := ?_) #[false, true, true, true, false, true, false, false, false, false] rfl rfl (any_of HT_.out (by kernel_rfl)) (fun _ _ _ h => h) (Or.inl ⟨by rfl, ?_⟩) ?_ ?_
        rotate_left
        · intro w'
          go_simp
          with_reducible rfl
        rotate_left
        · simp only [Act.put, List.setIfInBounds_toArray, List.set_cons_zero, List.set_cons_succ, i64_w, i32_w]
          rfl
        refine take_ (i := 0) (N := some 63) (v := .agg (u8s id)) (a' := ?_) #[true, true, true, true, false, true, false, false, false, false] rfl rfl (take_ofW HT_.out HW_.out (by kernel_rfl)) (fun _ _ _ h => h) ?_ HH.out ?_ ?_
        · exact yields_blk (by rfl) rfl rfl (fun w h => h.1) Tryz.underlying37 rfl (by rw [u8s_size, HI.out.1]; exact size37)
        rotate_left
        · simp only [Act.put, List.setIfInBounds_toArray, List.set_cons_zero, List.set_cons_succ, i64_w, i32_w]
          rfl
        refine take_ (i := 4) (N := some 67) (v := ?_) (a' := ?_) #[true, true, true, true, true, true, false, false, false, false] rfl rfl (take_ofW HT_.out HW_.out (by kernel_rfl)) (fun _ _ _ h => h) (Or.inl ⟨by rfl, ?_⟩) HH.out ?_ ?_
        rotate_left
        · intro w' hS'
          have hc2 : w'.cell? ⟨g6, 2, none⟩ = some (.string c) := by rw [Lib.cell_of_heap hS'.2.1]; rfl
          go_simp
          with_reducible rfl
        rotate_left
        · simp only [Act.put, List.setIfInBounds_toArray, List.set_cons_zero, List.set_cons_succ, i64_w, i32_w]
          rfl
        refine one_ (i := 6) (N := none) #[true, true, true, true, true, true, true, false, false, false] rfl rfl (one_of HT_.out (by kernel_rfl)) (by decide) (fun K hK => ?_)
        refine store_blk_l_step (by rfl) rfl rfl rfl rfl HH.out.1 (by rw [u8s_size, HI.out.1]; exact size37) rfl (u8s_one _) ?_
        intro w' hz hb hn
        refine hK.out _ _ ⟨hz, hn _ _ _ HH.out.2.1 HNE.out, hb _ _ HGE.out HH.out.2.2⟩ (fun hHeld => ?_)
        clear hz hb hn
        have HH2 := Aside0.mk hHeld
        clear hHeld HH
        have HH := HH2
        clear HH2
        try clear hK K
        refine pure_ (i := 7) (N := some 3) (v := ?_) (a' := ?_) #[true, true, true, true, true, true, true, true, false, false] rfl rfl (any_of HT_.out (by kernel_rfl)) (fun _ _ _ h => h) (Or.inl ⟨by rfl, ?_⟩) ?_ ?_
        rotate_left
        · intro w'
          go_simp
          with_reducible rfl
        rotate_left
        · simp only [Act.put, List.setIfInBounds_toArray, List.set_cons_zero, List.set_cons_succ, i64_w, i32_w]
          rfl
        refine pure_ (i := 8) (N := some 4) (v := ?_) (a' := ?_) #[true, true, true, true, true, true, true, true, true, false] rfl rfl (any_of HT_.out (by kernel_rfl)) (fun _ _ _ h => h) (Or.inl ⟨by rfl, ?_⟩) ?_ ?_
        rotate_left
        · intro w'
          go_simp
          with_reducible rfl
        rotate_left
        · simp only [Act.put, List.setIfInBounds_toArray, List.set_cons_zero, List.set_cons_succ, i64_w, i32_w]
          rfl
        refine pure_ (i := 9) (N := some 5) (v := ?_) (a' := ?_) #[true, true, true, true, true, true, true, true, true, true] rfl rfl (any_of HT_.out (by kernel_rfl)) (fun _ _ _ h => h) (Or.inl ⟨by rfl, ?_⟩) ?_ ?_
        rotate_left
        · intro w'
          go_simp
          with_reducible rfl
        rotate_left
        · simp only [Act.put, List.setIfInBounds_toArray, List.set_cons_zero, List.set_cons_succ, i64_w, i32_w]
          rfl
        refine done_ (done_of HT_.out (by kernel_rfl)) ?_
        go_wp2_with fail
        refine bodyPost_ret (results_cttt rfl _ _ g 37 (u8s id) (0, 0) _ ?hp HH.out.1 Tryz.underlying37 rfl (by rw [u8s_size, HI.out.1]; exact size37)) rfl ?_
        case hp => rfl
        exact ⟨id, v, c, HI.out, by rw [← HR1.out]; rfl, HR.out, HH.out.2.2⟩
    · have hal := artB_ne ha'
      have halb : (a.toList == [97, 114, 116, 105, 99, 108, 101]) = false := by simp [hal]
      rw [if_neg (fun h => ha' h.1)] at hdef
      have HD := Aside0.mk hdef
      clear hdef hn HWS ha'
      go_enter Tryz.func60, Tryz.ntmps60
      go_wp2_with (first
        | ((with_reducible refine gate_dst (N := 2) rfl ?_); refine alloc_blk rfl rfl rfl zero37 ?_; intro g w1 hg hz hb; have HGE := Aside0.mk (show W.heap.size ≤ g by rw [hg]; exact Nat.le_refl _); have Z1 := Aside0.mk hz; have B1 := Aside0.mk hb; have E1 := Aside0.mk (HE.out.below hb); clear hg hz hb))
      obtain ⟨mx, hmx⟩ := E1.out.len
      refine (HSP.out _ mx hmx).mono ?_
      rintro e w2 ⟨g6, rfl, hy, hb⟩
      have Z2 := Aside0.mk (Z1.out.below hb)
      have B2 := Aside0.mk (below_step B1.out hb)
      have k0 : w2.cell? ⟨g6, 0, none⟩ = some (.string a) := by rw [Lib.cell_of_heap hy]; rfl
      clear hy hb Z1 B1 hmx
      go_wp2_with (first
        | ((with_reducible refine gate_dst (N := 23) rfl ?_); refine build_blk rfl rfl rfl builtz37 ?_)
        | ((with_reducible refine gate_store (t := 37) (p := 2) (v := .tmp 23) rfl ?_); refine store_blk_l (W := w2) (cs := u8s zId) rfl rfl rfl rfl rfl Z2.out (by rw [u8s_size]; exact size37) rfl (u8s_one _) ?_; intro w5 hz hb _; have Z5 := Aside0.mk hz; have B5 := Aside0.mk (hb _ _ HGE.out B2.out); clear hz hb))
      refine bodyPost_ret (results_cttt rfl _ _ g 37 (u8s zId) (0, 0) _ ?hp Z5.out Tryz.underlying37 rfl (by rw [u8s_size]; exact size37)) rfl ?_
      case hp => rfl
      exact ⟨zId, 0, ByteArray.empty, okId_z, by rw [← HD.out]; rfl, (fun i n x h => by rw [← HD.out] at h; cases h), B5.out⟩
  · have hdn : r = none := by
      rw [← hdef]
      match ws, hn with
      | [], _ => rfl
      | [_], _ => rfl
      | [_, _], _ => rfl
      | [_, _, _], _ => rfl
      | [_, _, _, _], hn => exact absurd hn.symm (by simpa using h4)
      | _ :: _ :: _ :: _ :: _ :: _, _ => rfl
    have h4I : ((n : Int) == 4) = false := by simp; omega
    have h4N : ¬ (n : Int) = 4 := by omega
    have HD := Aside0.mk hdn.symm
    clear hdef hdn hn HWS
    go_enter Tryz.func60, Tryz.ntmps60
    go_wp2_with (first
      | ((with_reducible refine gate_dst (N := 2) rfl ?_); refine alloc_blk rfl rfl rfl zero37 ?_; intro g w1 hg hz hb; have HGE := Aside0.mk (show W.heap.size ≤ g by rw [hg]; exact Nat.le_refl _); have Z1 := Aside0.mk hz; have B1 := Aside0.mk hb; have E1 := Aside0.mk (HE.out.below hb); clear hg hz hb))
    obtain ⟨mx, hmx⟩ := E1.out.len
    refine (HSP.out _ mx hmx).mono ?_
    rintro e w2 ⟨g6, rfl, hy, hb⟩
    have Z2 := Aside0.mk (Z1.out.below hb)
    have B2 := Aside0.mk (below_step B1.out hb)
    clear hy hb Z1 B1 hmx
    go_wp2_with (first
      | ((with_reducible refine gate_dst (N := 23) rfl ?_); refine build_blk rfl rfl rfl builtz37 ?_)
      | ((with_reducible refine gate_store (t := 37) (p := 2) (v := .tmp 23) rfl ?_); refine store_blk_l (W := w2) (cs := u8s zId) rfl rfl rfl rfl rfl Z2.out (by rw [u8s_size]; exact size37) rfl (u8s_one _) ?_; intro w5 hz hb _; have Z5 := Aside0.mk hz; have B5 := Aside0.mk (hb _ _ HGE.out B2.out); clear hz hb))
    refine bodyPost_ret (results_cttt rfl _ _ g 37 (u8s zId) (0, 0) _ ?hp Z5.out Tryz.underlying37 rfl (by rw [u8s_size]; exact size37)) rfl ?_
    case hp => rfl
    exact ⟨zId, 0, ByteArray.empty, okId_z, by rw [← HD.out]; rfl, (fun i n x h => by rw [← HD.out] at h; cases h), B5.out⟩

end Go.Proofs.YtceopllngemnnaaGreatDoor


/-
  item of package batch: what it returns and what it leaves. For texts of up to a million bytes.
-/
namespace Go.Proofs.YtceopllngemnnaaGreatDoor
open Go.RowKit Go.Proofs.YtceopllngemnnaaGreatDoorW.PrintWords Go.Proofs.YtceopllngemnnaaGreatDoorW.PrintLast Go.Proofs.YtceopllngemnnaaGreatDoorW.PrintMore Go.Proofs.YtceopllngemnnaaGreatDoor.PRef

theorem Mod.new {g g2 : Nat} {W w1 w2 : World} (h : Mod g W w1) (hg2 : W.heap.size ≤ g2) (hs : Below g2 w1 w2) : Mod g W w2 :=
  ⟨⟨Nat.le_trans h.1.1 hs.size, fun i hi hg hr => (hs.block i (by omega)).trans (h.1.2 i hi hg hr)⟩, fun base h1 h2 => (h.2 base h1 h2).trans (hs.mono (by omega))⟩
theorem headF_some {line : ByteArray} {id : List Int} {n : Nat} {c : ByteArray} (h : headF line = some (id, n, c)) : ∃ a b d, wordsF line = [a, b, c, d] ∧ a = artB ∧ (numF b 65536).2 = 0 ∧ (unhexF c).2 = 0 ∧ c.size = 32 ∧ parseF d = some id ∧ (numF b 65536).1.toNat = n := by
  unfold headF at h
  split at h
  · rename_i a b c' d hw
    split at h
    · rename_i hc
      cases hp : parseF d with
      | none => rw [hp] at h; cases h
      | some i =>
        rw [hp] at h
        simp only [Option.map_some, Option.some.injEq, Prod.mk.injEq] at h
        obtain ⟨rfl, rfl, rfl⟩ := h
        exact ⟨a, b, d, hw, hc.1, hc.2.1, hc.2.2.1, hc.2.2.2, hp, rfl⟩
    · cases h
  · cases h
theorem headF_le {line : ByteArray} {id : List Int} {n : Nat} {c : ByteArray} (h : headF line = some (id, n, c)) : n ≤ 65536 := by
  obtain ⟨a, b, d, _, _, _, _, _, _, rfl⟩ := headF_some h
  have := numF_range b 65536 (by omega) (by omega)
  omega
theorem headF_ok {line : ByteArray} {id : List Int} {n : Nat} {c : ByteArray} (h : headF line = some (id, n, c)) : okId id := by
  obtain ⟨a, b, d, _, _, _, _, _, h1, _⟩ := headF_some h
  exact ((parseF_some d id).mp h1).1
theorem feed_iff (s : ByteArray) (e : Nat) (h : e < s.size) : (s.extract e (e + 1)).toList = [10] ↔ bt s (e : Int) = 10 := by
  rw [ByteArray.toList_eq, extract_list, drop_at s e h, Nat.add_sub_cancel_left]
  show [s[e]] = [10] ↔ _
  rw [← bt_at s (e : Int) h]
  show _ ↔ (s[e].toNat : Int) = 10
  rw [byte10]
  simp
section
variable {P : Program}
theorem exec_item {o : Oper} {a : Act} {t : Nat} {x y : Operand} {V cs : Array Value} {s : ByteArray} (ho : o.op = .build t #[(0, x), (1, y)]) (hx : a.eval x = .agg V) (hy : a.eval y = .string s) (hb : P.built t [(0, .agg V), (1, .string s)] = some cs) (W : World) : (execOp a.eval o).run P W = .ok (.value (.agg cs)) W := by
  have hb' : P.built t (#[(0, x), (1, y)].map fun (p : Nat × Operand) => (p.1, a.eval p.2)).toList = some cs := by
    have : (#[(0, x), (1, y)].map fun (p : Nat × Operand) => (p.1, a.eval p.2)).toList = [(0, a.eval x), (1, a.eval y)] := by simp
    rw [this, hx, hy]
    exact hb
  simp only [execOp, ho, Sem.run_bind]
  exact (congrArg (fun r => Result.andThen r _) (run_build W t _ cs hb')).trans rfl
end

/-! Region tables, printed by rg2.py. -/
def r35_15.T : Bool × List (List Nat × List Nat) := (true, [([], []), ([], []), ([1], [1]), ([2], [2]), ([3], [3]), ([], []), ([5], [5]), ([6], [6]), ([7], [7]), ([], []), ([4, 8, 9], [4, 8, 9]), ([0, 10], [0, 10]), ([], []), ([12, 11, 0, 1, 2, 3, 4, 5, 6, 7, 8, 9, 10, 11, 12], [11, 12])])
def r35_15.B : List Nat := [0, 0, 2, 6, 14, 0, 32, 96, 224, 0, 1022, 2047, 0, 8191]
theorem r35_15.tab : rtab .any (opsOf Tryz.f35 15) = r35_15.T := by kernel_rfl
theorem r35_15.bits : waitsOk r35_15.T.2 r35_15.B = true := by kernel_rfl

set_option maxHeartbeats 4000000 in
set_option maxRecDepth 100000 in
theorem item_none (g k : Nat) (s : ByteArray) (W : World) (he : Env W) (hg4 : 4 ≤ g) (h : Blk W g (cur s k 0) 75) (hs : s.size ≤ 1000000) (hk : k ≤ s.size) (hj : nl s k = none) :
    Calls Tryz.prog 35 #[.pointer (some ⟨g, 0, none⟩)] W fun r w' => r = .returned (.agg (itV zIt)) ∧ Blk w' g (cur s s.size 23) 75 ∧ Mod g W w' := by
  have HE := Aside0.mk he
  have HB0 := Aside0.mk h
  have hglt : g < W.heap.size := blk_lt h
  have HL := Aside0.mk (fun w he h => line_none g k s w he h (by omega) hk hj)
  clear he h hj
  go_enter Tryz.func35, Tryz.ntmps35
  go_wp2_with (first
    | ((with_reducible refine gate_dst (N := 2) rfl ?_); refine alloc_blk rfl rfl rfl zero39 ?_; intro g2 w1 hg2 hz hb; have HG2 := Aside0.mk (show W.heap.size ≤ g2 by rw [hg2]; exact Nat.le_refl _); have HLT := Aside0.mk (blk_lt hz); have Z1 := Aside0.mk hz; have C1 := Aside0.mk (HB0.out.below hb); have M1 := Aside0.mk (Mod.of_below (g := g) hb); clear hg2 hz hb))
  have HNE := Aside0.mk (show g2 ≠ g by have := HG2.out; omega)
  refine (HL.out _ (M1.out.env HE.out hg4) C1.out).mono ?_
  rintro e w2 ⟨rfl, hb, hm⟩
  have hc := cur_cells hb
  obtain ⟨c0, c1, c2, f1, f2⟩ := hc
  have C2 := Aside0.mk hb
  have M2 := Aside0.mk (M1.out.trans hm)
  have Z2 := Aside0.mk (hm.blk Z1.out HNE.out)
  clear hb hm Z1 C1 M1
  go_wp2_with (first
    | ((with_reducible refine gate_dst (N := 21) rfl ?_); refine build_blk rfl rfl rfl builtz39 ?_)
    | ((with_reducible refine gate_store (t := 39) (p := 2) (v := .tmp 21) rfl ?_); refine store_blk_l (W := w2) (cs := itV zIt) rfl rfl rfl rfl rfl Z2.out (by rw [itV_size okId_z]; exact size39) rfl (itV_one _) ?_; intro w9 hz hb hn; have Z9 := Aside0.mk hz; have C9 := Aside0.mk (hn _ _ _ C2.out (Ne.symm HNE.out)); have M9 := Aside0.mk (M2.out.new HG2.out (hb _ g2 (Nat.le_refl _) (Below.refl _ _))); clear hz hb hn))
  refine bodyPost_ret (results_cell_row rfl _ _ g2 39 (itV zIt) (0, 0) _ ?hp Z9.out Tryz.underlying39 rfl (by rw [itV_size okId_z]; exact size39)) rfl ?_
  case hp => rfl
  exact ⟨rfl, C9.out, M9.out⟩

set_option maxHeartbeats 4000000 in
set_option maxRecDepth 100000 in
theorem item_head (g k j : Nat) (s : ByteArray) (W : World) (he : Env W) (hg4 : 4 ≤ g) (h : Blk W g (cur s k 0) 75) (hs : s.size ≤ 1000000) (hk : k ≤ s.size) (hj : nl s k = some j) (hf : headF (s.extract k j) = none) :
    Calls Tryz.prog 35 #[.pointer (some ⟨g, 0, none⟩)] W fun r w' => r = .returned (.agg (itV zIt)) ∧ Blk w' g (cur s k 3) 75 ∧ Mod g W w' := by
  have HE := Aside0.mk he
  have HB0 := Aside0.mk h
  have hglt : g < W.heap.size := blk_lt h
  have hjl := nl_le s k j hj
  obtain ⟨ln, hln⟩ : ∃ ln, s.extract k j = ln := ⟨_, rfl⟩
  have hlns : ln.size ≤ 1000000 := by rw [← hln, ← data_length, extract_list, List.length_take, List.length_drop, data_length]; omega
  have HL := Aside0.mk (fun w he h => line_some g k j s w he h (by omega) hk hj)
  rw [hln] at HL hf
  have HHD := Aside0.mk (fun w he => head_any ln w he hlns)
  obtain ⟨p, hpj⟩ : ∃ p, j + 1 = p := ⟨_, rfl⟩
  have hps : p ≤ s.size := by omega
  rw [hpj] at HL
  have HNS := Aside0.mk (show (headF ln).isSome = false by rw [hf]; rfl)
  clear he h hj hf hln hpj hjl
  go_enter Tryz.func35, Tryz.ntmps35
  go_wp2_with (first
    | ((with_reducible refine gate_dst (N := 2) rfl ?_); refine alloc_blk rfl rfl rfl zero39 ?_; intro g2 w1 hg2 hz hb; have HG2 := Aside0.mk (show W.heap.size ≤ g2 by rw [hg2]; exact Nat.le_refl _); have HLT := Aside0.mk (blk_lt hz); have Z1 := Aside0.mk hz; have C1 := Aside0.mk (HB0.out.below hb); have M1 := Aside0.mk (Mod.of_below (g := g) hb); clear hg2 hz hb))
  have HNE := Aside0.mk (show g2 ≠ g by have := HG2.out; omega)
  refine (HL.out _ (M1.out.env HE.out hg4) C1.out).mono ?_
  rintro e w2 ⟨rfl, hb, hm⟩
  have hc := cur_cells hb
  obtain ⟨c0, c1, c2, f1, f2⟩ := hc
  have C2 := Aside0.mk hb
  have M2 := Aside0.mk (M1.out.trans hm)
  have Z2 := Aside0.mk (hm.blk Z1.out HNE.out)
  clear hb hm Z1 C1 M1
  go_wp2_with fail
  refine (HHD.out _ (M2.out.env HE.out hg4)).mono ?_
  rintro e w3 ⟨id, v, c, hid, rfl, hrs, hb⟩
  have HI := Aside0.mk hid
  have HRS := Aside0.mk hrs
  have C3 := Aside0.mk (C2.out.below hb)
  have Z3 := Aside0.mk (Z2.out.below hb)
  have M3 := Aside0.mk (M2.out.trans (Mod.of_below hb))
  clear hid hrs hb c0 c1 c2 f1 f2 C2 Z2 M2
  rw [HNS.out]
  go_wp2_with (first
    | ((with_reducible refine gate_dst (N := 5) rfl ?_); refine var_blk (cs := u8s id) rfl rfl rfl rfl rfl rfl zero37 (by rw [u8s_size]; rfl) (by rw [u8s_size, HI.out.1]) (u8s_one _) (fun _ => rfl) (fun _ => rfl) ?_; intro g5 w4 hg hz hb; have Y4 := Aside0.mk hz; have C4 := Aside0.mk (C3.out.below hb); have Z4 := Aside0.mk (Z3.out.below hb); have M4 := Aside0.mk (M3.out.trans (Mod.of_below hb)); have hc := cur_cells (C3.out.below hb); obtain ⟨c0, c1, c2, f1, f2⟩ := hc; clear hg hz hb C3 Z3 M3))
  refine (fail_any g p k 0 3 s _ C4.out).mono ?_
  rintro e w8 ⟨rfl, hb, hm⟩
  rw [if_pos rfl] at hb
  clear c0 c1 c2 f1 f2
  have hc := cur_cells hb
  obtain ⟨c0, c1, c2, f1, f2⟩ := hc
  have C8 := Aside0.mk hb
  have M8 := Aside0.mk (M4.out.trans hm)
  have Z8 := Aside0.mk (hm.blk Z4.out HNE.out)
  clear hb hm
  go_wp2_with (first
    | ((with_reducible refine gate_dst (N := 34) rfl ?_); refine build_blk rfl rfl rfl builtz39 ?_)
    | ((with_reducible refine gate_store (t := 39) (p := 2) (v := .tmp 34) rfl ?_); refine store_blk_l (W := w8) (cs := itV zIt) rfl rfl rfl rfl rfl Z8.out (by rw [itV_size okId_z]; exact size39) rfl (itV_one _) ?_; intro w9 hz hb hn; have Z9 := Aside0.mk hz; have C9 := Aside0.mk (hn _ _ _ C8.out (Ne.symm HNE.out)); have M9 := Aside0.mk (M8.out.new HG2.out (hb _ g2 (Nat.le_refl _) (Below.refl _ _))); clear hz hb hn))
  refine bodyPost_ret (results_cell_row rfl _ _ g2 39 (itV zIt) (0, 0) _ ?hp Z9.out Tryz.underlying39 rfl (by rw [itV_size okId_z]; exact size39)) rfl ?_
  case hp => rfl
  exact ⟨rfl, C9.out, M9.out⟩

set_option maxHeartbeats 4000000 in
set_option maxRecDepth 100000 in
theorem item_short (g k j n : Nat) (id : List Int) (c : ByteArray) (s : ByteArray) (W : World) (he : Env W) (hg4 : 4 ≤ g) (h : Blk W g (cur s k 0) 75) (hs : s.size ≤ 1000000) (hk : k ≤ s.size) (hj : nl s k = some j) (hf : headF (s.extract k j) = some (id, n, c)) (hl : s.size < j + 1 + n + 1) :
    Calls Tryz.prog 35 #[.pointer (some ⟨g, 0, none⟩)] W fun r w' => r = .returned (.agg (itV zIt)) ∧ Blk w' g (cur s s.size 23) 75 ∧ Mod g W w' := by
  have HE := Aside0.mk he
  have HB0 := Aside0.mk h
  have hglt : g < W.heap.size := blk_lt h
  have hjl := nl_le s k j hj
  obtain ⟨ln, hln⟩ : ∃ ln, s.extract k j = ln := ⟨_, rfl⟩
  have hlns : ln.size ≤ 1000000 := by rw [← hln, ← data_length, extract_list, List.length_take, List.length_drop, data_length]; omega
  have HL := Aside0.mk (fun w he h => line_some g k j s w he h (by omega) hk hj)
  rw [hln] at HL hf
  have HHD := Aside0.mk (fun w he => head_any ln w he hlns)
  obtain ⟨p, hpj⟩ : ∃ p, j + 1 = p := ⟨_, rfl⟩
  have hps : p ≤ s.size := by omega
  rw [hpj] at HL
  have HNS := Aside0.mk (show (headF ln).isSome = true by rw [hf]; rfl)
  have HFF := Aside0.mk hf
  rw [hpj] at hl
  obtain ⟨en, hen⟩ : ∃ en, p + n = en := ⟨_, rfl⟩
  have henI : (p : Int) + (n : Int) = (en : Int) := by omega
  have hn64 : n ≤ 65536 := headF_le hf
  have henb : en ≤ 2000000 := by omega
  have HEN := Aside0.mk hen
  have hlt : (s.size : Int) < (en : Int) + 1 := by omega
  clear he h hj hf hln hpj hjl hen hl
  go_enter Tryz.func35, Tryz.ntmps35
  go_wp2_with (first
    | ((with_reducible refine gate_dst (N := 2) rfl ?_); refine alloc_blk rfl rfl rfl zero39 ?_; intro g2 w1 hg2 hz hb; have HG2 := Aside0.mk (show W.heap.size ≤ g2 by rw [hg2]; exact Nat.le_refl _); have HLT := Aside0.mk (blk_lt hz); have Z1 := Aside0.mk hz; have C1 := Aside0.mk (HB0.out.below hb); have M1 := Aside0.mk (Mod.of_below (g := g) hb); clear hg2 hz hb))
  have HNE := Aside0.mk (show g2 ≠ g by have := HG2.out; omega)
  refine (HL.out _ (M1.out.env HE.out hg4) C1.out).mono ?_
  rintro e w2 ⟨rfl, hb, hm⟩
  have hc := cur_cells hb
  obtain ⟨c0, c1, c2, f1, f2⟩ := hc
  have C2 := Aside0.mk hb
  have M2 := Aside0.mk (M1.out.trans hm)
  have Z2 := Aside0.mk (hm.blk Z1.out HNE.out)
  clear hb hm Z1 C1 M1
  go_wp2_with fail
  refine (HHD.out _ (M2.out.env HE.out hg4)).mono ?_
  rintro e w3 ⟨id', v', c', hid, rfl, hrs, hb⟩
  have HI := Aside0.mk hid
  have HRS := Aside0.mk hrs
  have C3 := Aside0.mk (C2.out.below hb)
  have Z3 := Aside0.mk (Z2.out.below hb)
  have M3 := Aside0.mk (M2.out.trans (Mod.of_below hb))
  clear hid hrs hb c0 c1 c2 f1 f2 C2 Z2 M2
  rw [HNS.out]
  obtain ⟨e1, e2, e3⟩ := HRS.out _ _ _ HFF.out
  subst e1 e2 e3
  clear HRS
  go_wp2_with (first
    | ((with_reducible refine gate_dst (N := 5) rfl ?_); refine var_blk (cs := u8s id') rfl rfl rfl rfl rfl rfl zero37 (by rw [u8s_size]; rfl) (by rw [u8s_size, HI.out.1]) (u8s_one _) (fun _ => rfl) (fun _ => rfl) ?_; intro g5 w4 hg hz hb; have Y4 := Aside0.mk hz; have C4 := Aside0.mk (C3.out.below hb); have Z4 := Aside0.mk (Z3.out.below hb); have M4 := Aside0.mk (M3.out.trans (Mod.of_below hb)); have hc := cur_cells (C3.out.below hb); obtain ⟨c0, c1, c2, f1, f2⟩ := hc; clear hg hz hb C3 Z3 M3))
  refine (fail_any g p s.size 0 23 s _ C4.out).mono ?_
  rintro e w8 ⟨rfl, hb, hm⟩
  rw [if_pos rfl] at hb
  clear c0 c1 c2 f1 f2
  have hc := cur_cells hb
  obtain ⟨c0, c1, c2, f1, f2⟩ := hc
  have C8 := Aside0.mk hb
  have M8 := Aside0.mk (M4.out.trans hm)
  have Z8 := Aside0.mk (hm.blk Z4.out HNE.out)
  clear hb hm
  go_wp2_with (first
    | ((with_reducible refine gate_dst (N := 75) rfl ?_); refine build_blk rfl rfl rfl builtz39 ?_)
    | ((with_reducible refine gate_store (t := 39) (p := 2) (v := .tmp 75) rfl ?_); refine store_blk_l (W := w8) (cs := itV zIt) rfl rfl rfl rfl rfl Z8.out (by rw [itV_size okId_z]; exact size39) rfl (itV_one _) ?_; intro w9 hz hb hn; have Z9 := Aside0.mk hz; have C9 := Aside0.mk (hn _ _ _ C8.out (Ne.symm HNE.out)); have M9 := Aside0.mk (M8.out.new HG2.out (hb _ g2 (Nat.le_refl _) (Below.refl _ _))); clear hz hb hn))
  refine bodyPost_ret (results_cell_row rfl _ _ g2 39 (itV zIt) (0, 0) _ ?hp Z9.out Tryz.underlying39 rfl (by rw [itV_size okId_z]; exact size39)) rfl ?_
  case hp => rfl
  exact ⟨rfl, C9.out, M9.out⟩

set_option maxHeartbeats 4000000 in
set_option maxRecDepth 100000 in
theorem item_feed (g k j n : Nat) (id : List Int) (c : ByteArray) (s : ByteArray) (W : World) (he : Env W) (hg4 : 4 ≤ g) (h : Blk W g (cur s k 0) 75) (hs : s.size ≤ 1000000) (hk : k ≤ s.size) (hj : nl s k = some j) (hf : headF (s.extract k j) = some (id, n, c)) (hl : ¬ s.size < j + 1 + n + 1) (h10 : bt s ((j + 1 + n : Nat) : Int) ≠ 10) :
    Calls Tryz.prog 35 #[.pointer (some ⟨g, 0, none⟩)] W fun r w' => r = .returned (.agg (itV zIt)) ∧ Blk w' g (cur s (j + 1 + n) 3) 75 ∧ Mod g W w' := by
  have HE := Aside0.mk he
  have HB0 := Aside0.mk h
  have hglt : g < W.heap.size := blk_lt h
  have hjl := nl_le s k j hj
  obtain ⟨ln, hln⟩ : ∃ ln, s.extract k j = ln := ⟨_, rfl⟩
  have hlns : ln.size ≤ 1000000 := by rw [← hln, ← data_length, extract_list, List.length_take, List.length_drop, data_length]; omega
  have HL := Aside0.mk (fun w he h => line_some g k j s w he h (by omega) hk hj)
  rw [hln] at HL hf
  have HHD := Aside0.mk (fun w he => head_any ln w he hlns)
  obtain ⟨p, hpj⟩ : ∃ p, j + 1 = p := ⟨_, rfl⟩
  have hps : p ≤ s.size := by omega
  rw [hpj] at HL
  have HNS := Aside0.mk (show (headF ln).isSome = true by rw [hf]; rfl)
  have HFF := Aside0.mk hf
  rw [hpj] at hl h10 ⊢
  obtain ⟨en, hen⟩ : ∃ en, p + n = en := ⟨_, rfl⟩
  have henI : (p : Int) + (n : Int) = (en : Int) := by omega
  have hn64 : n ≤ 65536 := headF_le hf
  have henb : en ≤ 2000000 := by omega
  have HEN := Aside0.mk hen
  have hlt : ¬ (s.size : Int) < (en : Int) + 1 := by omega
  have hle : (en : Int) + 1 ≤ (s.size : Int) := by omega
  have q1 : (0 : Int) ≤ (en : Int) := by omega
  have q2 : (en : Int) ≤ (en : Int) + 1 := by omega
  have q3 : ((en : Int) + 1).toNat = en + 1 := by omega
  obtain ⟨sx, hsx⟩ : ∃ sx, s.extract en (en + 1) = sx := ⟨_, rfl⟩
  rw [hen] at h10
  have hx : ¬ sx.toList = [10] := by rw [← hsx]; exact fun he => h10 ((feed_iff s en (by omega)).mp he)
  have hxb : (sx.toList == [10]) = false := by simp [hx]
  rw [hen]
  clear he h hj hf hln hpj hjl hen hl h10
  go_enter Tryz.func35, Tryz.ntmps35
  go_wp2_with (first
    | ((with_reducible refine gate_dst (N := 2) rfl ?_); refine alloc_blk rfl rfl rfl zero39 ?_; intro g2 w1 hg2 hz hb; have HG2 := Aside0.mk (show W.heap.size ≤ g2 by rw [hg2]; exact Nat.le_refl _); have HLT := Aside0.mk (blk_lt hz); have Z1 := Aside0.mk hz; have C1 := Aside0.mk (HB0.out.below hb); have M1 := Aside0.mk (Mod.of_below (g := g) hb); clear hg2 hz hb))
  have HNE := Aside0.mk (show g2 ≠ g by have := HG2.out; omega)
  refine (HL.out _ (M1.out.env HE.out hg4) C1.out).mono ?_
  rintro e w2 ⟨rfl, hb, hm⟩
  have hc := cur_cells hb
  obtain ⟨c0, c1, c2, f1, f2⟩ := hc
  have C2 := Aside0.mk hb
  have M2 := Aside0.mk (M1.out.trans hm)
  have Z2 := Aside0.mk (hm.blk Z1.out HNE.out)
  clear hb hm Z1 C1 M1
  go_wp2_with fail
  refine (HHD.out _ (M2.out.env HE.out hg4)).mono ?_
  rintro e w3 ⟨id', v', c', hid, rfl, hrs, hb⟩
  have HI := Aside0.mk hid
  have HRS := Aside0.mk hrs
  have C3 := Aside0.mk (C2.out.below hb)
  have Z3 := Aside0.mk (Z2.out.below hb)
  have M3 := Aside0.mk (M2.out.trans (Mod.of_below hb))
  clear hid hrs hb c0 c1 c2 f1 f2 C2 Z2 M2
  rw [HNS.out]
  obtain ⟨e1, e2, e3⟩ := HRS.out _ _ _ HFF.out
  subst e1 e2 e3
  clear HRS
  go_wp2_with (first
    | ((with_reducible refine gate_dst (N := 5) rfl ?_); refine var_blk (cs := u8s id') rfl rfl rfl rfl rfl rfl zero37 (by rw [u8s_size]; rfl) (by rw [u8s_size, HI.out.1]) (u8s_one _) (fun _ => rfl) (fun _ => rfl) ?_; intro g5 w4 hg hz hb; have Y4 := Aside0.mk hz; have C4 := Aside0.mk (C3.out.below hb); have Z4 := Aside0.mk (Z3.out.below hb); have M4 := Aside0.mk (M3.out.trans (Mod.of_below hb)); have hc := cur_cells (C3.out.below hb); obtain ⟨c0, c1, c2, f1, f2⟩ := hc; clear hg hz hb C3 Z3 M3))
  refine (fail_any g p en 0 3 s _ C4.out).mono ?_
  rintro e w8 ⟨rfl, hb, hm⟩
  rw [if_pos rfl] at hb
  clear c0 c1 c2 f1 f2
  have hc := cur_cells hb
  obtain ⟨c0, c1, c2, f1, f2⟩ := hc
  have C8 := Aside0.mk hb
  have M8 := Aside0.mk (M4.out.trans hm)
  have Z8 := Aside0.mk (hm.blk Z4.out HNE.out)
  clear hb hm
  go_wp2_with (first
    | ((with_reducible refine gate_dst (N := 75) rfl ?_); refine build_blk rfl rfl rfl builtz39 ?_)
    | ((with_reducible refine gate_store (t := 39) (p := 2) (v := .tmp 75) rfl ?_); refine store_blk_l (W := w8) (cs := itV zIt) rfl rfl rfl rfl rfl Z8.out (by rw [itV_size okId_z]; exact size39) rfl (itV_one _) ?_; intro w9 hz hb hn; have Z9 := Aside0.mk hz; have C9 := Aside0.mk (hn _ _ _ C8.out (Ne.symm HNE.out)); have M9 := Aside0.mk (M8.out.new HG2.out (hb _ g2 (Nat.le_refl _) (Below.refl _ _))); clear hz hb hn))
  refine bodyPost_ret (results_cell_row rfl _ _ g2 39 (itV zIt) (0, 0) _ ?hp Z9.out Tryz.underlying39 rfl (by rw [itV_size okId_z]; exact size39)) rfl ?_
  case hp => rfl
  exact ⟨rfl, C9.out, M9.out⟩

set_option maxHeartbeats 4000000 in
set_option maxRecDepth 100000 in
theorem item_sum (g k j n : Nat) (id : List Int) (c : ByteArray) (s : ByteArray) (W : World) (he : Env W) (hg4 : 4 ≤ g) (h : Blk W g (cur s k 0) 75) (hs : s.size ≤ 1000000) (hk : k ≤ s.size) (hj : nl s k = some j) (hf : headF (s.extract k j) = some (id, n, c)) (hl : ¬ s.size < j + 1 + n + 1) (h10 : bt s ((j + 1 + n : Nat) : Int) = 10) (hd : digS (id, s.extract (j + 1) (j + 1 + n)) ≠ c) :
    Calls Tryz.prog 35 #[.pointer (some ⟨g, 0, none⟩)] W fun r w' => r = .returned (.agg (itV zIt)) ∧ Blk w' g (cur s k 22) 75 ∧ Mod g W w' := by
  have HE := Aside0.mk he
  have HB0 := Aside0.mk h
  have hglt : g < W.heap.size := blk_lt h
  have hjl := nl_le s k j hj
  obtain ⟨ln, hln⟩ : ∃ ln, s.extract k j = ln := ⟨_, rfl⟩
  have hlns : ln.size ≤ 1000000 := by rw [← hln, ← data_length, extract_list, List.length_take, List.length_drop, data_length]; omega
  have HL := Aside0.mk (fun w he h => line_some g k j s w he h (by omega) hk hj)
  rw [hln] at HL hf
  have HHD := Aside0.mk (fun w he => head_any ln w he hlns)
  obtain ⟨p, hpj⟩ : ∃ p, j + 1 = p := ⟨_, rfl⟩
  have hps : p ≤ s.size := by omega
  rw [hpj] at HL
  have HNS := Aside0.mk (show (headF ln).isSome = true by rw [hf]; rfl)
  have HFF := Aside0.mk hf
  rw [hpj] at hl h10 hd
  obtain ⟨en, hen⟩ : ∃ en, p + n = en := ⟨_, rfl⟩
  have henI : (p : Int) + (n : Int) = (en : Int) := by omega
  have hn64 : n ≤ 65536 := headF_le hf
  have henb : en ≤ 2000000 := by omega
  have HEN := Aside0.mk hen
  have hlt : ¬ (s.size : Int) < (en : Int) + 1 := by omega
  have hle : (en : Int) + 1 ≤ (s.size : Int) := by omega
  have q1 : (0 : Int) ≤ (en : Int) := by omega
  have q2 : (en : Int) ≤ (en : Int) + 1 := by omega
  have q3 : ((en : Int) + 1).toNat = en + 1 := by omega
  have hje : (p : Int) ≤ (en : Int) := by omega
  have q4 : (en : Int) ≤ (s.size : Int) := by omega
  have q5 : (0 : Int) ≤ (p : Int) := by omega
  obtain ⟨sx, hsx⟩ : ∃ sx, s.extract en (en + 1) = sx := ⟨_, rfl⟩
  rw [hen] at h10 hd
  have hx : sx.toList = [10] := by rw [← hsx]; exact (feed_iff s en (by omega)).mpr h10
  obtain ⟨tx, htx⟩ : ∃ tx, s.extract p en = tx := ⟨_, rfl⟩
  have htl : tx.size ≤ 1000000 := by rw [← htx, ← data_length, extract_list, List.length_take, List.length_drop, data_length]; omega
  rw [htx] at hd
  have hoki := headF_ok hf
  have HDG := Aside0.mk (fun w => digest_any (id, tx) w hoki htl)
  obtain ⟨sd, hsd⟩ : ∃ sd, digS (id, tx) = sd := ⟨_, rfl⟩
  rw [hsd] at HDG hd
  have hq : ¬ sd.toList = c.toList := fun h => hd (by apply data_inj; rwa [ByteArray.toList_eq, ByteArray.toList_eq] at h)
  have hqb : (sd.toList == c.toList) = false := by simp [hq]
  clear he h hj hf hln hpj hjl hen hl h10 hd hsd
  go_enter Tryz.func35, Tryz.ntmps35
  go_wp2_with (first
    | ((with_reducible refine gate_dst (N := 2) rfl ?_); refine alloc_blk rfl rfl rfl zero39 ?_; intro g2 w1 hg2 hz hb; have HG2 := Aside0.mk (show W.heap.size ≤ g2 by rw [hg2]; exact Nat.le_refl _); have HLT := Aside0.mk (blk_lt hz); have Z1 := Aside0.mk hz; have C1 := Aside0.mk (HB0.out.below hb); have M1 := Aside0.mk (Mod.of_below (g := g) hb); clear hg2 hz hb))
  have HNE := Aside0.mk (show g2 ≠ g by have := HG2.out; omega)
  refine (HL.out _ (M1.out.env HE.out hg4) C1.out).mono ?_
  rintro e w2 ⟨rfl, hb, hm⟩
  have hc := cur_cells hb
  obtain ⟨c0, c1, c2, f1, f2⟩ := hc
  have C2 := Aside0.mk hb
  have M2 := Aside0.mk (M1.out.trans hm)
  have Z2 := Aside0.mk (hm.blk Z1.out HNE.out)
  clear hb hm Z1 C1 M1
  go_wp2_with fail
  refine (HHD.out _ (M2.out.env HE.out hg4)).mono ?_
  rintro e w3 ⟨id', v', c', hid, rfl, hrs, hb⟩
  have HI := Aside0.mk hid
  have HRS := Aside0.mk hrs
  have C3 := Aside0.mk (C2.out.below hb)
  have Z3 := Aside0.mk (Z2.out.below hb)
  have M3 := Aside0.mk (M2.out.trans (Mod.of_below hb))
  clear hid hrs hb c0 c1 c2 f1 f2 C2 Z2 M2
  rw [HNS.out]
  obtain ⟨e1, e2, e3⟩ := HRS.out _ _ _ HFF.out
  subst e1 e2 e3
  clear HRS
  go_wp2_with (first
    | ((with_reducible refine gate_dst (N := 5) rfl ?_); refine var_blk (cs := u8s id') rfl rfl rfl rfl rfl rfl zero37 (by rw [u8s_size]; rfl) (by rw [u8s_size, HI.out.1]) (u8s_one _) (fun _ => rfl) (fun _ => rfl) ?_; intro g5 w4 hg hz hb; have Y4 := Aside0.mk hz; have C4 := Aside0.mk (C3.out.below hb); have Z4 := Aside0.mk (Z3.out.below hb); have M4 := Aside0.mk (M3.out.trans (Mod.of_below hb)); have hc := cur_cells (C3.out.below hb); obtain ⟨c0, c1, c2, f1, f2⟩ := hc; clear hg hz hb C3 Z3 M3))
  refine start_ (n := 14) (S := fun w' => Blk w' g5 (u8s id') 37 ∧ Blk w' g (cur s p 0) 75 ∧ Blk w' g2 (itV zIt) 39 ∧ Mod g W w') (ds := [13]) #[false, false, false, false, false, false, false, false, false, false, false, false, false, false] (by kernel_rfl) rfl rfl ⟨Y4.out, C4.out, Z4.out, M4.out.trans (Mod.drewN g w4 1)⟩ (fun hHeld => ?_)
  refine with_tabW r35_15.tab r35_15.bits (fun HT_ HW_ => ?_)
  generalize w4.drew = wd at hHeld ⊢
  have HH := Aside0.mk hHeld
  clear hHeld
  refine pure_ (i := 1) (N := some 77) (v := ?_) (a' := ?_) #[false, true, false, false, false, false, false, false, false, false, false, false, false, false] rfl rfl (any_of HT_.out (by kernel_rfl)) (fun _ _ _ h => h) (Or.inl ⟨by rfl, ?_⟩) ?_ ?_
  rotate_left
  · intro w'
    go_simp
    with_reducible rfl
  rotate_left
  · simp only [Act.put, List.setIfInBounds_toArray, List.set_cons_zero, List.set_cons_succ, i64_w, i32_w]
    rfl
  refine pure_ (i := 2) (N := some 78) (v := ?_) (a' := ?_) #[false, true, true, false, false, false, false, false, false, false, false, false, false, false] rfl rfl (any_of HT_.out (by kernel_rfl)) (fun _ _ _ h => h) (Or.inl ⟨by rfl, ?_⟩) ?_ ?_
  rotate_left
  · intro w'
    go_simp
    with_reducible rfl
  rotate_left
  · simp only [Act.put, List.setIfInBounds_toArray, List.set_cons_zero, List.set_cons_succ, i64_w, i32_w]
    rfl
  refine pure_ (i := 3) (N := some 79) (v := ?_) (a' := ?_) #[false, true, true, true, false, false, false, false, false, false, false, false, false, false] rfl rfl (any_of HT_.out (by kernel_rfl)) (fun _ _ _ h => h) (Or.inl ⟨by rfl, ?_⟩) ?_ ?_
  rotate_left
  · intro w'
    go_simp
    with_reducible rfl
  rotate_left
  · simp only [Act.put, List.setIfInBounds_toArray, List.set_cons_zero, List.set_cons_succ, i64_w, i32_w]
    rfl
  refine pure_ (i := 5) (N := some 81) (v := ?_) (a' := ?_) #[false, true, true, true, false, true, false, false, false, false, false, false, false, false] rfl rfl (any_of HT_.out (by kernel_rfl)) (fun _ _ _ h => h) (Or.inl ⟨by rfl, ?_⟩) ?_ ?_
  rotate_left
  · intro w'
    go_simp
    with_reducible rfl
  rotate_left
  · simp only [Act.put, List.setIfInBounds_toArray, List.set_cons_zero, List.set_cons_succ, i64_w, i32_w]
    rfl
  refine pure_ (i := 6) (N := some 82) (v := ?_) (a' := ?_) #[false, true, true, true, false, true, true, false, false, false, false, false, false, false] rfl rfl (any_of HT_.out (by kernel_rfl)) (fun _ _ _ h => h) (Or.inl ⟨by rfl, ?_⟩) ?_ ?_
  rotate_left
  · intro w'
    go_simp
    with_reducible rfl
  rotate_left
  · simp only [Act.put, List.setIfInBounds_toArray, List.set_cons_zero, List.set_cons_succ, i64_w, i32_w]
    rfl
  refine pure_ (i := 7) (N := some 83) (v := ?_) (a' := ?_) #[false, true, true, true, false, true, true, true, false, false, false, false, false, false] rfl rfl (any_of HT_.out (by kernel_rfl)) (fun _ _ _ h => h) (Or.inl ⟨by rfl, ?_⟩) ?_ ?_
  rotate_left
  · intro w'
    go_simp
    with_reducible rfl
  rotate_left
  · simp only [Act.put, List.setIfInBounds_toArray, List.set_cons_zero, List.set_cons_succ, i64_w, i32_w]
    rfl
  refine pure_ (i := 9) (N := some 85) (v := ?_) (a' := ?_) #[false, true, true, true, false, true, true, true, false, true, false, false, false, false] rfl rfl (any_of HT_.out (by kernel_rfl)) (fun _ _ _ h => h) (Or.inl ⟨by rfl, ?_⟩) ?_ ?_
  rotate_left
  · intro w'
    go_simp
    with_reducible rfl
  rotate_left
  · simp only [Act.put, List.setIfInBounds_toArray, List.set_cons_zero, List.set_cons_succ, i64_w, i32_w]
    rfl
  refine take_ (i := 0) (N := some 76) (v := .agg (u8s id')) (a' := ?_) #[true, true, true, true, false, true, true, true, false, true, false, false, false, false] rfl rfl (take_ofW HT_.out HW_.out (by kernel_rfl)) (fun _ _ _ h => h) ?_ HH.out ?_ ?_
  · exact yields_blk (by rfl) rfl rfl (fun w h => h.1) Tryz.underlying37 rfl (by rw [u8s_size, HI.out.1]; exact size37)
  rotate_left
  · simp only [Act.put, List.setIfInBounds_toArray, List.set_cons_zero, List.set_cons_succ, i64_w, i32_w]
    rfl
  refine take_ (i := 4) (N := some 80) (v := ?_) (a' := ?_) #[true, true, true, true, true, true, true, true, false, true, false, false, false, false] rfl rfl (take_ofW HT_.out HW_.out (by kernel_rfl)) (fun _ _ _ h => h) (Or.inl ⟨by rfl, ?_⟩) HH.out ?_ ?_
  rotate_left
  · intro w' hS'
    have hc := (cur_cells hS'.2.1).1
    go_simp
    with_reducible rfl
  rotate_left
  · simp only [Act.put, List.setIfInBounds_toArray, List.set_cons_zero, List.set_cons_succ, i64_w, i32_w]
    rfl
  refine take_ (i := 8) (N := some 84) (v := ?_) (a' := ?_) #[true, true, true, true, true, true, true, true, true, true, false, false, false, false] rfl rfl (take_ofW HT_.out HW_.out (by kernel_rfl)) (fun _ _ _ h => h) (Or.inl ⟨by rfl, ?_⟩) HH.out ?_ ?_
  rotate_left
  · intro w' hS'
    have hc := (cur_cells hS'.2.1).2.1
    go_simp
    with_reducible rfl
  rotate_left
  · simp only [Act.put, List.setIfInBounds_toArray, List.set_cons_zero, List.set_cons_succ, i64_w, i32_w]
    rfl
  refine pure_ (i := 10) (N := some 86) (v := ?_) (a' := ?_) #[true, true, true, true, true, true, true, true, true, true, true, false, false, false] rfl rfl (any_of HT_.out (by kernel_rfl)) (fun _ _ _ h => h) (Or.inl ⟨by rfl, ?_⟩) ?_ ?_
  rotate_left
  · intro w'
    go_simp
    with_reducible rfl
  rotate_left
  · simp only [Act.put, List.setIfInBounds_toArray, List.set_cons_zero, List.set_cons_succ, i64_w, i32_w]
    rfl
  refine pure_ (i := 11) (N := some 87) (v := ?_) (a' := ?_) #[true, true, true, true, true, true, true, true, true, true, true, true, false, false] rfl rfl (any_of HT_.out (by kernel_rfl)) (fun _ _ _ h => h) (Or.inl ⟨by rfl, ?_⟩) ?_ ?_
  rotate_left
  · intro w'
    refine (exec_item rfl rfl rfl (built39 _ tx (by rw [u8s_size]; exact HI.out.1)) w').trans ?_
    with_reducible rfl
  rotate_left
  · simp only [Act.put, List.setIfInBounds_toArray, List.set_cons_zero, List.set_cons_succ, i64_w, i32_w]
    rfl
  refine one_ (i := 12) (N := some 10) #[true, true, true, true, true, true, true, true, true, true, true, true, true, false] rfl rfl (one_of HT_.out (by kernel_rfl)) (by decide) (fun K hK => ?_)
  refine alloc_blk_step (by rfl) rfl rfl zero39 ?_
  intro g10 w' hg10 hz hb
  refine hK.out _ _ ⟨HH.out.1.below hb, HH.out.2.1.below hb, HH.out.2.2.1.below hb, HH.out.2.2.2.trans (Mod.of_below hb)⟩ (fun hHeld => ?_)
  have HX10 := Aside0.mk hz
  have HB10 := Aside0.mk hb
  have HG10 := Aside0.mk hg10
  have HNX := Aside0.mk (show g10 ≠ g by have := blk_lt HH.out.2.1; omega)
  have HP := HH
  clear hz hb hg10
  have HH2 := Aside0.mk hHeld
  clear hHeld HH
  have HH := HH2
  clear HH2
  try clear hK K
  refine norm_ (a' := ?_) ?_ ?_
  rotate_left
  · show Act.put _ (some 10) _ = _
    simp only [Act.put, List.setIfInBounds_toArray, List.set_cons_zero, List.set_cons_succ, i64_w, i32_w]
    rfl
  refine last_ (i := 13) (N := none) #[true, true, true, true, true, true, true, true, true, true, true, true, true, true] rfl rfl (one_of HT_.out (by kernel_rfl)) (by decide) (fun K hK => ?_)
  refine store_blk_l_step (cs := itV (id', tx)) (by rfl) rfl rfl rfl rfl HX10.out (by rw [itV_size (x := (id', tx)) HI.out]; exact size39) (by rw [itV_size (x := (id', tx)) HI.out, itV_size okId_z]) (itV_one _) ?_
  intro w' hz hb hn
  have hb2 := hb _ _ (by rw [HG10.out]; exact Nat.le_refl _) HB10.out
  refine hK.out _ _ ?_
  have X5 := Aside0.mk hz
  have C5 := Aside0.mk (HP.out.2.1.below hb2)
  have Z5 := Aside0.mk (HP.out.2.2.1.below hb2)
  have M5 := Aside0.mk (HP.out.2.2.2.trans (Mod.of_below hb2))
  clear hz hb hn hb2
  try clear hK K
  refine done_ (done_of HT_.out (by kernel_rfl)) ?_
  go_wp2_with (first
    | ((with_reducible refine gate_dst (N := 88) rfl ?_); refine load_blk rfl rfl rfl X5.out Tryz.underlying39 rfl (by rw [itV_size (x := (id', tx)) HI.out]; exact size39) ?_))
  refine (HDG.out _).mono ?_
  rintro e w6 ⟨rfl, hb⟩
  have C6 := Aside0.mk (C5.out.below hb)
  have Z6 := Aside0.mk (Z5.out.below hb)
  have X6 := Aside0.mk (X5.out.below hb)
  have M6 := Aside0.mk (M5.out.trans (Mod.of_below hb))
  have hc := cur_cells (C5.out.below hb)
  obtain ⟨c0, c1, c2, f1, f2⟩ := hc
  clear hb C5 Z5 X5 M5
  go_wp2_with fail
  refine (fail_any g p k 0 22 s _ C6.out).mono ?_
  rintro e w8 ⟨rfl, hb, hm⟩
  rw [if_pos rfl] at hb
  clear c0 c1 c2 f1 f2
  have hc := cur_cells hb
  obtain ⟨c0, c1, c2, f1, f2⟩ := hc
  have C8 := Aside0.mk hb
  have M8 := Aside0.mk (M6.out.trans hm)
  have Z8 := Aside0.mk (hm.blk Z6.out HNE.out)
  clear hb hm
  go_wp2_with (first
    | ((with_reducible refine gate_dst (N := 95) rfl ?_); refine build_blk rfl rfl rfl builtz39 ?_)
    | ((with_reducible refine gate_store (t := 39) (p := 2) (v := .tmp 95) rfl ?_); refine store_blk_l (W := w8) (cs := itV zIt) rfl rfl rfl rfl rfl Z8.out (by rw [itV_size okId_z]; exact size39) rfl (itV_one _) ?_; intro w9 hz hb hn; have Z9 := Aside0.mk hz; have C9 := Aside0.mk (hn _ _ _ C8.out (Ne.symm HNE.out)); have M9 := Aside0.mk (M8.out.new HG2.out (hb _ g2 (Nat.le_refl _) (Below.refl _ _))); clear hz hb hn))
  refine bodyPost_ret (results_cell_row rfl _ _ g2 39 (itV zIt) (0, 0) _ ?hp Z9.out Tryz.underlying39 rfl (by rw [itV_size okId_z]; exact size39)) rfl ?_
  case hp => rfl
  exact ⟨rfl, C9.out, M9.out⟩

set_option maxHeartbeats 4000000 in
set_option maxRecDepth 100000 in
theorem item_ok (g k j n : Nat) (id : List Int) (c : ByteArray) (s : ByteArray) (W : World) (he : Env W) (hg4 : 4 ≤ g) (h : Blk W g (cur s k 0) 75) (hs : s.size ≤ 1000000) (hk : k ≤ s.size) (hj : nl s k = some j) (hf : headF (s.extract k j) = some (id, n, c)) (hl : ¬ s.size < j + 1 + n + 1) (h10 : bt s ((j + 1 + n : Nat) : Int) = 10) (hd : digS (id, s.extract (j + 1) (j + 1 + n)) = c) :
    Calls Tryz.prog 35 #[.pointer (some ⟨g, 0, none⟩)] W fun r w' => r = .returned (.agg (itV (id, s.extract (j + 1) (j + 1 + n)))) ∧ Blk w' g (cur s (j + 1 + n + 1) 0) 75 ∧ Mod g W w' := by
  have HE := Aside0.mk he
  have HB0 := Aside0.mk h
  have hglt : g < W.heap.size := blk_lt h
  have hjl := nl_le s k j hj
  obtain ⟨ln, hln⟩ : ∃ ln, s.extract k j = ln := ⟨_, rfl⟩
  have hlns : ln.size ≤ 1000000 := by rw [← hln, ← data_length, extract_list, List.length_take, List.length_drop, data_length]; omega
  have HL := Aside0.mk (fun w he h => line_some g k j s w he h (by omega) hk hj)
  rw [hln] at HL hf
  have HHD := Aside0.mk (fun w he => head_any ln w he hlns)
  obtain ⟨p, hpj⟩ : ∃ p, j + 1 = p := ⟨_, rfl⟩
  have hps : p ≤ s.size := by omega
  rw [hpj] at HL
  have HNS := Aside0.mk (show (headF ln).isSome = true by rw [hf]; rfl)
  have HFF := Aside0.mk hf
  rw [hpj] at hl h10 hd ⊢
  obtain ⟨en, hen⟩ : ∃ en, p + n = en := ⟨_, rfl⟩
  have henI : (p : Int) + (n : Int) = (en : Int) := by omega
  have hn64 : n ≤ 65536 := headF_le hf
  have henb : en ≤ 2000000 := by omega
  have HEN := Aside0.mk hen
  have hlt : ¬ (s.size : Int) < (en : Int) + 1 := by omega
  have hle : (en : Int) + 1 ≤ (s.size : Int) := by omega
  have q1 : (0 : Int) ≤ (en : Int) := by omega
  have q2 : (en : Int) ≤ (en : Int) + 1 := by omega
  have q3 : ((en : Int) + 1).toNat = en + 1 := by omega
  have hje : (p : Int) ≤ (en : Int) := by omega
  have q4 : (en : Int) ≤ (s.size : Int) := by omega
  have q5 : (0 : Int) ≤ (p : Int) := by omega
  obtain ⟨sx, hsx⟩ : ∃ sx, s.extract en (en + 1) = sx := ⟨_, rfl⟩
  rw [hen] at h10 hd
  have hx : sx.toList = [10] := by rw [← hsx]; exact (feed_iff s en (by omega)).mpr h10
  obtain ⟨tx, htx⟩ : ∃ tx, s.extract p en = tx := ⟨_, rfl⟩
  have htl : tx.size ≤ 1000000 := by rw [← htx, ← data_length, extract_list, List.length_take, List.length_drop, data_length]; omega
  rw [htx] at hd
  have hoki := headF_ok hf
  have HDG := Aside0.mk (fun w => digest_any (id, tx) w hoki htl)
  obtain ⟨sd, hsd⟩ : ∃ sd, digS (id, tx) = sd := ⟨_, rfl⟩
  rw [hsd] at HDG hd
  rw [hen, htx]
  subst hd
  clear he h hj hf hln hpj hjl hen hl h10 hsd
  go_enter Tryz.func35, Tryz.ntmps35
  go_wp2_with (first
    | ((with_reducible refine gate_dst (N := 2) rfl ?_); refine alloc_blk rfl rfl rfl zero39 ?_; intro g2 w1 hg2 hz hb; have HG2 := Aside0.mk (show W.heap.size ≤ g2 by rw [hg2]; exact Nat.le_refl _); have HLT := Aside0.mk (blk_lt hz); have Z1 := Aside0.mk hz; have C1 := Aside0.mk (HB0.out.below hb); have M1 := Aside0.mk (Mod.of_below (g := g) hb); clear hg2 hz hb))
  have HNE := Aside0.mk (show g2 ≠ g by have := HG2.out; omega)
  refine (HL.out _ (M1.out.env HE.out hg4) C1.out).mono ?_
  rintro e w2 ⟨rfl, hb, hm⟩
  have hc := cur_cells hb
  obtain ⟨c0, c1, c2, f1, f2⟩ := hc
  have C2 := Aside0.mk hb
  have M2 := Aside0.mk (M1.out.trans hm)
  have Z2 := Aside0.mk (hm.blk Z1.out HNE.out)
  clear hb hm Z1 C1 M1
  go_wp2_with fail
  refine (HHD.out _ (M2.out.env HE.out hg4)).mono ?_
  rintro e w3 ⟨id', v', c', hid, rfl, hrs, hb⟩
  have HI := Aside0.mk hid
  have HRS := Aside0.mk hrs
  have C3 := Aside0.mk (C2.out.below hb)
  have Z3 := Aside0.mk (Z2.out.below hb)
  have M3 := Aside0.mk (M2.out.trans (Mod.of_below hb))
  clear hid hrs hb c0 c1 c2 f1 f2 C2 Z2 M2
  rw [HNS.out]
  obtain ⟨e1, e2, e3⟩ := HRS.out _ _ _ HFF.out
  subst e1 e2 e3
  clear HRS
  go_wp2_with (first
    | ((with_reducible refine gate_dst (N := 5) rfl ?_); refine var_blk (cs := u8s id') rfl rfl rfl rfl rfl rfl zero37 (by rw [u8s_size]; rfl) (by rw [u8s_size, HI.out.1]) (u8s_one _) (fun _ => rfl) (fun _ => rfl) ?_; intro g5 w4 hg hz hb; have Y4 := Aside0.mk hz; have C4 := Aside0.mk (C3.out.below hb); have Z4 := Aside0.mk (Z3.out.below hb); have M4 := Aside0.mk (M3.out.trans (Mod.of_below hb)); have hc := cur_cells (C3.out.below hb); obtain ⟨c0, c1, c2, f1, f2⟩ := hc; clear hg hz hb C3 Z3 M3))
  refine start_ (n := 14) (S := fun w' => Blk w' g5 (u8s id') 37 ∧ Blk w' g (cur s p 0) 75 ∧ Blk w' g2 (itV zIt) 39 ∧ Mod g W w') (ds := [13]) #[false, false, false, false, false, false, false, false, false, false, false, false, false, false] (by kernel_rfl) rfl rfl ⟨Y4.out, C4.out, Z4.out, M4.out.trans (Mod.drewN g w4 1)⟩ (fun hHeld => ?_)
  refine with_tabW r35_15.tab r35_15.bits (fun HT_ HW_ => ?_)
  generalize w4.drew = wd at hHeld ⊢
  have HH := Aside0.mk hHeld
  clear hHeld
  refine pure_ (i := 1) (N := some 77) (v := ?_) (a' := ?_) #[false, true, false, false, false, false, false, false, false, false, false, false, false, false] rfl rfl (any_of HT_.out (by kernel_rfl)) (fun _ _ _ h => h) (Or.inl ⟨by rfl, ?_⟩) ?_ ?_
  rotate_left
  · intro w'
    go_simp
    with_reducible rfl
  rotate_left
  · simp only [Act.put, List.setIfInBounds_toArray, List.set_cons_zero, List.set_cons_succ, i64_w, i32_w]
    rfl
  refine pure_ (i := 2) (N := some 78) (v := ?_) (a' := ?_) #[false, true, true, false, false, false, false, false, false, false, false, false, false, false] rfl rfl (any_of HT_.out (by kernel_rfl)) (fun _ _ _ h => h) (Or.inl ⟨by rfl, ?_⟩) ?_ ?_
  rotate_left
  · intro w'
    go_simp
    with_reducible rfl
  rotate_left
  · simp only [Act.put, List.setIfInBounds_toArray, List.set_cons_zero, List.set_cons_succ, i64_w, i32_w]
    rfl
  refine pure_ (i := 3) (N := some 79) (v := ?_) (a' := ?_) #[false, true, true, true, false, false, false, false, false, false, false, false, false, false] rfl rfl (any_of HT_.out (by kernel_rfl)) (fun _ _ _ h => h) (Or.inl ⟨by rfl, ?_⟩) ?_ ?_
  rotate_left
  · intro w'
    go_simp
    with_reducible rfl
  rotate_left
  · simp only [Act.put, List.setIfInBounds_toArray, List.set_cons_zero, List.set_cons_succ, i64_w, i32_w]
    rfl
  refine pure_ (i := 5) (N := some 81) (v := ?_) (a' := ?_) #[false, true, true, true, false, true, false, false, false, false, false, false, false, false] rfl rfl (any_of HT_.out (by kernel_rfl)) (fun _ _ _ h => h) (Or.inl ⟨by rfl, ?_⟩) ?_ ?_
  rotate_left
  · intro w'
    go_simp
    with_reducible rfl
  rotate_left
  · simp only [Act.put, List.setIfInBounds_toArray, List.set_cons_zero, List.set_cons_succ, i64_w, i32_w]
    rfl
  refine pure_ (i := 6) (N := some 82) (v := ?_) (a' := ?_) #[false, true, true, true, false, true, true, false, false, false, false, false, false, false] rfl rfl (any_of HT_.out (by kernel_rfl)) (fun _ _ _ h => h) (Or.inl ⟨by rfl, ?_⟩) ?_ ?_
  rotate_left
  · intro w'
    go_simp
    with_reducible rfl
  rotate_left
  · simp only [Act.put, List.setIfInBounds_toArray, List.set_cons_zero, List.set_cons_succ, i64_w, i32_w]
    rfl
  refine pure_ (i := 7) (N := some 83) (v := ?_) (a' := ?_) #[false, true, true, true, false, true, true, true, false, false, false, false, false, false] rfl rfl (any_of HT_.out (by kernel_rfl)) (fun _ _ _ h => h) (Or.inl ⟨by rfl, ?_⟩) ?_ ?_
  rotate_left
  · intro w'
    go_simp
    with_reducible rfl
  rotate_left
  · simp only [Act.put, List.setIfInBounds_toArray, List.set_cons_zero, List.set_cons_succ, i64_w, i32_w]
    rfl
  refine pure_ (i := 9) (N := some 85) (v := ?_) (a' := ?_) #[false, true, true, true, false, true, true, true, false, true, false, false, false, false] rfl rfl (any_of HT_.out (by kernel_rfl)) (fun _ _ _ h => h) (Or.inl ⟨by rfl, ?_⟩) ?_ ?_
  rotate_left
  · intro w'
    go_simp
    with_reducible rfl
  rotate_left
  · simp only [Act.put, List.setIfInBounds_toArray, List.set_cons_zero, List.set_cons_succ, i64_w, i32_w]
    rfl
  refine take_ (i := 0) (N := some 76) (v := .agg (u8s id')) (a' := ?_) #[true, true, true, true, false, true, true, true, false, true, false, false, false, false] rfl rfl (take_ofW HT_.out HW_.out (by kernel_rfl)) (fun _ _ _ h => h) ?_ HH.out ?_ ?_
  · exact yields_blk (by rfl) rfl rfl (fun w h => h.1) Tryz.underlying37 rfl (by rw [u8s_size, HI.out.1]; exact size37)
  rotate_left
  · simp only [Act.put, List.setIfInBounds_toArray, List.set_cons_zero, List.set_cons_succ, i64_w, i32_w]
    rfl
  refine take_ (i := 4) (N := some 80) (v := ?_) (a' := ?_) #[true, true, true, true, true, true, true, true, false, true, false, false, false, false] rfl rfl (take_ofW HT_.out HW_.out (by kernel_rfl)) (fun _ _ _ h => h) (Or.inl ⟨by rfl, ?_⟩) HH.out ?_ ?_
  rotate_left
  · intro w' hS'
    have hc := (cur_cells hS'.2.1).1
    go_simp
    with_reducible rfl
  rotate_left
  · simp only [Act.put, List.setIfInBounds_toArray, List.set_cons_zero, List.set_cons_succ, i64_w, i32_w]
    rfl
  refine take_ (i := 8) (N := some 84) (v := ?_) (a' := ?_) #[true, true, true, true, true, true, true, true, true, true, false, false, false, false] rfl rfl (take_ofW HT_.out HW_.out (by kernel_rfl)) (fun _ _ _ h => h) (Or.inl ⟨by rfl, ?_⟩) HH.out ?_ ?_
  rotate_left
  · intro w' hS'
    have hc := (cur_cells hS'.2.1).2.1
    go_simp
    with_reducible rfl
  rotate_left
  · simp only [Act.put, List.setIfInBounds_toArray, List.set_cons_zero, List.set_cons_succ, i64_w, i32_w]
    rfl
  refine pure_ (i := 10) (N := some 86) (v := ?_) (a' := ?_) #[true, true, true, true, true, true, true, true, true, true, true, false, false, false] rfl rfl (any_of HT_.out (by kernel_rfl)) (fun _ _ _ h => h) (Or.inl ⟨by rfl, ?_⟩) ?_ ?_
  rotate_left
  · intro w'
    go_simp
    with_reducible rfl
  rotate_left
  · simp only [Act.put, List.setIfInBounds_toArray, List.set_cons_zero, List.set_cons_succ, i64_w, i32_w]
    rfl
  refine pure_ (i := 11) (N := some 87) (v := ?_) (a' := ?_) #[true, true, true, true, true, true, true, true, true, true, true, true, false, false] rfl rfl (any_of HT_.out (by kernel_rfl)) (fun _ _ _ h => h) (Or.inl ⟨by rfl, ?_⟩) ?_ ?_
  rotate_left
  · intro w'
    refine (exec_item rfl rfl rfl (built39 _ tx (by rw [u8s_size]; exact HI.out.1)) w').trans ?_
    with_reducible rfl
  rotate_left
  · simp only [Act.put, List.setIfInBounds_toArray, List.set_cons_zero, List.set_cons_succ, i64_w, i32_w]
    rfl
  refine one_ (i := 12) (N := some 10) #[true, true, true, true, true, true, true, true, true, true, true, true, true, false] rfl rfl (one_of HT_.out (by kernel_rfl)) (by decide) (fun K hK => ?_)
  refine alloc_blk_step (by rfl) rfl rfl zero39 ?_
  intro g10 w' hg10 hz hb
  refine hK.out _ _ ⟨HH.out.1.below hb, HH.out.2.1.below hb, HH.out.2.2.1.below hb, HH.out.2.2.2.trans (Mod.of_below hb)⟩ (fun hHeld => ?_)
  have HX10 := Aside0.mk hz
  have HB10 := Aside0.mk hb
  have HG10 := Aside0.mk hg10
  have HNX := Aside0.mk (show g10 ≠ g by have := blk_lt HH.out.2.1; omega)
  have HP := HH
  clear hz hb hg10
  have HH2 := Aside0.mk hHeld
  clear hHeld HH
  have HH := HH2
  clear HH2
  try clear hK K
  refine norm_ (a' := ?_) ?_ ?_
  rotate_left
  · show Act.put _ (some 10) _ = _
    simp only [Act.put, List.setIfInBounds_toArray, List.set_cons_zero, List.set_cons_succ, i64_w, i32_w]
    rfl
  refine last_ (i := 13) (N := none) #[true, true, true, true, true, true, true, true, true, true, true, true, true, true] rfl rfl (one_of HT_.out (by kernel_rfl)) (by decide) (fun K hK => ?_)
  refine store_blk_l_step (cs := itV (id', tx)) (by rfl) rfl rfl rfl rfl HX10.out (by rw [itV_size (x := (id', tx)) HI.out]; exact size39) (by rw [itV_size (x := (id', tx)) HI.out, itV_size okId_z]) (itV_one _) ?_
  intro w' hz hb hn
  have hb2 := hb _ _ (by rw [HG10.out]; exact Nat.le_refl _) HB10.out
  refine hK.out _ _ ?_
  have X5 := Aside0.mk hz
  have C5 := Aside0.mk (HP.out.2.1.below hb2)
  have Z5 := Aside0.mk (HP.out.2.2.1.below hb2)
  have M5 := Aside0.mk (HP.out.2.2.2.trans (Mod.of_below hb2))
  clear hz hb hn hb2
  try clear hK K
  refine done_ (done_of HT_.out (by kernel_rfl)) ?_
  go_wp2_with (first
    | ((with_reducible refine gate_dst (N := 88) rfl ?_); refine load_blk rfl rfl rfl X5.out Tryz.underlying39 rfl (by rw [itV_size (x := (id', tx)) HI.out]; exact size39) ?_))
  refine (HDG.out _).mono ?_
  rintro e w6 ⟨rfl, hb⟩
  have C6 := Aside0.mk (C5.out.below hb)
  have Z6 := Aside0.mk (Z5.out.below hb)
  have X6 := Aside0.mk (X5.out.below hb)
  have M6 := Aside0.mk (M5.out.trans (Mod.of_below hb))
  have hc := cur_cells (C5.out.below hb)
  obtain ⟨c0, c1, c2, f1, f2⟩ := hc
  clear hb C5 Z5 X5 M5
  have e1 : (en : Int) + 1 = ((en + 1 : Nat) : Int) := by omega
  have C7 := Aside0.mk (show Blk (w6.setCell ⟨g, 1, none⟩ (.int .i64 ((en : Int) + 1))) g (cur s (en + 1) 0) 75 by rw [e1]; exact blk_set C6.out 1 _)
  have X7 := Aside0.mk (show Blk (w6.setCell ⟨g, 1, none⟩ (.int .i64 ((en : Int) + 1))) g10 (itV (id', tx)) 39 from X6.out.set_ne (p := ⟨g, 1, none⟩) _ HNX.out)
  have Z7 := Aside0.mk (show Blk (w6.setCell ⟨g, 1, none⟩ (.int .i64 ((en : Int) + 1))) g2 (itV zIt) 39 from Z6.out.set_ne (p := ⟨g, 1, none⟩) _ HNE.out)
  have M7 := Aside0.mk (M6.out.set_ 1 (.int .i64 ((en : Int) + 1)))
  clear e1
  go_wp2_with (first
    | ((with_reducible refine gate_dst (N := 101) rfl ?_); refine load_blk rfl rfl rfl X7.out Tryz.underlying39 rfl (by rw [itV_size (x := (id', tx)) HI.out]; exact size39) ?_)
    | ((with_reducible refine gate_store (t := 39) (p := 2) (v := .tmp 101) rfl ?_); refine store_blk_l (cs := itV (id', tx)) rfl rfl rfl rfl rfl Z7.out (by rw [itV_size (x := (id', tx)) HI.out]; exact size39) (by rw [itV_size (x := (id', tx)) HI.out, itV_size okId_z]) (itV_one _) ?_; intro w9 hz hb hn; have Z9 := Aside0.mk hz; have C9 := Aside0.mk (hn _ _ _ C7.out (Ne.symm HNE.out)); have M9 := Aside0.mk (M7.out.new HG2.out (hb _ g2 (Nat.le_refl _) (Below.refl _ _))); clear hz hb hn))
  refine bodyPost_ret (results_cell_row rfl _ _ g2 39 (itV (id', tx)) (0, 0) _ ?hp Z9.out Tryz.underlying39 rfl (by rw [itV_size (x := (id', tx)) HI.out]; exact size39)) rfl ?_
  case hp => rfl
  exact ⟨rfl, C9.out, M9.out⟩

end Go.Proofs.YtceopllngemnnaaGreatDoor


/-
  Unpack of package batch: what it returns. For texts of up to a million bytes.
-/
namespace Go.Proofs.YtceopllngemnnaaGreatDoor
open Go.RowKit Go.Proofs.YtceopllngemnnaaGreatDoorW.PrintWords Go.Proofs.YtceopllngemnnaaGreatDoorW.PrintLast Go.Proofs.YtceopllngemnnaaGreatDoorW.PrintMore Go.Proofs.YtceopllngemnnaaGreatDoor.PRef

/-- The item at an offset and the offset behind it, or the offset of the error and its kind. -/
def readF (s : ByteArray) (k : Nat) : (It × Nat) ⊕ (Nat × Int) := match nl s k with
  | none => .inr (s.size, 23)
  | some j => match headF (s.extract k j) with
    | none => .inr (k, 3)
    | some (id, n, c) =>
      if s.size < j + 1 + n + 1 then .inr (s.size, 23)
      else if bt s ((j + 1 + n : Nat) : Int) ≠ 10 then .inr (j + 1 + n, 3)
      else if digS (id, s.extract (j + 1) (j + 1 + n)) ≠ c then .inr (k, 22)
      else .inl ((id, s.extract (j + 1) (j + 1 + n)), j + 1 + n + 1)

theorem item_inl (g k nx : Nat) (x : It) (s : ByteArray) (W : World) (he : Env W) (hg4 : 4 ≤ g) (h : Blk W g (cur s k 0) 75) (hs : s.size ≤ 1000000) (hk : k ≤ s.size) (hr : readF s k = .inl (x, nx)) :
    nx ≤ s.size ∧ okId x.1 ∧ x.2.size ≤ 1000000 ∧ Calls Tryz.prog 35 #[.pointer (some ⟨g, 0, none⟩)] W fun r w' => r = .returned (.agg (itV x)) ∧ Blk w' g (cur s nx 0) 75 ∧ Mod g W w' := by
  unfold readF at hr
  cases hj : nl s k with
  | none => rw [hj] at hr; cases hr
  | some j =>
    rw [hj] at hr
    simp only at hr
    rcases hf : headF (s.extract k j) with _ | ⟨id, n, c⟩
    · rw [hf] at hr; cases hr
    · rw [hf] at hr
      simp only at hr
      by_cases h1 : s.size < j + 1 + n + 1
      · rw [if_pos h1] at hr; cases hr
      · rw [if_neg h1] at hr
        by_cases h2 : bt s ((j + 1 + n : Nat) : Int) = 10
        · rw [if_neg (by simpa using h2)] at hr
          by_cases h3 : digS (id, s.extract (j + 1) (j + 1 + n)) = c
          · rw [if_neg (by simpa using h3)] at hr
            injection hr with hr
            simp only [Prod.mk.injEq] at hr
            obtain ⟨rfl, rfl⟩ := hr
            refine ⟨by omega, headF_ok hf, ?_, item_ok g k j n id c s W he hg4 h hs hk hj hf h1 h2 h3⟩
            show (s.extract (j + 1) (j + 1 + n)).size ≤ _
            rw [← data_length, extract_list, List.length_take, List.length_drop, data_length]; omega
          · rw [if_pos h3] at hr; cases hr
        · rw [if_pos h2] at hr; cases hr
theorem item_inr (g k b : Nat) (e : Int) (s : ByteArray) (W : World) (he : Env W) (hg4 : 4 ≤ g) (h : Blk W g (cur s k 0) 75) (hs : s.size ≤ 1000000) (hk : k ≤ s.size) (hr : readF s k = .inr (b, e)) :
    e ≠ 0 ∧ Calls Tryz.prog 35 #[.pointer (some ⟨g, 0, none⟩)] W fun r w' => r = .returned (.agg (itV zIt)) ∧ Blk w' g (cur s b e) 75 ∧ Mod g W w' := by
  unfold readF at hr
  cases hj : nl s k with
  | none =>
    rw [hj] at hr
    injection hr with hr
    simp only [Prod.mk.injEq] at hr
    obtain ⟨rfl, rfl⟩ := hr
    exact ⟨by decide, item_none g k s W he hg4 h hs hk hj⟩
  | some j =>
    rw [hj] at hr
    simp only at hr
    rcases hf : headF (s.extract k j) with _ | ⟨id, n, c⟩
    · rw [hf] at hr
      injection hr with hr
      simp only [Prod.mk.injEq] at hr
      obtain ⟨rfl, rfl⟩ := hr
      exact ⟨by decide, item_head g k j s W he hg4 h hs hk hj hf⟩
    · rw [hf] at hr
      simp only at hr
      by_cases h1 : s.size < j + 1 + n + 1
      · rw [if_pos h1] at hr
        injection hr with hr
        simp only [Prod.mk.injEq] at hr
        obtain ⟨rfl, rfl⟩ := hr
        exact ⟨by decide, item_short g k j n id c s W he hg4 h hs hk hj hf h1⟩
      · rw [if_neg h1] at hr
        by_cases h2 : bt s ((j + 1 + n : Nat) : Int) = 10
        · rw [if_neg (by simpa using h2)] at hr
          by_cases h3 : digS (id, s.extract (j + 1) (j + 1 + n)) = c
          · rw [if_neg (by simpa using h3)] at hr; cases hr
          · rw [if_pos h3] at hr
            injection hr with hr
            simp only [Prod.mk.injEq] at hr
            obtain ⟨rfl, rfl⟩ := hr
            exact ⟨by decide, item_sum g k j n id c s W he hg4 h hs hk hj hf h1 h2 h3⟩
        · rw [if_pos h2] at hr
          injection hr with hr
          simp only [Prod.mk.injEq] at hr
          obtain ⟨rfl, rfl⟩ := hr
          exact ⟨by decide, item_feed g k j n id c s W he hg4 h hs hk hj hf h1 h2⟩

set_option maxHeartbeats 4000000 in
set_option maxRecDepth 100000 in
theorem item_err (g k : Nat) (e : Int) (s : ByteArray) (W : World) (h : Blk W g (cur s k e) 75) (h0 : e ≠ 0) :
    Calls Tryz.prog 35 #[.pointer (some ⟨g, 0, none⟩)] W fun r w' => r = .returned (.agg (itV zIt)) ∧ Blk w' g (cur s k e) 75 ∧ Mod g W w' := by
  have HB0 := Aside0.mk h
  have hglt : g < W.heap.size := blk_lt h
  have HL := Aside0.mk (fun w h => line_err g k e s w h h0)
  have hb0 : (e == 0) = false := by simp [h0]
  clear h
  go_enter Tryz.func35, Tryz.ntmps35
  go_wp2_with (first
    | ((with_reducible refine gate_dst (N := 2) rfl ?_); refine alloc_blk rfl rfl rfl zero39 ?_; intro g2 w1 hg2 hz hb; have HG2 := Aside0.mk (show W.heap.size ≤ g2 by rw [hg2]; exact Nat.le_refl _); have HLT := Aside0.mk (blk_lt hz); have Z1 := Aside0.mk hz; have C1 := Aside0.mk (HB0.out.below hb); have M1 := Aside0.mk (Mod.of_below (g := g) hb); have hc := cur_cells (HB0.out.below hb); obtain ⟨c0, c1, c2, f1, f2⟩ := hc; clear hg2 hz hb))
  have HNE := Aside0.mk (show g2 ≠ g by have := HG2.out; omega)
  refine (HL.out _ C1.out).mono ?_
  rintro e' w2 ⟨rfl, rfl⟩
  go_wp2_with (first
    | ((with_reducible refine gate_dst (N := 21) rfl ?_); refine build_blk rfl rfl rfl builtz39 ?_)
    | ((with_reducible refine gate_store (t := 39) (p := 2) (v := .tmp 21) rfl ?_); refine store_blk_l (W := w2) (cs := itV zIt) rfl rfl rfl rfl rfl Z1.out (by rw [itV_size okId_z]; exact size39) rfl (itV_one _) ?_; intro w9 hz hb hn; have Z9 := Aside0.mk hz; have C9 := Aside0.mk (hn _ _ _ C1.out (Ne.symm HNE.out)); have M9 := Aside0.mk (M1.out.new HG2.out (hb _ g2 (Nat.le_refl _) (Below.refl _ _))); clear hz hb hn))
  refine bodyPost_ret (results_cell_row rfl _ _ g2 39 (itV zIt) (0, 0) _ ?hp Z9.out Tryz.underlying39 rfl (by rw [itV_size okId_z]; exact size39)) rfl ?_
  case hp => rfl
  exact ⟨rfl, C9.out, M9.out⟩

/-- Items one behind another. -/
def runF (s : ByteArray) : Nat → Nat → List It → (List It × Nat) ⊕ (Nat × Int)
  | 0, k, acc => .inl (acc, k)
  | m + 1, k, acc => match readF s k with
    | .inl (x, nx) => runF s m nx (acc ++ [x])
    | .inr e => .inr e
/-- What Unpack returns. -/
def unpackF (s : ByteArray) : List It × Nat × Int := match nl s 0 with
  | none => ([], s.size, 23)
  | some j => match firstF (s.extract 0 j) with
    | none => ([], 0, 3)
    | some n => match runF s n (j + 1) [] with
      | .inr (b, e) => ([], b, e)
      | .inl (l, k) => if (lastF s k).2 = 0 then (l, 0, 0) else ([], (lastF s k).1, (lastF s k).2)

theorem Kit.R_mod {W W1 : World} {g base : Nat} {ok : Nat → Prop} {v : Value} {xs : List It} {cs : Array Value} (h : Kit.R 39 W base ok v xs) (hb : Blk W g cs 75) (hm : Mod g W W1) : Kit.R 39 W1 base ok v xs :=
  Kd.R_mono (Kd.R_keep (Kd.R_types h hb (by intro q hq; rcases List.mem_cons.mp hq with rfl | hq; decide; cases hq)) hm.1 (fun _ hk => hk.2)) (fun _ hk => hk.1)
theorem info39 : (Tryz.prog.info? 39).map (fun i => (i.zero, i.size, i.bytes)) = some (some (.agg (itV zIt)), 33, 48) := by kernel_rfl
theorem run_zero (s : ByteArray) (k : Nat) (acc : List It) : runF s 0 k acc = .inl (acc, k) := rfl
theorem run_ok {s : ByteArray} {m k nx : Nat} {acc : List It} {x : It} (h : readF s k = .inl (x, nx)) : runF s (m + 1) k acc = runF s m nx (acc ++ [x]) := by
  show (match readF s k with | .inl (x, nx) => runF s m nx (acc ++ [x]) | .inr e => .inr e) = _
  rw [h]
theorem run_bad {s : ByteArray} {m k b : Nat} {e : Int} {acc : List It} (h : readF s k = .inr (b, e)) : runF s (m + 1) k acc = .inr (b, e) := by
  show (match readF s k with | .inl (x, nx) => runF s m nx (acc ++ [x]) | .inr e => .inr e) = _
  rw [h]

set_option maxHeartbeats 8000000 in
set_option maxRecDepth 100000 in
theorem unpack_any (s : ByteArray) (W : World) (he : Env W) (hs : s.size ≤ 1000000) :
    Calls Tryz.prog 15 #[.string s] W fun r w' => ∃ v, r = .returned (.tuple #[v, .int .i64 (unpackF s).2.1, .int .i64 (unpackF s).2.2]) ∧ Kit.R 39 w' W.heap.size (fun _ => True) v (unpackF s).1 ∧ Below W.heap.size W w' := by
  have HE := Aside0.mk he
  have h4 := he.big
  -- the first line, and what stands behind it
  obtain ⟨n, k0, e0, hfirst, hn, hk0, hrest⟩ : ∃ (n k0 : Nat) (e0 : Int), (∀ g W, Env W → 4 ≤ g → Blk W g (cur s 0 0) 75 → Calls Tryz.prog 34 #[.pointer (some ⟨g, 0, none⟩)] W fun r w' => r = .returned (.int .i64 n) ∧ Blk w' g (cur s k0 e0) 75 ∧ Mod g W w') ∧ n ≤ 1000 ∧ k0 ≤ s.size ∧
      unpackF s = (if e0 = 0 then (match runF s n k0 [] with | .inr (b, e) => ([], b, e) | .inl (l, k) => if (lastF s k).2 = 0 then (l, 0, 0) else ([], (lastF s k).1, (lastF s k).2)) else ([], k0, e0)) := by
    unfold unpackF
    cases hj : nl s 0 with
    | none => exact ⟨0, s.size, 23, fun g W he hg h => first_none g s W he hg h (by omega) hj, by omega, Nat.le_refl _, by simp⟩
    | some j =>
      have hjl := nl_le s 0 j hj
      cases hf : firstF (s.extract 0 j) with
      | none =>
        have hr := numF_range (cutSp (s.extract 0 j)).2 1000 (by omega) (by omega)
        obtain ⟨n, hn⟩ := Int.eq_ofNat_of_zero_le hr.1
        exact ⟨n, 0, 3, fun g W he hg h => first_bad g j n s W he hg h hs hj hf hn, by omega, Nat.zero_le _, by dsimp only; rw [hf]; simp⟩
      | some n =>
        refine ⟨n, j + 1, 0, fun g W he hg h => (first_ok g j n s W he hg h hs hj hf).2, ?_, by omega, by dsimp only; rw [hf]; simp⟩
        unfold firstF at hf
        split at hf
        · have hr := numF_range (cutSp (s.extract 0 j)).2 1000 (by omega) (by omega)
          have := Option.some.inj hf
          omega
        · cases hf
  obtain ⟨res, hres⟩ : ∃ res, runF s n k0 [] = res := ⟨_, rfl⟩
  rw [hres] at hrest
  have HRES := Aside0.mk hres
  have HU := Aside0.mk hrest
  have HFI := Aside0.mk hfirst
  clear hfirst hrest hres he
  obtain ⟨g, hg⟩ : ∃ g, W.heap.size = g := ⟨_, rfl⟩
  have HGE := Aside0.mk (show W.heap.size ≤ g by omega)
  have HGQ := Aside0.mk hg
  have hg4 : 4 ≤ g := by omega
  go_enter Tryz.func15, Tryz.ntmps15
  go_wp2_with fail
  refine (HFI.out g _ (HE.out.below (below_alloc (Below.refl _ _) _)) hg4 (by rw [← HGQ.out]; exact blk_new W _)).mono ?_
  rintro e w2 ⟨rfl, hb, hm⟩
  have C2 := Aside0.mk hb
  have B2 := Aside0.mk (hm.below (below_alloc (Below.refl _ _) _) HGE.out)
  clear hb hm
  go_wp2_with fail
  go_loopg [2, 20] n (fun gf x2 x20 wx => ∃ (i k : Nat) (e : Int) (acc : List It), i ≤ n ∧ x20 = .int .i64 i ∧ Hid (n ≤ i + gf) ∧ Aside0 (Blk wx g (cur s k e) 75) ∧ Aside0 (Kit.R 39 wx W.heap.size (fun _ => True) x2 acc) ∧ Aside0 (acc.length ≤ i) ∧ Aside0 (Below W.heap.size W wx) ∧
    Aside0 (e0 = 0 → e = 0 → k ≤ s.size ∧ runF s (n - i) k acc = res) ∧ Aside0 (e0 = 0 → e ≠ 0 → res = .inr (k, e)) ∧ Aside0 (e0 ≠ 0 → e = e0 ∧ k = k0))
  case atStart => exact ⟨0, k0, e0, [], Nat.zero_le _, rfl, by unfold Hid; omega, C2, ⟨Kd.R_nil _ _ _ _ _⟩, ⟨Nat.le_refl _⟩, B2, ⟨fun _ _ => ⟨hk0, HRES.out⟩⟩, ⟨fun h h' => absurd h h'⟩, ⟨fun _ => ⟨rfl, rfl⟩⟩⟩
  case round =>
    clear C2 B2
    obtain ⟨i, k, e, acc, hi, rfl, HG, C2, HR, HAL, B2, H1, H2, H3⟩ := hrel
    by_cases hlt : i < n
    · by_cases hz : e = 0
      · subst hz
        have hkk : k ≤ s.size := by
          by_cases h : e0 = 0
          · exact (H1.out h rfl).1
          · exact (h ((H3.out h).1.symm)).elim
        cases hrd : readF s k with
        | inl p =>
          obtain ⟨x, nx⟩ := p
          obtain ⟨hnx, hxo, hxs, hcall⟩ := item_inl g k nx x s wr (HE.out.below B2.out) hg4 C2.out hs hkk hrd
          have HXO := Aside0.mk hxo
          have HCA := Aside0.mk hcall
          have HRN := Aside0.mk (fun m acc => run_ok (m := m) (acc := acc) hrd)
          clear hxo hcall hrd
          go_wp2_with fail
          refine (HCA.out).mono ?_
          rintro e' w3 ⟨rfl, hb, hm⟩
          have C3 := Aside0.mk hb
          have R3 := Aside0.mk (Kit.R_mod HR.out C2.out hm)
          have B3 := Aside0.mk (hm.below B2.out HGE.out)
          clear hb hm
          go_wp2_with (first
            | ((with_reducible refine gate_dst (N := 8) rfl ?_); refine var_blk (cs := itV x) rfl rfl rfl rfl rfl rfl zero39 (itV_size okId_z) (itV_size HXO.out) (itV_one _) (fun _ => rfl) (fun _ => rfl) ?_; intro g8 w4 hg8 hz hb; have Z4 := Aside0.mk hz; have C4 := Aside0.mk (C3.out.below hb); have R4 := Aside0.mk (Kd.R_below R3.out hb); have B4 := Aside0.mk (below_step B3.out hb); have hc := cur_cells (C3.out.below hb); obtain ⟨c0, c1, c2, f1, f2⟩ := hc; clear hg8 hz hb)
            | ((with_reducible refine gate_dst (N := 30) rfl ?_); refine load_blk rfl rfl rfl Z4.out Tryz.underlying39 rfl (by rw [itV_size HXO.out]; exact size39) ?_)
            | ((with_reducible refine gate_dst (N := 31) rfl ?_); refine slice_one rfl rfl rfl Tryz.underlying22 zero39 (itV_size okId_z) (itV_size HXO.out) (by omega) (by omega) ?_; intro g31 w5 hg31 hz hb; have Y5 := Aside0.mk hz; have C5 := Aside0.mk (C4.out.below hb); have R5 := Aside0.mk (Kd.R_below R4.out hb); have B5 := Aside0.mk (below_step B4.out hb); clear hg31 hz hb)
            | ((with_reducible refine gate_builtin (b := .append) (xs := #[.tmp 29, .tmp 31]) rfl ?_); at_builtin; refine Kd.R_append_rows Kit (w0 := W) W.heap.size rfl (.tmp 29) (.tmp 31) 22 39 (.agg (itV zIt)) 48 rfl Tryz.underlying22 info39 (itV_size okId_z) (by decide) (by omega) _ acc [x] (some ⟨g31, 0, none⟩) 1 1 (fun _ => True) (fun _ => False) rfl rfl ?aO ?aR (fun _ _ h => h) (fun _ h => h.elim) ?aF ?aB ?aS ?aL ?_; (case aR => exact Kit.of_blk Y5.out HXO.out); (case aB => exact B5.out); (case aF => exact (fun _ _ => trivial)); (case aO => exact R5.out); (case aS => exact B5.out.size); (case aL => have := HAL.out; have hll : ([x] : List It).length = 1 := rfl; omega); intro v6 w6 ho hb hgr _; have R6 := Aside0.mk ho; have B6 := Aside0.mk hb; have C6 := Aside0.mk (show Blk w6 g (cur s nx 0) 75 from blk_grown C5.out hgr (Kd.R_ne R5.out C5.out (by decide))); clear ho hb hgr))
          go_wp2_with fail
          go_roundg (gk - 1)
          case measure => have := HG.out; omega
          case rel =>
            refine ⟨i + 1, nx, 0, acc ++ [x], by omega, by go_num, by have := HG.out; unfold Hid; omega, C6, R6, ⟨by have := HAL.out; simp; omega⟩, B6, ⟨fun h _ => ⟨hnx, ?_⟩⟩, ⟨fun _ h => absurd rfl h⟩, ⟨fun h => absurd (H3.out h).1.symm h⟩⟩
            obtain ⟨_, h1⟩ := H1.out h (by trivial)
            obtain ⟨m, hm⟩ : ∃ m, n - i = m + 1 := ⟨n - i - 1, by omega⟩
            rw [hm, HRN.out] at h1
            rw [show n - (i + 1) = m by omega]
            exact h1
        | inr p =>
          obtain ⟨b, e2⟩ := p
          obtain ⟨he2, hcall⟩ := item_inr g k b e2 s wr (HE.out.below B2.out) hg4 C2.out hs hkk hrd
          have HCA := Aside0.mk hcall
          have HRN := Aside0.mk (fun m acc => run_bad (m := m) (acc := acc) hrd)
          have hb2 : (e2 == 0) = false := by simp [he2]
          clear hcall hrd
          go_wp2_with fail
          refine (HCA.out).mono ?_
          rintro e' w3 ⟨rfl, hb, hm⟩
          have C3 := Aside0.mk hb
          have R3 := Aside0.mk (Kit.R_mod HR.out C2.out hm)
          have B3 := Aside0.mk (hm.below B2.out HGE.out)
          clear hb hm
          go_wp2_with (first
            | ((with_reducible refine gate_dst (N := 8) rfl ?_); refine var_blk (cs := itV zIt) rfl rfl rfl rfl rfl rfl zero39 (itV_size okId_z) (itV_size okId_z) (itV_one _) (fun _ => rfl) (fun _ => rfl) ?_; intro g8 w4 hg8 hz hb; have Z4 := Aside0.mk hz; have C4 := Aside0.mk (C3.out.below hb); have R4 := Aside0.mk (Kd.R_below R3.out hb); have B4 := Aside0.mk (below_step B3.out hb); have hc := cur_cells (C3.out.below hb); obtain ⟨c0, c1, c2, f1, f2⟩ := hc; clear hg8 hz hb))
          go_wp2_with fail
          go_roundg (gk - 1)
          case measure => have := HG.out; omega
          case rel =>
            refine ⟨i + 1, b, e2, acc, by omega, by go_num, by have := HG.out; unfold Hid; omega, C4, R4, ⟨by have := HAL.out; omega⟩, B4, ⟨fun _ h => absurd h he2⟩, ⟨fun h _ => ?_⟩, ⟨fun h => absurd (H3.out h).1.symm h⟩⟩
            obtain ⟨_, h1⟩ := H1.out h (by trivial)
            obtain ⟨m, hm⟩ : ∃ m, n - i = m + 1 := ⟨n - i - 1, by omega⟩
            rw [hm, HRN.out] at h1
            exact h1.symm
      · have HIE := Aside0.mk (item_err g k e s wr C2.out hz)
        have hbz : (e == 0) = false := by simp [hz]
        go_wp2_with fail
        refine (HIE.out).mono ?_
        rintro e' w3 ⟨rfl, hb, hm⟩
        have C3 := Aside0.mk hb
        have R3 := Aside0.mk (Kit.R_mod HR.out C2.out hm)
        have B3 := Aside0.mk (hm.below B2.out HGE.out)
        clear hb hm
        go_wp2_with (first
          | ((with_reducible refine gate_dst (N := 8) rfl ?_); refine var_blk (cs := itV zIt) rfl rfl rfl rfl rfl rfl zero39 (itV_size okId_z) (itV_size okId_z) (itV_one _) (fun _ => rfl) (fun _ => rfl) ?_; intro g8 w4 hg8 hz hb; have Z4 := Aside0.mk hz; have C4 := Aside0.mk (C3.out.below hb); have R4 := Aside0.mk (Kd.R_below R3.out hb); have B4 := Aside0.mk (below_step B3.out hb); have hc := cur_cells (C3.out.below hb); obtain ⟨c0, c1, c2, f1, f2⟩ := hc; clear hg8 hz hb))
        go_wp2_with fail
        go_roundg (gk - 1)
        case measure => have := HG.out; omega
        case rel => exact ⟨i + 1, k, e, acc, by omega, by go_num, by have := HG.out; unfold Hid; omega, C4, R4, ⟨by have := HAL.out; omega⟩, B4, ⟨fun _ h => absurd h hz⟩, H2, H3⟩
    · obtain rfl : i = n := by omega
      by_cases hz : e = 0
      · subst hz
        have hkk : k ≤ s.size := by
          by_cases h : e0 = 0
          · exact (H1.out h rfl).1
          · exact (h ((H3.out h).1.symm)).elim
        have hfin : unpackF s = if (lastF s k).2 = 0 then (acc, 0, 0) else ([], (lastF s k).1, (lastF s k).2) := by
          have h0 : e0 = 0 := by
            by_cases h : e0 = 0
            · exact h
            · exact (h ((H3.out h).1.symm)).elim
          have h1 := (H1.out h0 rfl).2
          rw [Nat.sub_self, run_zero] at h1
          rw [HU.out, if_pos h0, ← h1]
        have HLA := Aside0.mk (last_zero g k s wr (HE.out.below B2.out) hg4 C2.out hs hkk)
        obtain ⟨q1, hq1⟩ : ∃ q, (lastF s k).1 = q := ⟨_, rfl⟩
        obtain ⟨q2, hq2⟩ : ∃ q, (lastF s k).2 = q := ⟨_, rfl⟩
        rw [hq1, hq2] at hfin HLA
        clear hq1 hq2 H1 H2 H3 HU HRES HFI
        go_wp2_with fail
        refine HLA.out.mono ?_
        rintro e' w3 ⟨rfl, hb, hm⟩
        have C3 := Aside0.mk hb
        have R3 := Aside0.mk (Kit.R_mod HR.out C2.out hm)
        have B3 := Aside0.mk (hm.below B2.out HGE.out)
        clear hb hm
        by_cases hq : q2 = 0
        · subst hq
          rw [if_pos rfl] at hfin
          have HFN := Aside0.mk hfin
          clear hfin
          have hc := cur_cells C3.out
          obtain ⟨c0, c1, c2, f1, f2⟩ := hc
          go_wp2_with fail
          go_ret3
          exact ⟨_, by rw [HFN.out]; rfl, by rw [HFN.out]; exact R3.out, B3.out⟩
        · rw [if_neg hq] at hfin
          have HFN := Aside0.mk hfin
          have hqb : (q2 == 0) = false := by simp [hq]
          clear hfin
          have hc := cur_cells C3.out
          obtain ⟨c0, c1, c2, f1, f2⟩ := hc
          go_wp2_with fail
          go_quiet (fail)
          go_wp2_with fail
          go_ret3
          exact ⟨_, by rw [HFN.out]; rfl, by rw [HFN.out]; exact Kd.R_nil _ _ _ _ _, pw_below_drewN B3.out _⟩
      · have hfin : unpackF s = ([], k, e) := by
          by_cases h : e0 = 0
          · rw [HU.out, if_pos h, H2.out h hz]
          · obtain ⟨h1, h2⟩ := H3.out h
            rw [HU.out, if_neg h, h1, h2]
        have HFN := Aside0.mk hfin
        have HLA := Aside0.mk (last_err g k e s wr C2.out hz)
        have hzb : (e == 0) = false := by simp [hz]
        clear H1 H2 H3 HU HRES HFI
        go_wp2_with fail
        refine HLA.out.mono ?_
        rintro e' w3 ⟨rfl, hb, hm⟩
        have C3 := Aside0.mk hb
        have B3 := Aside0.mk (hm.below B2.out HGE.out)
        clear hb hm
        clear hfin
        have hc := cur_cells C3.out
        obtain ⟨c0, c1, c2, f1, f2⟩ := hc
        go_wp2_with fail
        go_quiet (fail)
        go_wp2_with fail
        go_ret3
        exact ⟨_, by rw [HFN.out]; rfl, by rw [HFN.out]; exact Kd.R_nil _ _ _ _ _, pw_below_drewN B3.out _⟩

end Go.Proofs.YtceopllngemnnaaGreatDoor


/-
  The text of batches, plain: what is packed is read back, what is read is what is packed, and beginnings are truncated. For every list of items.
-/
namespace Go.Proofs.YtceopllngemnnaaGreatDoor
open Go.RowKit Go.Proofs.YtceopllngemnnaaGreatDoorW.PrintWords Go.Proofs.YtceopllngemnnaaGreatDoorW.PrintMore

def toT (x : It) : List Int × List UInt8 := (x.1, x.2.data.toList)
theorem toT_inj {x y : It} (h : toT x = toT y) : x = y := by
  unfold toT at h
  simp only [Prod.mk.injEq] at h
  exact Prod.ext h.1 (data_inj h.2)
theorem mkB_data' (s : ByteArray) : mkB s.data.toList = s := mkB_data s

def FM : Fmt (List Int) where
  dec := Lib.decDigits
  dg := fun x => (digS (x.1, mkB x.2)).data.toList
  pr := fun i => (idS i).data.toList
  ok := okId
  dec_sep := fun n c hc => by
    have h := (dig_iff c).mp (dec_digits n c hc)
    refine ⟨?_, ?_, ?_, ?_⟩ <;> (rintro rfl; revert h; decide)
  dec_inj := fun m n h => by rw [← dec_val m, h, dec_val]
  dec_ne := dec_ne
  dg_len := fun x => by rw [data_length, digS_size]
  dg_sep := fun x c hc => by
    unfold digS at hc
    rw [hexS_data] at hc
    exact hexL_digit _ (halfL_range _) c hc
  pr_len := fun i h => by rw [data_length, idS_size71 h.1]
  pr_sep := fun i h c hc => by
    rw [idS_data] at hc
    rcases List.mem_cons.mp hc with rfl | hc
    · decide
    · rcases List.mem_append.mp hc with hc | hc
      · exact hexL_digit _ h.2 c hc
      · simp only [List.mem_cons, List.not_mem_nil, or_false] at hc
        rcases hc with rfl | rfl | rfl | rfl | rfl | rfl <;> decide
  pr_inj := fun i j hi hj h => idS_inj hi hj (data_inj h)

theorem itS_data (x : It) : (itS x).data.toList = FM.item (toT x) := by
  unfold itS
  simp only [append_data']
  show _ = (artW ++ (Lib.decDigits x.2.data.toList.length ++ 32 :: ((digS (x.1, mkB x.2.data.toList)).data.toList ++ 32 :: (idS x.1).data.toList))) ++ 10 :: (x.2.data.toList ++ [10])
  rw [mkB_data, data_length]
  show artW ++ Lib.decDigits x.2.size ++ [32] ++ (digS x).data.toList ++ [32] ++ (idS x.1).data.toList ++ [10] ++ x.2.data.toList ++ [10] = _
  simp
theorem catS_data : ∀ l : List It, (catS l).data.toList = FM.cat (l.map toT)
  | [] => rfl
  | x :: l => by
    show (itS x ++ catS l).data.toList = _
    rw [append_data', itS_data, catS_data l]; rfl
theorem packS_data (l : List It) : (packS l).data.toList = FM.text (l.map toT) := by
  unfold packS hdS
  simp only [append_data', catS_data]
  show [98, 97, 116, 99, 104, 32] ++ Lib.decDigits l.length ++ [10] ++ FM.cat (l.map toT) ++ [101, 110, 100, 10] = batW ++ (Lib.decDigits (l.map toT).length ++ 10 :: (FM.cat (l.map toT) ++ endW))
  rw [List.length_map]
  simp [batW, endW]
/-- An item that a batch may hold. -/
def okIt (x : It) : Prop := okId x.1 ∧ x.2.size ≤ 65536

/-! ### heads -/
theorem headF_line (ln : ByteArray) (x : It) (h : ln.data.toList = FM.line (toT x)) (hx : okIt x) : headF ln = some (x.1, x.2.size, digS x) := by
  have hl : ln.data.toList = [97, 114, 116, 105, 99, 108, 101] ++ 32 :: (Lib.decDigits x.2.size ++ 32 :: ((digS x).data.toList ++ 32 :: (idS x.1).data.toList)) := by
    rw [h]
    show artW ++ (Lib.decDigits x.2.data.toList.length ++ 32 :: ((digS (x.1, mkB x.2.data.toList)).data.toList ++ 32 :: (idS x.1).data.toList)) = _
    rw [mkB_data, data_length]; rfl
  have hw := words_four ln _ _ _ _ hl (by decide) (fun hc => (FM.dec_sep _ _ hc).2.1 rfl) (fun hc => by
    have := FM.dg_sep (toT x) 32 (show (32 : UInt8) ∈ (digS (x.1, mkB x.2.data.toList)).data.toList by rw [mkB_data]; exact hc)
    exact this.2 rfl) (fun hc => (FM.pr_sep _ hx.1 _ hc).2 rfl)
  have hn := num_of_dec (mkB (Lib.decDigits x.2.size)) 65536 x.2.size rfl (by have := hx.2; omega) (by omega)
  unfold headF
  rw [hw]
  simp only [mkB_data]
  have hu : (unhexF (digS x)).2 = 0 := by unfold digS; rw [unhexF_hexS _ (halfL_range _)]
  rw [if_pos ⟨rfl, by rw [hn], hu, digS_size x⟩, hn, (parseF_some _ _).mpr ⟨hx.1, rfl⟩]
  rfl
theorem headF_inv {ln : ByteArray} {id : List Int} {n : Nat} {c : ByteArray} (h : headF ln = some (id, n, c)) :
    okId id ∧ n ≤ 65536 ∧ ln.data.toList = artW ++ (Lib.decDigits n ++ 32 :: (c.data.toList ++ 32 :: (idS id).data.toList)) := by
  have hle := headF_le h
  have hok := headF_ok h
  obtain ⟨a, b, d, hw, ha, hb, _, _, hp, hn⟩ := headF_some h
  obtain ⟨hl, _⟩ := words_is_four _ _ _ _ _ hw
  obtain ⟨m, hm1, hm2, hm3⟩ := num_dec b 65536 (by omega) hb
  have hmn : m = n := by rw [hm1] at hn; omega
  subst hmn
  refine ⟨hok, hle, ?_⟩
  rw [hl, ha, hm3, ((parseF_some d id).mp hp).2]; rfl

/-! ### items -/
theorem drop_split {s : ByteArray} {k : Nat} {a r : List UInt8} (h : s.data.toList.drop k = a ++ r) (ha : a ≠ []) : k + a.length + r.length = s.size := by
  have := congrArg List.length h
  rw [List.length_drop, data_length, List.length_append] at this
  have : 0 < a.length := List.length_pos_iff.mpr ha
  omega
theorem drop_more {s : ByteArray} {k : Nat} {a r : List UInt8} (h : s.data.toList.drop k = a ++ r) : s.data.toList.drop (k + a.length) = r := by
  rw [← List.drop_drop, h, List.drop_left]
theorem bt_drop {s : ByteArray} {k : Nat} {c : UInt8} {r : List UInt8} (h : s.data.toList.drop k = c :: r) : bt s (k : Int) = c.toNat := by
  apply bt_list
  have := congrArg (fun l => l[0]?) h
  simpa using this
theorem extract_drop {s : ByteArray} {k : Nat} {a r : List UInt8} (h : s.data.toList.drop k = a ++ r) (n : Nat) (hn : a.length = n) : (s.extract k (k + n)).data.toList = a := by
  subst hn
  rw [extract_list, h, Nat.add_sub_cancel_left, List.take_left']
  rfl

theorem readF_item (s : ByteArray) (k : Nat) (x : It) (rest : List UInt8) (h : s.data.toList.drop k = FM.item (toT x) ++ rest) (hx : okIt x) : readF s k = .inl (x, k + (FM.item (toT x)).length) := by
  have h' : s.data.toList.drop k = FM.line (toT x) ++ 10 :: (x.2.data.toList ++ 10 :: rest) := by
    rw [h]
    show (FM.line (toT x) ++ 10 :: (x.2.data.toList ++ [10])) ++ rest = _
    simp
  have hj := nl_of s k _ _ h' (Fmt.line_sep (F := FM) (x := toT x) hx.1)
  have hln := nl_line s k _ _ h'
  obtain ⟨a, ha⟩ : ∃ a, (FM.line (toT x)).length = a := ⟨_, rfl⟩
  have hd1 : s.data.toList.drop (k + a + 1) = x.2.data.toList ++ 10 :: rest := by
    rw [← List.drop_drop, ← ha, drop_more h']; rfl
  have hsz := drop_split h' (List.cons_ne_nil _ _)
  simp only [List.length_cons, List.length_append, data_length] at hsz
  have hhd := headF_line (s.extract k (k + (FM.line (toT x)).length)) x hln hx
  have hd2 : s.data.toList.drop (k + a + 1 + x.2.size) = 10 :: rest := by
    have := drop_more hd1
    rwa [data_length] at this
  have hb : bt s ((k + a + 1 + x.2.size : Nat) : Int) = 10 := bt_drop hd2
  have hex : s.extract (k + a + 1) (k + a + 1 + x.2.size) = x.2 := data_inj (extract_drop hd1 _ (data_length _))
  have hlen : (FM.item (toT x)).length = a + 1 + x.2.size + 1 := by
    show (FM.line (toT x) ++ 10 :: (x.2.data.toList ++ [10])).length = _
    simp [ha, data_length]; omega
  rw [ha] at hsz hj hhd
  unfold readF
  rw [hj]
  simp only [hhd]
  rw [if_neg (by omega), if_neg (by simpa using hb), hex, if_neg (by simp), hlen]
  simp only [Sum.inl.injEq, Prod.mk.injEq, true_and]
  omega

theorem readF_inv {s : ByteArray} {k nx : Nat} {x : It} (h : readF s k = .inl (x, nx)) : okIt x ∧ ∃ rest, s.data.toList.drop k = FM.item (toT x) ++ rest ∧ nx = k + (FM.item (toT x)).length := by
  unfold readF at h
  cases hj : nl s k with
  | none => rw [hj] at h; cases h
  | some j =>
    rw [hj] at h
    simp only at h
    rcases hf : headF (s.extract k j) with _ | ⟨id, n, c⟩
    · rw [hf] at h; cases h
    · rw [hf] at h
      simp only at h
      by_cases h1 : s.size < j + 1 + n + 1
      · rw [if_pos h1] at h; cases h
      · rw [if_neg h1] at h
        by_cases h2 : bt s ((j + 1 + n : Nat) : Int) = 10
        · rw [if_neg (by simpa using h2)] at h
          by_cases h3 : digS (id, s.extract (j + 1) (j + 1 + n)) = c
          · rw [if_neg (by simpa using h3)] at h
            injection h with h
            simp only [Prod.mk.injEq] at h
            obtain ⟨rfl, rfl⟩ := h
            obtain ⟨hid, hn, hline⟩ := headF_inv hf
            obtain ⟨a, r, q1, q2, rfl⟩ := nl_some s k j hj
            have hln := nl_line s k _ _ q1
            rw [hln] at hline
            have htl : (s.extract (k + a.length + 1) (k + a.length + 1 + n)).data.toList.length = n := by
              rw [extract_list, List.length_take, List.length_drop, data_length]; omega
            have hts : (s.extract (k + a.length + 1) (k + a.length + 1 + n)).size = n := by rw [← data_length]; exact htl
            have hr : r = s.data.toList.drop (k + a.length + 1) := by
              rw [← List.drop_drop, drop_more q1]; rfl
            have h10 : s.data.toList.drop (k + a.length + 1 + n) = 10 :: s.data.toList.drop (k + a.length + 1 + n + 1) := by
              rw [drop_at s _ (by omega)]
              congr 1
              rw [← byte10, ← h2]
              exact bt_at s ((k + a.length + 1 + n : Nat) : Int) (by show k + a.length + 1 + n < _; omega)
            have hrr : r = (s.extract (k + a.length + 1) (k + a.length + 1 + n)).data.toList ++ 10 :: s.data.toList.drop (k + a.length + 1 + n + 1) := by
              rw [hr, extract_list, Nat.add_sub_cancel_left, ← h10, ← List.drop_drop (i := n), List.take_append_drop]
            obtain ⟨t, ht⟩ : ∃ t, s.extract (k + a.length + 1) (k + a.length + 1 + n) = t := ⟨_, rfl⟩
            rw [ht] at hts hrr h3 htl ⊢
            have hitem : FM.item (toT (id, t)) = a ++ 10 :: (t.data.toList ++ [10]) := by
              show (artW ++ (Lib.decDigits t.data.toList.length ++ 32 :: ((digS (id, mkB t.data.toList)).data.toList ++ 32 :: (idS id).data.toList))) ++ 10 :: (t.data.toList ++ [10]) = _
              rw [mkB_data, h3, htl, hline]
            refine ⟨⟨hid, by show t.size ≤ _; omega⟩, s.data.toList.drop (k + a.length + 1 + n + 1), ?_, ?_⟩
            · rw [hitem, q1, hrr]; simp
            · rw [hitem]; simp [htl]; omega
          · rw [if_pos h3] at h; cases h
        · rw [if_pos h2] at h; cases h

/-- The beginning of an item. -/
theorem readF_cut (s : ByteArray) (k : Nat) (x : It) (r t : List UInt8) (h : s.data.toList.drop k = r) (hr : r ++ t = FM.item (toT x)) (ht : t ≠ []) (hx : okIt x) : readF s k = .inr (s.size, 23) := by
  have hi : r ++ t = FM.line (toT x) ++ 10 :: (x.2.data.toList ++ [10]) := hr
  by_cases hl : r.length ≤ (FM.line (toT x)).length
  · obtain ⟨z, hz, _⟩ := app_longer hi hl
    have hn : nl s k = none := nl_of_none s k (by
      rw [h]
      intro hm
      exact Fmt.line_sep (F := FM) (x := toT x) hx.1 (by rw [hz]; simp [hm]))
    unfold readF
    rw [hn]
  · obtain ⟨z, hz, hz2⟩ := app_longer hi.symm (by omega)
    cases z with
    | nil => simp at hz; rw [hz] at hl; omega
    | cons c z =>
      simp only [List.cons_append, List.cons.injEq] at hz2
      obtain ⟨rfl, hz2⟩ := hz2
      have h' : s.data.toList.drop k = FM.line (toT x) ++ 10 :: z := by rw [h, hz]
      have hj := nl_of s k _ _ h' (Fmt.line_sep (F := FM) (x := toT x) hx.1)
      have hln := nl_line s k _ _ h'
      have hhd := headF_line _ x hln hx
      have hsz := drop_split h' (List.cons_ne_nil _ _)
      have hzl := congrArg List.length hz2
      simp only [List.length_cons, List.length_append, data_length, List.length_nil] at hsz hzl
      have htl : 0 < t.length := List.length_pos_iff.mpr ht
      unfold readF
      rw [hj]
      simp only [hhd]
      rw [if_pos (by omega)]

/-! ### many items -/
theorem run_cat (s : ByteArray) : ∀ (l : List It) (k : Nat) (acc : List It) (rest : List UInt8), (∀ x ∈ l, okIt x) → s.data.toList.drop k = FM.cat (l.map toT) ++ rest →
    runF s l.length k acc = .inl (acc ++ l, k + (FM.cat (l.map toT)).length)
  | [], k, acc, rest, _, _ => by simp [runF, Fmt.cat]
  | x :: l, k, acc, rest, hl, h => by
    have hc : FM.cat ((x :: l).map toT) = FM.item (toT x) ++ FM.cat (l.map toT) := rfl
    rw [hc, List.append_assoc] at h
    have hr := readF_item s k x _ h (hl x List.mem_cons_self)
    show runF s (l.length + 1) k acc = _
    rw [run_ok hr, run_cat s l _ (acc ++ [x]) rest (fun y hy => hl y (List.mem_cons_of_mem _ hy)) (drop_more h), hc]
    simp [Nat.add_assoc]
/-! ### the first and the last line -/
theorem cutSp_at (ln : ByteArray) (a r : List UInt8) (h : ln.data.toList = a ++ 32 :: r) (ha : 32 ∉ a) : cutSp ln = (mkB a, mkB r) := by
  unfold cutSp Lib.cut
  have hi : Lib.index ln.data.toList [32] = (a.length : Int) := by rw [index32, h, indexByte_at _ _ _ ha]
  rw [hi, if_pos (by omega), h]
  simp
theorem firstF_head (ln : ByteArray) (n : Nat) (h : ln.data.toList = batW ++ Lib.decDigits n) (hn : n ≤ 1000) : firstF ln = some n := by
  have hc := cutSp_at ln [98, 97, 116, 99, 104] (Lib.decDigits n) (by rw [h]; rfl) (by decide)
  unfold firstF
  rw [hc]
  have hd := num_of_dec (mkB (Lib.decDigits n)) 1000 n rfl (by omega) (by omega)
  rw [if_pos ⟨rfl, by rw [hd]⟩, hd]
  rfl
theorem lastF_end (s : ByteArray) (k : Nat) (h : s.data.toList.drop k = endW) : (lastF s k).2 = 0 := by
  have h' : s.data.toList.drop k = [101, 110, 100] ++ 10 :: [] := h
  have hj := nl_of s k _ _ h' (by decide)
  have hln := nl_line s k _ _ h'
  have hsz := drop_split h' (by decide)
  simp at hsz
  unfold lastF
  rw [hj]
  simp only
  have he : s.extract k (k + ([101, 110, 100] : List UInt8).length) = endB := data_inj hln
  rw [he, if_pos rfl, if_neg (by simp; omega)]
/-! ### batches -/
theorem pack_lines (l : List It) : (packS l).data.toList.drop 0 = (batW ++ Lib.decDigits l.length) ++ 10 :: (FM.cat (l.map toT) ++ endW) := by
  rw [List.drop_zero, packS_data]
  show batW ++ (Lib.decDigits (l.map toT).length ++ 10 :: (FM.cat (l.map toT) ++ endW)) = _
  rw [List.length_map, List.append_assoc]
theorem hd_sep (n : Nat) : 10 ∉ batW ++ Lib.decDigits n := Fmt.head_nl (F := FM) n

/-- What is packed is read back. -/
theorem unpack_pack (l : List It) (h : ∀ x ∈ l, okIt x) (hl : l.length ≤ 1000) : unpackF (packS l) = (l, 0, 0) := by
  have h0 := pack_lines l
  have hj := nl_of _ 0 _ _ h0 (hd_sep _)
  have hln := nl_line _ 0 _ _ h0
  have hf := firstF_head _ _ hln hl
  have hd : (packS l).data.toList.drop (0 + (batW ++ Lib.decDigits l.length).length + 1) = FM.cat (l.map toT) ++ endW := by
    rw [← List.drop_drop, drop_more h0]; rfl
  have hr := run_cat (packS l) l _ [] _ h hd
  have he := lastF_end (packS l) _ (drop_more hd)
  unfold unpackF
  rw [hj]
  simp only [hf, hr]
  rw [if_pos he]
  simp

/-- A proper beginning of a batch's text. -/
theorem run_cut (s : ByteArray) : ∀ (l : List It) (k : Nat) (acc : List It) (t : List UInt8), (∀ x ∈ l, okIt x) → s.data.toList.drop k ++ t = FM.cat (l.map toT) ++ endW → t ≠ [] →
    runF s l.length k acc = .inr (s.size, 23) ∨ ∃ k', runF s l.length k acc = .inl (acc ++ l, k') ∧ s.data.toList.drop k' ++ t = endW
  | [], k, acc, t, _, h, _ => Or.inr ⟨k, by simp [runF], by simpa [Fmt.cat] using h⟩
  | x :: l, k, acc, t, hl, h, ht => by
    have hc : FM.cat ((x :: l).map toT) = FM.item (toT x) ++ FM.cat (l.map toT) := rfl
    rw [hc, List.append_assoc] at h
    by_cases hle : (FM.item (toT x)).length ≤ (s.data.toList.drop k).length
    · obtain ⟨z, hz1, hz2⟩ := app_longer h.symm hle
      have hr := readF_item s k x z hz1 (hl x List.mem_cons_self)
      have hz := drop_more hz1
      rcases run_cut s l (k + (FM.item (toT x)).length) (acc ++ [x]) t (fun y hy => hl y (List.mem_cons_of_mem _ hy)) (by rw [hz, hz2]) ht with h1 | ⟨k', h1, h2⟩
      · left
        show runF s (l.length + 1) k acc = _
        rw [run_ok hr, h1]
      · right
        refine ⟨k', ?_, h2⟩
        show runF s (l.length + 1) k acc = _
        rw [run_ok hr, h1]; simp
    · obtain ⟨z, hz1, hz2⟩ := app_longer h (by omega)
      left
      show runF s (l.length + 1) k acc = _
      refine run_bad (readF_cut s k x _ z rfl hz1.symm ?_ (hl x List.mem_cons_self))
      rintro rfl
      rw [List.append_nil] at hz1
      rw [← hz1] at hle
      omega

theorem unpack_cut (l : List It) (h : ∀ x ∈ l, okIt x) (hl : l.length ≤ 1000) (n : Nat) (hn : n < (packS l).size) : unpackF ((packS l).extract 0 n) = ([], n, 23) := by
  obtain ⟨s, hs⟩ : ∃ s, (packS l).extract 0 n = s := ⟨_, rfl⟩
  have hsd : s.data.toList = (packS l).data.toList.take n := by rw [← hs, extract_list, List.drop_zero, Nat.sub_zero]
  have hss : s.size = n := by rw [← data_length, hsd, List.length_take, data_length]; omega
  obtain ⟨t, ht⟩ : ∃ t, (packS l).data.toList.drop n = t := ⟨_, rfl⟩
  have htn : t ≠ [] := by
    intro h0
    have := congrArg List.length ht
    rw [List.length_drop, data_length, h0] at this
    simp at this; omega
  have hst : s.data.toList ++ t = (batW ++ Lib.decDigits l.length) ++ 10 :: (FM.cat (l.map toT) ++ endW) := by
    rw [hsd, ← ht, List.take_append_drop, ← pack_lines l, List.drop_zero]
  rw [hs]
  by_cases hle : s.data.toList.length ≤ (batW ++ Lib.decDigits l.length).length
  · obtain ⟨z, hz1, _⟩ := app_longer hst hle
    have hnl : nl s 0 = none := nl_of_none s 0 (by
      rw [List.drop_zero]
      intro hm
      exact hd_sep l.length (by rw [hz1]; exact List.mem_append_left _ hm))
    unfold unpackF
    rw [hnl, hss]
  · obtain ⟨z, hz1, hz2⟩ := app_longer hst.symm (by omega)
    cases z with
    | nil => rw [List.append_nil] at hz1; rw [hz1] at hle; omega
    | cons c z =>
      simp only [List.cons_append, List.cons.injEq] at hz2
      obtain ⟨rfl, hz2⟩ := hz2
      have h0 : s.data.toList.drop 0 = (batW ++ Lib.decDigits l.length) ++ 10 :: z := by rw [List.drop_zero, hz1]
      have hj := nl_of s 0 _ _ h0 (hd_sep _)
      have hln := nl_line s 0 _ _ h0
      have hf := firstF_head _ _ hln hl
      have hd : s.data.toList.drop (0 + (batW ++ Lib.decDigits l.length).length + 1) = z := by
        rw [← List.drop_drop, drop_more h0]; rfl
      unfold unpackF
      rw [hj]
      simp only [hf]
      rcases run_cut s l (0 + (batW ++ Lib.decDigits l.length).length + 1) [] t h (by rw [hd, hz2]) htn with h1 | ⟨k', h1, h2⟩
      · rw [h1, hss]
      · rw [h1]
        simp only [List.nil_append]
        have hlast : lastF s k' = (s.size, 23) := by
          have hn2 : nl s k' = none := nl_of_none s k' (by
            intro hm
            have h3 : s.data.toList.drop k' ++ t = [101, 110, 100] ++ [10] := h2
            have hlt : (s.data.toList.drop k').length ≤ ([101, 110, 100] : List UInt8).length := by
              have := congrArg List.length h3
              have : 0 < t.length := List.length_pos_iff.mpr htn
              simp at *; omega
            obtain ⟨y, hy, _⟩ := app_longer h3 hlt
            have : (10 : UInt8) ∈ ([101, 110, 100] : List UInt8) := by rw [hy]; exact List.mem_append_left _ hm
            revert this; decide)
          unfold lastF
          rw [hn2]
        rw [hlast, if_neg (by simp), hss]

end Go.Proofs.YtceopllngemnnaaGreatDoor


/-
  Items compared, and items out of slices in regions that draw their order: the laws. For every item.
-/
namespace Go.Proofs.YtceopllngemnnaaGreatDoor
open Go.RowKit Go.Proofs.YtceopllngemnnaaGreatDoorW.PrintWords Go.Proofs.YtceopllngemnnaaGreatDoorW.PrintLast Go.Proofs.YtceopllngemnnaaGreatDoorW.PrintMore Go.Proofs.YtceopllngemnnaaGreatDoor.PRef

theorem run_part_u8 (l : List Int) (i : Nat) (hi : i < l.length) (w : World) : (part 5 (u8s l) (i * 1)).run Tryz.prog w = .ok (.int .u8 l[i]) w := by
  have hc : (u8s l)[i]? = some (.int .u8 l[i]) := by
    simp [u8s, nums, hi]
  have ha : (isAgg 5).run Tryz.prog w = .ok false w := by
    unfold isAgg
    rw [Sem.run_bind, run_underlying Tryz.underlying5 w]
    simp
  simp [part, Sem.run_bind, ha, hc]
theorem run_items_u8 (d : Nat) (a b : List Int) (hab : a.length = b.length) (w : World) : ∀ is : List Nat, (∀ i ∈ is, i < a.length) →
    (Op.eqItems (d + 1) 5 1 (u8s a) (u8s b) is).run Tryz.prog w = .ok (is.all fun i => rd a i == rd b i) w
  | [], _ => by simp [Op.eqItems]
  | i :: is, h => by
    have hi := h i List.mem_cons_self
    have ih := run_items_u8 d a b hab w is (fun j hj => h j (List.mem_cons_of_mem _ hj))
    have e1 : rd a i = a[i] := by simp [rd, List.getD_eq_getElem?_getD, hi]
    have e2 : rd b i = b[i]'(by omega) := by simp [rd, List.getD_eq_getElem?_getD, show i < b.length by omega]
    have he : (Op.equalIn (d + 1) 5 (.int .u8 a[i]) (.int .u8 (b[i]'(by omega)))).run Tryz.prog w = .ok (a[i] == b[i]'(by omega)) w := by
      simp [Op.equalIn, Sem.run_bind, run_underlying Tryz.underlying5]
    simp only [Op.eqItems, Sem.run_bind, run_part_u8 a i hi w, run_part_u8 b i (by omega) w, Result.andThen_ok, he, List.all_cons, e1, e2]
    cases hq : (a[i] == b[i]'(by omega))
    · simp
    · simpa using ih
theorem all_rd (a b : List Int) (hab : a.length = b.length) : ((List.range a.length).all fun i => rd a i == rd b i) = decide (a = b) := by
  by_cases h : a = b
  · subst h; simp
  · rw [decide_eq_false h]
    rw [List.all_eq_false]
    refine Classical.byContradiction fun hn => h ?_
    apply List.ext_getElem hab
    intro i h1 h2
    refine Classical.byContradiction fun hne => hn ⟨i, List.mem_range.mpr h1, ?_⟩
    have e1 : rd a i = a[i] := by simp [rd, List.getD_eq_getElem?_getD, h1]
    have e2 : rd b i = b[i] := by simp [rd, List.getD_eq_getElem?_getD, h2]
    rw [e1, e2]
    simpa using hne
theorem cells5 : Tryz.prog.cellsOf 5 = 1 := by kernel_rfl
theorem run_eq_id (d : Nat) {t : TypeId} (hu : Tryz.prog.underlying t = some (.array 32 5)) (a b : List Int) (ha : a.length = 32) (hb : b.length = 32) (w : World) :
    (Op.equalIn (d + 2) t (.agg (u8s a)) (.agg (u8s b))).run Tryz.prog w = .ok (decide (a = b)) w := by
  obtain ⟨i, hi, _⟩ := Option.map_eq_some_iff.1 info5
  rw [run_equalIn_array w (d + 1) (u8s a) (u8s b) hu hi, cells5, ← ha, run_items_u8 d a b (by omega) w (List.range a.length) (fun i hi => List.mem_range.mp hi), all_rd a b (by omega)]

theorem itV_extract {x : It} (h : okId x.1) : (itV x).extract 0 (0 + 32) = u8s x.1 := by
  apply Array.ext_getElem?
  intro j
  rw [Array.getElem?_extract]
  by_cases hj : j < 32
  · rw [if_pos (by rw [itV_size h]; omega), Nat.zero_add, itV_id h j hj]
  · rw [if_neg (by rw [itV_size h]; omega), Array.getElem?_eq_none (by rw [u8s_size, h.1]; omega)]
theorem run_part_id {t : TypeId} (hu : Tryz.prog.underlying t = some (.array 32 5)) (hi : (Tryz.prog.info? t).map (·.size) = some 32) {x : It} (h : okId x.1) (w : World) : (part t (itV x) 0).run Tryz.prog w = .ok (.agg (u8s x.1)) w := by
  obtain ⟨i, hi, hs⟩ := Option.map_eq_some_iff.1 hi
  have ha : (isAgg t).run Tryz.prog w = .ok true w := by
    unfold isAgg
    rw [Sem.run_bind, run_underlying hu w]
    simp
  simp only [part, Sem.run_bind, ha, Result.andThen_ok, if_true]
  rw [show (sizeOf t).run Tryz.prog w = .ok 32 w by simp [sizeOf, typeInfo, hi, hs]]
  simp only [Result.andThen_ok, Sem.run_pure, itV_extract h]
theorem run_part_str {x : It} (h : okId x.1) (w : World) : (part 9 (itV x) 32).run Tryz.prog w = .ok (.string x.2) w := by
  have ha : (isAgg 9).run Tryz.prog w = .ok false w := by
    unfold isAgg
    rw [Sem.run_bind, run_underlying Tryz.underlying9 w]
    simp
  simp [part, Sem.run_bind, ha, itV_str h]
theorem decide_it (x y : It) : (decide (x.1 = y.1) && (x.2 == y.2)) = decide (x = y) := by
  have hq : (x.2 == y.2) = true ↔ x.2 = y.2 := by
    rw [beq_toListBytes, beq_iff_eq, ByteArray.toList_eq, ByteArray.toList_eq]
    exact ⟨data_inj, fun h => by rw [h]⟩
  rw [Bool.eq_iff_iff, Bool.and_eq_true, hq]
  simp [Prod.ext_iff]
theorem run_eq_item {t ti : TypeId} {f0 f1 : Field} (hs : Tryz.prog.underlying t = some (.struct #[f0, f1])) (hst : Tryz.prog.stoodInHeld t = false) (h0 : f0.name ≠ "_") (h1 : f1.name ≠ "_") (t0 : f0.type = ti) (o0 : f0.offset = 0) (t1 : f1.type = 9) (o1 : f1.offset = 32)
    (hu : Tryz.prog.underlying ti = some (.array 32 5)) (hi : (Tryz.prog.info? ti).map (·.size) = some 32) (d : Nat) (x y : It) (hx : okId x.1) (hy : okId y.1) (w : World) :
    (Op.equalIn (d + 3) t (.agg (itV x)) (.agg (itV y))).run Tryz.prog w = .ok (decide (x = y)) w := by
  have hf : Tryz.prog.fieldsOf t = #[f0, f1] := by simp [Program.fieldsOf, hs]
  rw [run_equalIn_struct (P := Tryz.prog) w (d + 2) t (itV x) (itV y) (by rw [hf]; exact hs) hst, hf]
  have e9 : (Op.equalIn (d + 2) 9 (.string x.2) (.string y.2)).run Tryz.prog w = .ok (x.2 == y.2) w := by
    simp [Op.equalIn, Sem.run_bind, run_underlying Tryz.underlying9]
  simp only [Op.eqFields, t0, o0, t1, o1, Sem.run_bind, run_part_id hu hi hx w, run_part_id hu hi hy w, run_part_str hx w, run_part_str hy w, run_eq_id d hu x.1 y.1 hx.1 hy.1 w, e9, Result.andThen_ok]
  rw [if_pos h0]
  simp only [Sem.run_bind, run_part_id hu hi hx w, run_part_id hu hi hy w, Result.andThen_ok, run_eq_id d hu x.1 y.1 hx.1 hy.1 w, ← decide_it x y]
  cases decide (x.1 = y.1)
  · simp
  · simp only [Bool.not_true, Bool.false_eq_true, if_false, Bool.true_and]
    rw [if_pos h1]
    simp only [Sem.run_bind, run_part_str hx w, run_part_str hy w, Result.andThen_ok, e9]
    cases x.2 == y.2 <;> simp
theorem run_eq39 (x y : It) (hx : okId x.1) (hy : okId y.1) (w : World) : (Op.equal 39 (.agg (itV x)) (.agg (itV y))).run Tryz.prog w = .ok (decide (x = y)) w :=
  run_eq_item Tryz.underlying39 Tryz.stoodInHeld39 (by decide) (by decide) rfl rfl rfl rfl Tryz.underlying37 size37 9997 x y hx hy w
theorem run_eq36 (x y : It) (hx : okId x.1) (hy : okId y.1) (w : World) : (Op.equal 36 (.agg (itV x)) (.agg (itV y))).run Tryz.prog w = .ok (decide (x = y)) w :=
  run_eq_item Tryz.underlying36 Tryz.stoodInHeld36 (by decide) (by decide) rfl rfl rfl rfl Tryz.underlying34 size34 9997 x y hx hy w

theorem exec_eql {o : Oper} {a : Act} {t t2 : TypeId} {u v : Operand} {x y : It} (ho : o.op = .binOp .eql t u v t2) (hu : a.eval u = .agg (itV x)) (hv : a.eval v = .agg (itV y)) (hg : Tryz.prog.eqGuardType Tryz.prog.depth t = false) (he : ∀ w, (Op.equal t (.agg (itV x)) (.agg (itV y))).run Tryz.prog w = .ok (decide (x = y)) w) (w : World) :
    (execOp a.eval o).run Tryz.prog w = .ok (.value (.bool (decide (x = y)))) w := by
  have e : ∀ av yv : Value, av = .agg (itV x) → yv = .agg (itV y) → ((do let r ← (do eqGuard .eql t u v av yv; binOp .eql t av yv); pure (Next.value r)) : Sem Next).run Tryz.prog w = .ok (.value (.bool (decide (x = y)))) w := by
    rintro _ _ rfl rfl
    simp [eqGuard, binOp, Sem.run_bind, hg, he w]
  have := e _ _ hu hv
  simpa only [execOp, ho] using this
theorem exec_neq {o : Oper} {a : Act} {t t2 : TypeId} {u v : Operand} {x y : It} (ho : o.op = .binOp .neq t u v t2) (hu : a.eval u = .agg (itV x)) (hv : a.eval v = .agg (itV y)) (hg : Tryz.prog.eqGuardType Tryz.prog.depth t = false) (he : ∀ w, (Op.equal t (.agg (itV x)) (.agg (itV y))).run Tryz.prog w = .ok (decide (x = y)) w) (w : World) :
    (execOp a.eval o).run Tryz.prog w = .ok (.value (.bool (!decide (x = y)))) w := by
  have e : ∀ av yv : Value, av = .agg (itV x) → yv = .agg (itV y) → ((do let r ← (do eqGuard .neq t u v av yv; binOp .neq t av yv); pure (Next.value r)) : Sem Next).run Tryz.prog w = .ok (.value (.bool (!decide (x = y)))) w := by
    rintro _ _ rfl rfl
    simp [eqGuard, binOp, Sem.run_bind, hg, he w]
  have := e _ _ hu hv
  simpa only [execOp, ho] using this

/-- An item at an address. -/
def ItAt (w : World) (a : Addr) (x : It) : Prop := ∀ (j : Nat) v, (itV x)[j]? = some v → w.cell? (a.add j) = some v
theorem ItAt.below {w w' : World} {a : Addr} {x : It} (h : ItAt w a x) (hb : Below w.heap.size w w') : ItAt w' a x := fun j v hv => pw_cell_below hb (h j v hv)
theorem ItAt.str {w : World} {a : Addr} {x : It} (h : ItAt w a x) (hx : okId x.1) : w.cell? ⟨a.block, a.off + 32, none⟩ = some (.string x.2) := by
  have := h 32 _ (itV_str hx)
  unfold Addr.add at this
  simpa using this
section
variable {P : Program} {ops : Array Oper} {o : Oper} {a : Act} {Q : Exit → Act → World → Prop} {Kc : Act → World → Prop} {S : World → Prop}
theorem yields_at_id {ty : Nat} {x : It} {d : TypeDesc} {ad : Addr} (hw : Region.wanted o (yielded ops a.tmps) = true) {p : Tmp} (ho : o.op = .load ty (.tmp p)) (haddr : a.eval (.tmp p) = .pointer (some ad)) (hS : ∀ w, S w → ItAt w ad x) (hx : okId x.1)
    (hu : P.underlying ty = some d) (hd : d.isRow = true) (hi : (P.info? ty).map (·.size) = some 32) : YieldsIf P ops S o (.agg (u8s x.1)) a :=
  .inl ⟨hw, fun w hS' => exec_load ho haddr (run_load_cells hu hd (by rw [u8s_size, hx.1]; exact hi) (fun j v hv => hS w hS' j v (it_head hx j v hv)))⟩
theorem yields_at {ty : Nat} {x : It} {d : TypeDesc} {ad : Addr} (hw : Region.wanted o (yielded ops a.tmps) = true) {p : Tmp} (ho : o.op = .load ty (.tmp p)) (haddr : a.eval (.tmp p) = .pointer (some ad)) (hS : ∀ w, S w → ItAt w ad x) (hx : okId x.1)
    (hu : P.underlying ty = some d) (hd : d.isRow = true) (hi : (P.info? ty).map (·.size) = some 33) : YieldsIf P ops S o (.agg (itV x)) a :=
  .inl ⟨hw, fun w hS' => exec_load ho haddr (run_load_cells hu hd (by rw [itV_size hx]; exact hi) (hS w hS'))⟩
theorem slice_one_step {W : World} {t e : Nat} {x : Operand} {cs : Array Value} {zs : Array Value} {n : Nat} (hw : Region.wanted o (yielded ops a.tmps) = true) (ho : o.op = .buildSlice t 1 #[(0, x)]) (hx : a.eval x = .agg cs) (hu : P.underlying t = some (.slice e))
    (hz : (P.info? e).map (fun i => (i.zero, i.size)) = some (some (.agg zs), n)) (hzn : zs.size = n) (hcn : cs.size = n) (h0 : 0 < n) (h24 : n ≤ 16777216)
    (hk : ∀ g w1, g = W.heap.size → Blk w1 g cs e → Below W.heap.size W w1 → Kc (a.put o.dst (.slice (some ⟨g, 0, none⟩) 1 1)) w1) : if Region.wanted o (yielded ops a.tmps) = true then Oper.wp P o a W Kc Q else Kc (a.put o.dst undef) W := by
  obtain ⟨i, hi, hzz⟩ := Option.map_eq_some_iff.1 hz
  simp only [Prod.mk.injEq] at hzz
  obtain ⟨hz0, hz1⟩ := hzz
  rw [if_pos hw]
  refine wp_buildSlice t e 1 _ ho cs i (.agg zs) hu hi hz0 (by omega) (by omega) ?_ (hk _ _ rfl (blk_new W _) (below_alloc (Below.refl _ _) _))
  rw [hz1]
  have : (#[(0, x)].map fun (p : Nat × Operand) => (p.1, a.eval p.2)).toList = [(0, .agg cs)] := by simp [hx]
  rw [this]
  refine fill_one cs _ n hcn ?_
  simp
end
theorem info36 : (Tryz.prog.info? 36).map (fun i => (i.zero, i.size, i.bytes)) = some (some (.agg (itV zIt)), 33, 48) := by kernel_rfl

end Go.Proofs.YtceopllngemnnaaGreatDoor


/-
  to of the statements on batches, and Text of the document's answer: what they return. For every list of items.
-/
namespace Go.Proofs.YtceopllngemnnaaGreatDoor
open Go.RowKit Go.Proofs.YtceopllngemnnaaGreatDoorW.PrintWords Go.Proofs.YtceopllngemnnaaGreatDoorW.PrintLast Go.Proofs.YtceopllngemnnaaGreatDoorW.PrintMore Go.Proofs.YtceopllngemnnaaGreatDoor.PRef
attribute [local go_sem] max2_int min2_int max_two min_two

/-! Region tables, printed by rg2.py. -/
def r12_5.T : Bool × List (List Nat × List Nat) := (true, [([], []), ([], []), ([], []), ([1, 2], [1, 2]), ([3], [3]), ([4], [4]), ([], []), ([], []), ([6, 7], [6, 7]), ([8], [8]), ([9], [9]), ([], []), ([], []), ([11, 12], [11, 12]), ([13], [13]), ([14], [14]), ([15], [15]), ([16], [16]), ([10, 17], [10, 17]), ([5, 18], [5, 18]), ([19], [19]), ([0, 20], [0, 20]), ([21, 21, 0, 1, 2, 3, 4, 5, 6, 7, 8, 9, 10, 11, 12, 13, 14, 15, 16, 17, 18, 19, 20, 21], [0, 21])])
def r12_5.B : List Nat := [0, 0, 0, 6, 14, 30, 0, 0, 192, 448, 960, 0, 0, 6144, 14336, 30720, 63488, 129024, 262080, 524286, 1048574, 2097151, 4194303]
theorem r12_5.tab : rtab .any (opsOf Tryz.f12 5) = r12_5.T := by kernel_rfl
theorem r12_5.bits : waitsOk r12_5.T.2 r12_5.B = true := by kernel_rfl

/-- At most 400 bytes of a text. -/
def cutIt (x : It) : It := (x.1, x.2.extract 0 (min x.2.size 400))
/-- At most ten items of at most 400 bytes. -/
def toL (l : List It) : List It := (l.take 10).map cutIt
theorem toL_le (l : List It) : (toL l).length ≤ 10 := by simp [toL]; omega
theorem cutIt_size (x : It) : (cutIt x).2.size ≤ 400 := by
  show (x.2.extract 0 _).size ≤ _
  rw [← data_length, extract_list, List.length_take]; omega
theorem toL_ok (l : List It) (h : ∀ x ∈ l, okId x.1) : ∀ x ∈ toL l, okIt x := by
  intro x hx
  obtain ⟨y, hy, rfl⟩ := List.mem_map.mp hx
  exact ⟨h y (List.mem_of_mem_take hy), by have := cutIt_size y; omega⟩
theorem toL_step (l : List It) (k : Nat) (x : It) (hk : k < 10) (h : l[k]? = some x) : ((l.take (k + 1)).map cutIt) = (l.take k).map cutIt ++ [cutIt x] := by
  rw [List.take_add_one, h]; simp

set_option maxHeartbeats 8000000 in
set_option maxRecDepth 100000 in
theorem to_any (A : Option Addr) (n c : Nat) (l : List It) (W : World) (hC : Kit.C W A n l) (hn : n ≤ 9223372036854775807) :
    Calls Tryz.prog 12 #[.slice A n c] W fun r w' => ∃ v, r = .returned v ∧ Kit.R 36 w' W.heap.size (fun _ => True) v (toL l) ∧ Below W.heap.size W w' := by
  have hlen : l.length = n := hC.1
  have HL := Aside0.mk hlen
  have HC := Aside0.mk hC
  clear hC hlen
  go_enter Tryz.func12, Tryz.ntmps12
  go_wp2_with fail
  go_loopg [3, 4] 10 (fun gf x3 x4 wx => ∃ (k : Nat) (acc : List It), k ≤ 10 ∧ k ≤ n ∧ x4 = .int .i64 k ∧ Hid (10 ≤ k + gf) ∧ Aside0 (acc = (l.take k).map cutIt) ∧ Aside0 (Kit.R 36 wx W.heap.size (fun _ => True) x3 acc) ∧ Aside0 (Below W.heap.size W wx))
  case atStart => exact ⟨0, [], Nat.zero_le _, Nat.zero_le _, rfl, by unfold Hid; omega, ⟨rfl⟩, ⟨Kd.R_nil _ _ _ _ _⟩, ⟨Below.refl _ _⟩⟩
  case round =>
    obtain ⟨k, acc, hk, hkn, rfl, HG, HA, HR, HB⟩ := hrel
    by_cases hlt : k < n ∧ k < 10
    · obtain ⟨hlt, hlt10⟩ := hlt
      obtain ⟨ad, x, hA, hx, hok, hcell⟩ := Kit.at_ HC.out k hlt
      subst hA
      have HIT := Aside0.mk (show ItAt W (ad.add (k * 33)) x from hcell)
      have HX := Aside0.mk hok
      obtain ⟨m, hm⟩ : ∃ m, min x.2.size 400 = m := ⟨_, rfl⟩
      obtain ⟨tx, htx⟩ : ∃ tx, x.2.extract 0 m = tx := ⟨_, rfl⟩
      have HST := Aside0.mk (toL_step l k x hlt10 hx)
      have HCU := Aside0.mk (show cutIt x = (x.1, tx) by unfold cutIt; rw [hm, htx])
      have HAL := Aside0.mk (show acc.length ≤ 10 by rw [HA.out]; simp; omega)
      have hmI : (if 400 < (x.2.size : Int) then 400 else (x.2.size : Int)) = (m : Int) := by split <;> omega
      have q1 : (m : Int) ≤ (x.2.size : Int) := by omega
      have q0 : (0 : Int) ≤ (m : Int) := by omega
      have k0 : (0 : Int) ≤ (k : Int) := by omega
      have k1 : (k : Int) < (n : Int) := by omega
      obtain ⟨A3, c3, rfl⟩ := Kd.R_slice HR.out
      obtain ⟨x3, hx3⟩ : ∃ x3, Value.slice A3 acc.length c3 = x3 := ⟨_, rfl⟩
      have HR2 := HR
      rw [hx3] at HR
      have HX3 := Aside0.mk hx3
      clear hok hcell hx hm HR2
      rw [hx3]
      clear hx3
      go_wp2_with fail
      refine start_ (n := 23) (S := fun w' => Kit.R 36 w' W.heap.size (fun _ => True) x3 acc ∧ Below W.heap.size W w') (ds := [21]) #[false, false, false, false, false, false, false, false, false, false, false, false, false, false, false, false, false, false, false, false, false, false, false] (by kernel_rfl) rfl rfl ⟨Kd.R_drew HR.out, below_drew HB.out⟩ (fun hHeld => ?_)
      refine with_tabW r12_5.tab r12_5.bits (fun HT_ HW_ => ?_)
      generalize wr.drew = wd at hHeld ⊢
      have HH := Aside0.mk hHeld
      clear hHeld
      refine pure_ (i := 0) (N := some 15) (v := ?_) (a' := ?_) #[true, false, false, false, false, false, false, false, false, false, false, false, false, false, false, false, false, false, false, false, false, false, false] rfl rfl (any_of HT_.out (by kernel_rfl)) (fun _ _ _ h => h) (Or.inl ⟨by rfl, ?_⟩) ?_ ?_
      rotate_left
      · intro w'
        go_simp
        with_reducible rfl
      rotate_left
      · simp only [Act.put, List.setIfInBounds_toArray, List.set_cons_zero, List.set_cons_succ, i64_w, i32_w]
        rfl
      refine pure_ (i := 1) (N := some 16) (v := ?_) (a' := ?_) #[true, true, false, false, false, false, false, false, false, false, false, false, false, false, false, false, false, false, false, false, false, false, false] rfl rfl (any_of HT_.out (by kernel_rfl)) (fun _ _ _ h => h) (Or.inl ⟨by rfl, ?_⟩) ?_ ?_
      rotate_left
      · intro w'
        go_simp
        with_reducible rfl
      rotate_left
      · simp only [Act.put, List.setIfInBounds_toArray, List.set_cons_zero, List.set_cons_succ, i64_w, i32_w]
        rfl
      refine pure_ (i := 2) (N := some 17) (v := ?_) (a' := ?_) #[true, true, true, false, false, false, false, false, false, false, false, false, false, false, false, false, false, false, false, false, false, false, false] rfl rfl (any_of HT_.out (by kernel_rfl)) (fun _ _ _ h => h) (Or.inl ⟨by rfl, ?_⟩) ?_ ?_
      rotate_left
      · intro w'
        go_simp
        with_reducible rfl
      rotate_left
      · simp only [Act.put, List.setIfInBounds_toArray, List.set_cons_zero, List.set_cons_succ, i64_w, i32_w]
        rfl
      refine pure_ (i := 3) (N := some 18) (v := ?_) (a' := ?_) #[true, true, true, true, false, false, false, false, false, false, false, false, false, false, false, false, false, false, false, false, false, false, false] rfl rfl (any_of HT_.out (by kernel_rfl)) (fun _ _ _ h => h) (Or.inl ⟨by rfl, ?_⟩) ?_ ?_
      rotate_left
      · intro w'
        go_simp
        with_reducible rfl
      rotate_left
      · simp only [Act.put, List.setIfInBounds_toArray, List.set_cons_zero, List.set_cons_succ, i64_w, i32_w]
        rfl
      refine pure_ (i := 4) (N := some 19) (v := ?_) (a' := ?_) #[true, true, true, true, true, false, false, false, false, false, false, false, false, false, false, false, false, false, false, false, false, false, false] rfl rfl (any_of HT_.out (by kernel_rfl)) (fun _ _ _ h => h) (Or.inl ⟨by rfl, ?_⟩) ?_ ?_
      rotate_left
      · intro w'
        go_simp
        with_reducible rfl
      rotate_left
      · simp only [Act.put, List.setIfInBounds_toArray, List.set_cons_zero, List.set_cons_succ, i64_w, i32_w]
        rfl
      refine pure_ (i := 6) (N := some 21) (v := ?_) (a' := ?_) #[true, true, true, true, true, false, true, false, false, false, false, false, false, false, false, false, false, false, false, false, false, false, false] rfl rfl (any_of HT_.out (by kernel_rfl)) (fun _ _ _ h => h) (Or.inl ⟨by rfl, ?_⟩) ?_ ?_
      rotate_left
      · intro w'
        go_simp
        with_reducible rfl
      rotate_left
      · simp only [Act.put, List.setIfInBounds_toArray, List.set_cons_zero, List.set_cons_succ, i64_w, i32_w]
        rfl
      refine pure_ (i := 7) (N := some 22) (v := ?_) (a' := ?_) #[true, true, true, true, true, false, true, true, false, false, false, false, false, false, false, false, false, false, false, false, false, false, false] rfl rfl (any_of HT_.out (by kernel_rfl)) (fun _ _ _ h => h) (Or.inl ⟨by rfl, ?_⟩) ?_ ?_
      rotate_left
      · intro w'
        go_simp
        with_reducible rfl
      rotate_left
      · simp only [Act.put, List.setIfInBounds_toArray, List.set_cons_zero, List.set_cons_succ, i64_w, i32_w]
        rfl
      refine pure_ (i := 8) (N := some 23) (v := ?_) (a' := ?_) #[true, true, true, true, true, false, true, true, true, false, false, false, false, false, false, false, false, false, false, false, false, false, false] rfl rfl (any_of HT_.out (by kernel_rfl)) (fun _ _ _ h => h) (Or.inl ⟨by rfl, ?_⟩) ?_ ?_
      rotate_left
      · intro w'
        go_simp
        with_reducible rfl
      rotate_left
      · simp only [Act.put, List.setIfInBounds_toArray, List.set_cons_zero, List.set_cons_succ, i64_w, i32_w]
        rfl
      refine pure_ (i := 9) (N := some 24) (v := ?_) (a' := ?_) #[true, true, true, true, true, false, true, true, true, true, false, false, false, false, false, false, false, false, false, false, false, false, false] rfl rfl (any_of HT_.out (by kernel_rfl)) (fun _ _ _ h => h) (Or.inl ⟨by rfl, ?_⟩) ?_ ?_
      rotate_left
      · intro w'
        go_simp
        with_reducible rfl
      rotate_left
      · simp only [Act.put, List.setIfInBounds_toArray, List.set_cons_zero, List.set_cons_succ, i64_w, i32_w]
        rfl
      refine pure_ (i := 11) (N := some 26) (v := ?_) (a' := ?_) #[true, true, true, true, true, false, true, true, true, true, false, true, false, false, false, false, false, false, false, false, false, false, false] rfl rfl (any_of HT_.out (by kernel_rfl)) (fun _ _ _ h => h) (Or.inl ⟨by rfl, ?_⟩) ?_ ?_
      rotate_left
      · intro w'
        go_simp
        with_reducible rfl
      rotate_left
      · simp only [Act.put, List.setIfInBounds_toArray, List.set_cons_zero, List.set_cons_succ, i64_w, i32_w]
        rfl
      refine pure_ (i := 12) (N := some 27) (v := ?_) (a' := ?_) #[true, true, true, true, true, false, true, true, true, true, false, true, true, false, false, false, false, false, false, false, false, false, false] rfl rfl (any_of HT_.out (by kernel_rfl)) (fun _ _ _ h => h) (Or.inl ⟨by rfl, ?_⟩) ?_ ?_
      rotate_left
      · intro w'
        go_simp
        with_reducible rfl
      rotate_left
      · simp only [Act.put, List.setIfInBounds_toArray, List.set_cons_zero, List.set_cons_succ, i64_w, i32_w]
        rfl
      refine pure_ (i := 13) (N := some 28) (v := ?_) (a' := ?_) #[true, true, true, true, true, false, true, true, true, true, false, true, true, true, false, false, false, false, false, false, false, false, false] rfl rfl (any_of HT_.out (by kernel_rfl)) (fun _ _ _ h => h) (Or.inl ⟨by rfl, ?_⟩) ?_ ?_
      rotate_left
      · intro w'
        go_simp
        with_reducible rfl
      rotate_left
      · simp only [Act.put, List.setIfInBounds_toArray, List.set_cons_zero, List.set_cons_succ, i64_w, i32_w]
        rfl
      refine pure_ (i := 14) (N := some 29) (v := ?_) (a' := ?_) #[true, true, true, true, true, false, true, true, true, true, false, true, true, true, true, false, false, false, false, false, false, false, false] rfl rfl (any_of HT_.out (by kernel_rfl)) (fun _ _ _ h => h) (Or.inl ⟨by rfl, ?_⟩) ?_ ?_
      rotate_left
      · intro w'
        go_simp
        with_reducible rfl
      rotate_left
      · simp only [Act.put, List.setIfInBounds_toArray, List.set_cons_zero, List.set_cons_succ, i64_w, i32_w]
        rfl
      refine take_ (i := 5) (N := some 20) (v := .agg (u8s x.1)) (a' := ?_) #[true, true, true, true, true, true, true, true, true, true, false, true, true, true, true, false, false, false, false, false, false, false, false] rfl rfl (take_ofW HT_.out HW_.out (by kernel_rfl)) (fun _ _ _ h => h) ?_ HH.out ?_ ?_
      · exact yields_at_id (by rfl) rfl rfl (fun w h => HIT.out.below h.2) HX.out Tryz.underlying37 rfl size37
      rotate_left
      · simp only [Act.put, List.setIfInBounds_toArray, List.set_cons_zero, List.set_cons_succ, i64_w, i32_w]
        rfl
      refine take_ (i := 10) (N := some 25) (v := ?_) (a' := ?_) #[true, true, true, true, true, true, true, true, true, true, true, true, true, true, true, false, false, false, false, false, false, false, false] rfl rfl (take_ofW HT_.out HW_.out (by kernel_rfl)) (fun _ _ _ h => h) (Or.inl ⟨by rfl, ?_⟩) HH.out ?_ ?_
      rotate_left
      · intro w' hS'
        have hit := (HIT.out.below hS'.2).str HX.out
        go_simp
        with_reducible rfl
      rotate_left
      · simp only [Act.put, List.setIfInBounds_toArray, List.set_cons_zero, List.set_cons_succ, i64_w, i32_w]
        rfl
      refine take_ (i := 15) (N := some 30) (v := ?_) (a' := ?_) #[true, true, true, true, true, true, true, true, true, true, true, true, true, true, true, true, false, false, false, false, false, false, false] rfl rfl (take_ofW HT_.out HW_.out (by kernel_rfl)) (fun _ _ _ h => h) (Or.inl ⟨by rfl, ?_⟩) HH.out ?_ ?_
      rotate_left
      · intro w' hS'
        have hit := (HIT.out.below hS'.2).str HX.out
        go_simp
        with_reducible rfl
      rotate_left
      · simp only [Act.put, List.setIfInBounds_toArray, List.set_cons_zero, List.set_cons_succ, i64_w, i32_w]
        rfl
      refine pure_ (i := 16) (N := some 31) (v := ?_) (a' := ?_) #[true, true, true, true, true, true, true, true, true, true, true, true, true, true, true, true, true, false, false, false, false, false, false] rfl rfl (any_of HT_.out (by kernel_rfl)) (fun _ _ _ h => h) (Or.inl ⟨by rfl, ?_⟩) ?_ ?_
      rotate_left
      · intro w'
        go_simp
        with_reducible rfl
      rotate_left
      · simp only [Act.put, List.setIfInBounds_toArray, List.set_cons_zero, List.set_cons_succ, i64_w, i32_w]
        rfl
      refine pure_ (i := 17) (N := some 32) (v := ?_) (a' := ?_) #[true, true, true, true, true, true, true, true, true, true, true, true, true, true, true, true, true, true, false, false, false, false, false] rfl rfl (any_of HT_.out (by kernel_rfl)) (fun _ _ _ h => h) (Or.inl ⟨by rfl, ?_⟩) ?_ ?_
      rotate_left
      · intro w'
        go_simp
        with_reducible rfl
      rotate_left
      · simp only [Act.put, List.setIfInBounds_toArray, List.set_cons_zero, List.set_cons_succ, i64_w, i32_w]
        rfl
      refine pure_ (i := 18) (N := some 33) (v := ?_) (a' := ?_) #[true, true, true, true, true, true, true, true, true, true, true, true, true, true, true, true, true, true, true, false, false, false, false] rfl rfl (any_of HT_.out (by kernel_rfl)) (fun _ _ _ h => h) (Or.inl ⟨by rfl, ?_⟩) ?_ ?_
      rotate_left
      · intro w'
        go_simp
        with_reducible rfl
      rotate_left
      · simp only [Act.put, List.setIfInBounds_toArray, List.set_cons_zero, List.set_cons_succ, i64_w, i32_w]
        rfl
      refine pure_ (i := 19) (N := some 34) (v := ?_) (a' := ?_) #[true, true, true, true, true, true, true, true, true, true, true, true, true, true, true, true, true, true, true, true, false, false, false] rfl rfl (any_of HT_.out (by kernel_rfl)) (fun _ _ _ h => h) (Or.inl ⟨by rfl, ?_⟩) ?_ ?_
      rotate_left
      · intro w'
        refine (exec_item rfl rfl rfl (built36 _ tx (by rw [u8s_size]; exact HX.out.1)) w').trans ?_
        with_reducible rfl
      rotate_left
      · simp only [Act.put, List.setIfInBounds_toArray, List.set_cons_zero, List.set_cons_succ, i64_w, i32_w]
        rfl
      refine one_ (i := 20) (N := some 35) #[true, true, true, true, true, true, true, true, true, true, true, true, true, true, true, true, true, true, true, true, true, false, false] rfl rfl (one_of HT_.out (by kernel_rfl)) (by decide) (fun K hK => ?_)
      refine slice_one_step (by rfl) rfl rfl Tryz.underlying24 zero36 (itV_size okId_z) (itV_size (x := (x.1, tx)) HX.out) (by omega) (by omega) ?_
      intro g31 w' hg31 hz hb
      refine hK.out _ _ ⟨Kd.R_below HH.out.1 hb, below_step HH.out.2 hb⟩ (fun hHeld => ?_)
      have HY := Aside0.mk (Kit.of_blk (x := (x.1, tx)) hz HX.out)
      clear hz hg31
      have HH2 := Aside0.mk hHeld
      clear hHeld HH
      have HH := HH2
      clear HH2
      try clear hb
      try clear hK K
      refine norm_ (a' := ?_) ?_ ?_
      rotate_left
      · show Act.put _ (some 35) _ = _
        simp only [Act.put, List.setIfInBounds_toArray, List.set_cons_zero, List.set_cons_succ, i64_w, i32_w]
        rfl
      refine last_ (i := 21) (N := some 36) #[true, true, true, true, true, true, true, true, true, true, true, true, true, true, true, true, true, true, true, true, true, true, false] rfl rfl (one_of HT_.out (by kernel_rfl)) (by decide) (fun K hK => ?_)
      refine Kd.R_append_rows_step Kit (Rr := Kit.K wd) (w0 := W) W.heap.size (by rfl) (.tmp 15) (.tmp 35) 24 36 (.agg (itV zIt)) 48 rfl Tryz.underlying24 info36 (itV_size okId_z) (by decide) (by omega) x3 acc [(x.1, tx)] (some ⟨g31, 0, none⟩) 1 1 (fun _ => True) (fun _ => False) rfl rfl ?aO ?aR (fun _ _ h => h) (fun _ h => h.elim) ?aF ?aB ?aS ?aL ?_
      case aR => exact HY.out
      case aB => exact HH.out.2
      case aF => exact fun _ _ => trivial
      case aO => exact HH.out.1
      case aS => exact HH.out.2.size
      case aL => have := HAL.out; have hll : ([(x.1, tx)] : List It).length = 1 := rfl; omega
      intro v6 w6 ho hb6 _ _
      refine hK.out _ _ ?_
      have R6 := Aside0.mk ho
      have B6 := Aside0.mk hb6
      clear ho hb6
      try clear hK K
      refine norm_ (a' := ?_) ?_ ?_
      rotate_left
      · show Act.put _ (some 36) _ = _
        simp only [Act.put, List.setIfInBounds_toArray, List.set_cons_zero, List.set_cons_succ, i64_w, i32_w]
        rfl
      refine pure_ (i := 22) (N := some 3) (v := ?_) (a' := ?_) #[true, true, true, true, true, true, true, true, true, true, true, true, true, true, true, true, true, true, true, true, true, true, true] rfl rfl (any_of HT_.out (by kernel_rfl)) (fun _ _ _ h => h) (Or.inl ⟨by rfl, ?_⟩) ?_ ?_
      rotate_left
      · intro w'
        go_simp
        with_reducible rfl
      rotate_left
      · simp only [Act.put, List.setIfInBounds_toArray, List.set_cons_zero, List.set_cons_succ, i64_w, i32_w]
        rfl
      refine done_ (done_of HT_.out (by kernel_rfl)) ?_
      go_wp2_with fail
      go_roundg (gk - 1)
      case measure => have := HG.out; omega
      case rel => exact ⟨k + 1, acc ++ [(x.1, tx)], by omega, by omega, by go_num, by have := HG.out; unfold Hid; omega, ⟨by rw [HST.out, HCU.out, ← HA.out]⟩, R6, B6⟩
    · have hfin : acc = toL l := by
        rw [HA.out]
        unfold toL
        by_cases h : k < 10
        · have : k = n := by omega
          subst this
          rw [List.take_of_length_le (by rw [HL.out]; exact Nat.le_refl _), List.take_of_length_le (by rw [HL.out]; omega)]
        · have : k = 10 := by omega
          subst this; rfl
      have HF := Aside0.mk hfin
      obtain ⟨A3, c3, rfl⟩ := Kd.R_slice HR.out
      clear hfin
      by_cases h : k < n
      · have h10 : ¬ (k : Int) < 10 := by omega
        clear hlt
        go_wp2_with fail
        go_ret
        exact ⟨_, rfl, by rw [← HF.out]; exact HR.out, HB.out⟩
      · clear hlt
        go_wp2_with fail
        go_ret
        exact ⟨_, rfl, by rw [← HF.out]; exact HR.out, HB.out⟩

end Go.Proofs.YtceopllngemnnaaGreatDoor


/-
  Text of the document's answer, and the examples: what they return. For up to 1000 items.
-/
namespace Go.Proofs.YtceopllngemnnaaGreatDoor
open Go.RowKit Go.Proofs.YtceopllngemnnaaGreatDoorW.PrintWords Go.Proofs.YtceopllngemnnaaGreatDoorW.PrintLast Go.Proofs.YtceopllngemnnaaGreatDoorW.PrintMore Go.Proofs.YtceopllngemnnaaGreatDoor.PRef
attribute [local go_sem] max2_int min2_int max_two min_two

section
variable {P : Program} {ops : Array Oper} {rest : List Oper} {o : Oper} {a : Act} {Q : Exit → Act → World → Prop}
/-- Strings put together. -/
theorem add_l {W : World} {x y : Operand} {s t : ByteArray} {ty ty2 : TypeId} (hgd : o.guard = none) (ho : o.op = .binOp .add ty x y ty2) (hx : a.eval x = .string s) (hy : a.eval y = .string t) (hu : P.underlying ty = some .string)
    (h : s.size + t.size ≤ 9223372036854775807) (hk : wpList P ops Q rest (a.put o.dst (.string (s ++ t))) W) : wpList P ops Q (o :: rest) a W :=
  Kd.event_run hgd (exec_add ho hx hy hu h W) hk
end
section
variable {P : Program} {ops : Array Oper} {rest : List Oper} {o : Oper} {a : Act} {Q : Exit → Act → World → Prop} {W : World}
/-- A step of a region, guarded or not. -/
theorem event_run_g {w1 : World} {v : Value} (hw : Region.wanted o (yielded ops a.tmps) = true) (hrun : (execOp a.eval o).run P W = .ok (.value v) w1) (hk : wpList P ops Q rest (a.put o.dst v) w1) : wpList P ops Q (o :: rest) a W := by
  exact wpList_step fun K hK => event_step hw hrun (hK _ _ hk)
theorem exec_build {t : Nat} {parts : Array (Nat × Operand)} {cs : Array Value} (ho : o.op = .build t parts) {vs : List (Nat × Value)} (hp : (parts.map fun (i, x) => (i, a.eval x)).toList = vs) (hb : P.built t vs = some cs) (W : World) : (execOp a.eval o).run P W = .ok (.value (.agg cs)) W := by
  subst hp
  simp only [execOp, ho, Sem.run_bind, run_build W t _ cs hb, Result.andThen_ok]
  rfl
end
/-! ### the examples -/
def oneId : List Int := 1 :: List.replicate 31 0
def oneIt : It := (oneId, ⟨#[120, 10]⟩)
theorem okId_one : okId oneId := ⟨rfl, by intro x hx; rcases List.mem_cons.mp hx with rfl | hx; omega; rw [List.eq_of_mem_replicate hx]; omega⟩
theorem okIt_one : okIt oneIt := ⟨okId_one, by decide⟩
theorem built_one : Tryz.prog.built 37 [(0, .int .u8 1)] = some (u8s oneId) := by kernel_rfl
theorem size_one : sizeN oneIt ≤ 80000 := sizeN_le _ (by decide)
theorem check_nil : checkN [] = 0 := by
  unfold checkN
  rw [if_neg (by simp), if_pos (by simp), if_neg]
  have := frameN_le 0 (by omega)
  unfold totalN sumN; simp; omega
theorem check_one : checkN [oneIt] = 0 := by
  unfold checkN
  rw [if_neg (by simp), if_pos (by intro x hx; rw [List.mem_singleton.mp hx]; decide), if_neg]
  have := frameN_le 1 (by omega)
  have := size_one
  unfold totalN sumN; simp; omega
theorem pack_nil : packS [] = (⟨#[98, 97, 116, 99, 104, 32, 48, 10, 101, 110, 100, 10]⟩ : ByteArray) := by
  have h : Lib.decDigits 0 = [48] := by rw [Lib.decDigits, dif_pos (by omega)]; rfl
  unfold packS hdS numB catS
  show (⟨#[98, 97, 116, 99, 104, 32]⟩ : ByteArray) ++ mkB (Lib.decDigits 0) ++ (⟨#[10]⟩ : ByteArray) ++ ByteArray.empty ++ endS = _
  rw [h]; rfl
theorem unpack_ex1 : unpackF ⟨#[98, 97, 116, 99, 104, 32, 48, 10, 101, 110, 100]⟩ = ([], 11, 23) := by
  have := unpack_cut [] (by simp) (by simp) 11 (by rw [pack_nil]; decide)
  rw [pack_nil] at this
  exact this
theorem nl_ex2 : nl ⟨#[98, 97, 116, 99, 104, 32, 49, 10, 101, 110, 100, 10]⟩ 0 = some 7 :=
  nl_of _ 0 [98, 97, 116, 99, 104, 32, 49] [101, 110, 100, 10] rfl (by decide)
theorem nl_ex3 : nl ⟨#[98, 97, 116, 99, 104, 32, 49, 10, 101, 110, 100, 10]⟩ 8 = some 11 :=
  nl_of _ 8 [101, 110, 100] [] rfl (by decide)
theorem unpack_ex2 : unpackF ⟨#[98, 97, 116, 99, 104, 32, 49, 10, 101, 110, 100, 10]⟩ = ([], 8, 3) := by
  have hf : firstF ((⟨#[98, 97, 116, 99, 104, 32, 49, 10, 101, 110, 100, 10]⟩ : ByteArray).extract 0 7) = some 1 := by
    have h : Lib.decDigits 1 = [49] := by rw [Lib.decDigits, dif_pos (by omega)]; rfl
    refine firstF_head _ 1 ?_ (by omega)
    rw [h]; rfl
  have hh : headF ((⟨#[98, 97, 116, 99, 104, 32, 49, 10, 101, 110, 100, 10]⟩ : ByteArray).extract 8 11) = none := by
    unfold headF
    rw [words_one _ (by decide)]
  have hr : readF ⟨#[98, 97, 116, 99, 104, 32, 49, 10, 101, 110, 100, 10]⟩ 8 = .inr (8, 3) := by
    unfold readF
    rw [nl_ex3]
    simp only [hh]
  unfold unpackF
  rw [nl_ex2]
  simp only [hf]
  rw [run_bad hr]

set_option maxHeartbeats 8000000 in
set_option maxRecDepth 100000 in
theorem known_any (W : World) (he : Env W) : Calls Tryz.prog 14 #[] W fun r w' => r = .returned (.bool true) ∧ Below W.heap.size W w' := by
  have HE := Aside0.mk he
  have hp0 : packR [] = (⟨#[98, 97, 116, 99, 104, 32, 48, 10, 101, 110, 100, 10]⟩, 0) := by unfold packR; rw [if_pos check_nil, pack_nil]
  have hp1 : packR [oneIt] = (packS [oneIt], 0) := by unfold packR; rw [if_pos check_one]
  obtain ⟨s1, hs1⟩ : ∃ s1, packS [oneIt] = s1 := ⟨_, rfl⟩
  have hss : s1.size ≤ 1000000 := by
    rw [← hs1, packS_size _ (by intro x hx; rw [List.mem_singleton.mp hx]; exact okId_one)]
    have h1 := frameN_le 1 (by omega)
    have h2 := size_one
    simp only [totalN, sumN, List.length_singleton, List.map_cons, List.map_nil, List.sum_cons, List.sum_nil] at *
    omega
  have hu1 : unpackF s1 = ([oneIt], 0, 0) := by rw [← hs1]; exact unpack_pack _ (by intro x hx; rw [List.mem_singleton.mp hx]; exact okIt_one) (by simp)
  rw [hs1] at hp1
  have HP0 := Aside0.mk (fun w he => pack_any none 0 0 [] w he (Kd.C_nil Kit w))
  rw [hp0] at HP0
  have HP1 := Aside0.mk (fun A w he hc => pack_any A 1 1 [oneIt] w he hc)
  rw [hp1] at HP1
  have HU1 := Aside0.mk (fun w he => unpack_any ⟨#[98, 97, 116, 99, 104, 32, 48, 10, 101, 110, 100]⟩ w he (by decide))
  rw [unpack_ex1] at HU1
  have HU2 := Aside0.mk (fun w he => unpack_any ⟨#[98, 97, 116, 99, 104, 32, 49, 10, 101, 110, 100, 10]⟩ w he (by decide))
  rw [unpack_ex2] at HU2
  have HU3 := Aside0.mk (fun w he => unpack_any s1 w he hss)
  rw [hu1] at HU3
  clear hp0 hp1 hs1 hu1 he
  go_enter Tryz.func14, Tryz.ntmps14
  go_wp2_with fail
  refine (HP0.out _ HE.out).mono ?_
  rintro e w1 ⟨rfl, hb⟩
  have B1 := Aside0.mk hb
  clear hb
  go_wp2_with fail
  refine (HU1.out _ (HE.out.below B1.out)).mono ?_
  rintro e w2 ⟨v1, rfl, hr, hb⟩
  have B2 := Aside0.mk (below_step B1.out hb)
  clear hb hr
  go_wp2_with fail
  refine (HU2.out _ (HE.out.below B2.out)).mono ?_
  rintro e w3 ⟨v2, rfl, hr, hb⟩
  have B3 := Aside0.mk (below_step B2.out hb)
  clear hb hr
  go_wp2_with (first
    | ((with_reducible refine gate_dst (N := 29) rfl ?_); refine build_blk rfl rfl rfl built_one ?_)
    | ((with_reducible refine gate_dst (N := 30) rfl ?_); refine build_blk rfl rfl rfl (built39 (u8s oneId) ⟨#[120, 10]⟩ rfl) ?_)
    | ((with_reducible refine gate_dst (N := 31) rfl ?_); refine slice_one (cs := itV oneIt) rfl rfl rfl Tryz.underlying22 zero39 (itV_size okId_z) (itV_size okId_one) (by omega) (by omega) ?_; intro g31 w5 hg31 hz hb; have Y5 := Aside0.mk (Kit.of_blk (x := oneIt) hz okId_one); have B5 := Aside0.mk (below_step B3.out hb); clear hg31 hz hb))
  refine (HP1.out _ _ (HE.out.below B5.out) Y5.out).mono ?_
  rintro e w6 ⟨rfl, hb⟩
  have B6 := Aside0.mk (below_step B5.out hb)
  clear hb
  go_wp2_with fail
  refine (HU3.out _ (HE.out.below B6.out)).mono ?_
  rintro e w7 ⟨v3, rfl, hr, hb⟩
  have B7 := Aside0.mk (below_step B6.out hb)
  obtain ⟨A3, c3, rfl, hc3, hC3⟩ := Kd.R_reads hr
  obtain ⟨ad, x, hA, hx, hok, hcell⟩ := Kit.at_ hC3 0 (by simp)
  subst hA
  obtain rfl : oneIt = x := by simpa using hx
  have HCL := Aside0.mk hcell
  clear hb hr hc3 hC3 hx hok hcell
  go_wp2_with (first
    | ((with_reducible refine gate_dst (N := 79) rfl ?_); refine event_run_g rfl (exec_load rfl rfl (run_load_cells Tryz.underlying39 rfl (by rw [itV_size okId_one]; exact size39) HCL.out)) ?_)
    | ((with_reducible refine gate_dst (N := 80) rfl ?_); refine event_run_g rfl (exec_build rfl rfl built_one _) ?_)
    | ((with_reducible refine gate_dst (N := 81) rfl ?_); refine event_run_g rfl (exec_build rfl rfl (built39 (u8s oneId) ⟨#[120, 10]⟩ rfl) _) ?_)
    | ((with_reducible refine gate_dst (N := 82) rfl ?_); refine event_run_g rfl (exec_eql (x := oneIt) (y := oneIt) rfl rfl rfl Tryz.eqGuardType39 (run_eq39 oneIt oneIt okId_one okId_one) _) ?_))
  go_ret
  exact ⟨rfl, B7.out⟩

end Go.Proofs.YtceopllngemnnaaGreatDoor


/-
  back and same of the statements on batches: what they return. For every list of items.
-/
namespace Go.Proofs.YtceopllngemnnaaGreatDoor
open Go.RowKit Go.Proofs.YtceopllngemnnaaGreatDoorW.PrintWords Go.Proofs.YtceopllngemnnaaGreatDoorW.PrintLast Go.Proofs.YtceopllngemnnaaGreatDoorW.PrintMore Go.Proofs.YtceopllngemnnaaGreatDoor.PRef
attribute [local go_sem] max2_int min2_int max_two min_two

/-! Region tables, printed by rg2.py. -/
def r20_6.T : Bool × List (List Nat × List Nat) := (true, [([], []), ([], []), ([0, 1], [0, 1]), ([2], [2]), ([3], [3]), ([], []), ([], []), ([5, 6], [5, 6]), ([7], [7]), ([8], [8]), ([4, 9], [4, 9]), ([], []), ([], []), ([11, 12], [11, 12]), ([13], [13]), ([10, 14], [10, 14])])
def r20_6.B : List Nat := [0, 0, 3, 7, 15, 0, 0, 96, 224, 480, 1023, 0, 0, 6144, 14336, 32767]
theorem r20_6.tab : rtab .any (opsOf Tryz.f20 6) = r20_6.T := by kernel_rfl
theorem r20_6.bits : waitsOk r20_6.T.2 r20_6.B = true := by kernel_rfl

set_option maxHeartbeats 8000000 in
set_option maxRecDepth 100000 in
theorem same_any (A : Option Addr) (n c : Nat) (l : List It) (A2 : Option Addr) (n2 c2 : Nat) (l2 : List It) (W : World) (hC : Kit.C W A n l) (hC2 : Kit.C W A2 n2 l2) (hn : n ≤ 1000000) (hn2 : n2 ≤ 1000000) :
    Calls Tryz.prog 20 #[.slice A n c, .slice A2 n2 c2] W fun r w' => r = .returned (.bool (decide (l = l2))) ∧ Below W.heap.size W w' := by
  have hlen : l.length = n := hC.1
  have hlen2 : l2.length = n2 := hC2.1
  have HL := Aside0.mk hlen
  have HL2 := Aside0.mk hlen2
  have HC := Aside0.mk hC
  have HC2 := Aside0.mk hC2
  clear hC hC2 hlen hlen2
  obtain ⟨r, hr⟩ : ∃ r, decide (l = l2) = r := ⟨_, rfl⟩
  rw [hr]
  have HRR := Aside0.mk hr
  clear hr
  go_enter Tryz.func20, Tryz.ntmps20
  by_cases hne : n = n2
  · subst hne
    go_wp2_with fail
    go_loopg [5] n (fun gf x5 wx => ∃ (k : Nat), k ≤ n ∧ x5 = .int .i64 k ∧ Hid (n ≤ k + gf) ∧ Aside0 (l.take k = l2.take k) ∧ Aside0 (Below W.heap.size W wx))
    case atStart => exact ⟨0, Nat.zero_le _, rfl, by unfold Hid; omega, ⟨rfl⟩, ⟨Below.refl _ _⟩⟩
    case round =>
      obtain ⟨k, hkn, rfl, HG, HA, HB⟩ := hrel
      by_cases hlt : k < n
      · obtain ⟨ad, x, hA, hx, hok, hcell⟩ := Kit.at_ HC.out k hlt
        subst hA
        obtain ⟨ad2, y, hA2, hy, hok2, hcell2⟩ := Kit.at_ HC2.out k hlt
        subst hA2
        have HIT := Aside0.mk (show ItAt W (ad.add (k * 33)) x from hcell)
        have HX := Aside0.mk hok
        have HIT2 := Aside0.mk (show ItAt W (ad2.add (k * 33)) y from hcell2)
        have HX2 := Aside0.mk hok2
        have HST := Aside0.mk (show l.take (k + 1) = l.take k ++ [x] by rw [List.take_add_one, hx]; rfl)
        have HST2 := Aside0.mk (show l2.take (k + 1) = l2.take k ++ [y] by rw [List.take_add_one, hy]; rfl)
        have HXA := Aside0.mk hx
        have HYA := Aside0.mk hy
        obtain ⟨b, hb⟩ : ∃ b, (!decide (x = y)) = b := ⟨_, rfl⟩
        have HQ := Aside0.mk hb
        have k0 : (0 : Int) ≤ (k : Int) := by omega
        have k1 : (k : Int) < (n : Int) := by omega
        clear hok hcell hx hok2 hcell2 hy hb
        go_wp2_with fail
        refine start_ (n := 16) (S := fun w' => Below W.heap.size W w') (ds := []) #[false, false, false, false, false, false, false, false, false, false, false, false, false, false, false, false] (by kernel_rfl) rfl rfl (below_drew HB.out) (fun hHeld => ?_)
        refine with_tabW r20_6.tab r20_6.bits (fun HT_ HW_ => ?_)
        generalize wr.drew = wd at hHeld ⊢
        have HH := Aside0.mk hHeld
        clear hHeld
        refine pure_ (i := 0) (N := some 17) (v := ?_) (a' := ?_) #[true, false, false, false, false, false, false, false, false, false, false, false, false, false, false, false] rfl rfl (any_of HT_.out (by kernel_rfl)) (fun _ _ _ h => h) (Or.inl ⟨by rfl, ?_⟩) ?_ ?_
        rotate_left
        · intro w'
          go_simp
          with_reducible rfl
        rotate_left
        · simp only [Act.put, List.setIfInBounds_toArray, List.set_cons_zero, List.set_cons_succ, i64_w, i32_w]
          rfl
        refine pure_ (i := 1) (N := some 18) (v := ?_) (a' := ?_) #[true, true, false, false, false, false, false, false, false, false, false, false, false, false, false, false] rfl rfl (any_of HT_.out (by kernel_rfl)) (fun _ _ _ h => h) (Or.inl ⟨by rfl, ?_⟩) ?_ ?_
        rotate_left
        · intro w'
          go_simp
          with_reducible rfl
        rotate_left
        · simp only [Act.put, List.setIfInBounds_toArray, List.set_cons_zero, List.set_cons_succ, i64_w, i32_w]
          rfl
        refine pure_ (i := 2) (N := some 19) (v := ?_) (a' := ?_) #[true, true, true, false, false, false, false, false, false, false, false, false, false, false, false, false] rfl rfl (any_of HT_.out (by kernel_rfl)) (fun _ _ _ h => h) (Or.inl ⟨by rfl, ?_⟩) ?_ ?_
        rotate_left
        · intro w'
          go_simp
          with_reducible rfl
        rotate_left
        · simp only [Act.put, List.setIfInBounds_toArray, List.set_cons_zero, List.set_cons_succ, i64_w, i32_w]
          rfl
        refine pure_ (i := 3) (N := some 20) (v := ?_) (a' := ?_) #[true, true, true, true, false, false, false, false, false, false, false, false, false, false, false, false] rfl rfl (any_of HT_.out (by kernel_rfl)) (fun _ _ _ h => h) (Or.inl ⟨by rfl, ?_⟩) ?_ ?_
        rotate_left
        · intro w'
          go_simp
          with_reducible rfl
        rotate_left
        · simp only [Act.put, List.setIfInBounds_toArray, List.set_cons_zero, List.set_cons_succ, i64_w, i32_w]
          rfl
        refine pure_ (i := 5) (N := some 22) (v := ?_) (a' := ?_) #[true, true, true, true, false, true, false, false, false, false, false, false, false, false, false, false] rfl rfl (any_of HT_.out (by kernel_rfl)) (fun _ _ _ h => h) (Or.inl ⟨by rfl, ?_⟩) ?_ ?_
        rotate_left
        · intro w'
          go_simp
          with_reducible rfl
        rotate_left
        · simp only [Act.put, List.setIfInBounds_toArray, List.set_cons_zero, List.set_cons_succ, i64_w, i32_w]
          rfl
        refine pure_ (i := 6) (N := some 23) (v := ?_) (a' := ?_) #[true, true, true, true, false, true, true, false, false, false, false, false, false, false, false, false] rfl rfl (any_of HT_.out (by kernel_rfl)) (fun _ _ _ h => h) (Or.inl ⟨by rfl, ?_⟩) ?_ ?_
        rotate_left
        · intro w'
          go_simp
          with_reducible rfl
        rotate_left
        · simp only [Act.put, List.setIfInBounds_toArray, List.set_cons_zero, List.set_cons_succ, i64_w, i32_w]
          rfl
        refine pure_ (i := 7) (N := some 24) (v := ?_) (a' := ?_) #[true, true, true, true, false, true, true, true, false, false, false, false, false, false, false, false] rfl rfl (any_of HT_.out (by kernel_rfl)) (fun _ _ _ h => h) (Or.inl ⟨by rfl, ?_⟩) ?_ ?_
        rotate_left
        · intro w'
          go_simp
          with_reducible rfl
        rotate_left
        · simp only [Act.put, List.setIfInBounds_toArray, List.set_cons_zero, List.set_cons_succ, i64_w, i32_w]
          rfl
        refine pure_ (i := 8) (N := some 25) (v := ?_) (a' := ?_) #[true, true, true, true, false, true, true, true, true, false, false, false, false, false, false, false] rfl rfl (any_of HT_.out (by kernel_rfl)) (fun _ _ _ h => h) (Or.inl ⟨by rfl, ?_⟩) ?_ ?_
        rotate_left
        · intro w'
          go_simp
          with_reducible rfl
        rotate_left
        · simp only [Act.put, List.setIfInBounds_toArray, List.set_cons_zero, List.set_cons_succ, i64_w, i32_w]
          rfl
        refine pure_ (i := 11) (N := some 28) (v := ?_) (a' := ?_) #[true, true, true, true, false, true, true, true, true, false, false, true, false, false, false, false] rfl rfl (any_of HT_.out (by kernel_rfl)) (fun _ _ _ h => h) (Or.inl ⟨by rfl, ?_⟩) ?_ ?_
        rotate_left
        · intro w'
          go_simp
          with_reducible rfl
        rotate_left
        · simp only [Act.put, List.setIfInBounds_toArray, List.set_cons_zero, List.set_cons_succ, i64_w, i32_w]
          rfl
        refine pure_ (i := 12) (N := some 29) (v := ?_) (a' := ?_) #[true, true, true, true, false, true, true, true, true, false, false, true, true, false, false, false] rfl rfl (any_of HT_.out (by kernel_rfl)) (fun _ _ _ h => h) (Or.inl ⟨by rfl, ?_⟩) ?_ ?_
        rotate_left
        · intro w'
          go_simp
          with_reducible rfl
        rotate_left
        · simp only [Act.put, List.setIfInBounds_toArray, List.set_cons_zero, List.set_cons_succ, i64_w, i32_w]
          rfl
        refine pure_ (i := 13) (N := some 30) (v := ?_) (a' := ?_) #[true, true, true, true, false, true, true, true, true, false, false, true, true, true, false, false] rfl rfl (any_of HT_.out (by kernel_rfl)) (fun _ _ _ h => h) (Or.inl ⟨by rfl, ?_⟩) ?_ ?_
        rotate_left
        · intro w'
          go_simp
          with_reducible rfl
        rotate_left
        · simp only [Act.put, List.setIfInBounds_toArray, List.set_cons_zero, List.set_cons_succ, i64_w, i32_w]
          rfl
        refine take_ (i := 4) (N := some 21) (v := .agg (u8s x.1)) (a' := ?_) #[true, true, true, true, true, true, true, true, true, false, false, true, true, true, false, false] rfl rfl (take_ofW HT_.out HW_.out (by kernel_rfl)) (fun _ _ _ h => h) ?_ HH.out ?_ ?_
        · exact yields_at_id (by rfl) rfl rfl (fun w h => HIT.out.below h) HX.out Tryz.underlying37 rfl size37
        rotate_left
        · simp only [Act.put, List.setIfInBounds_toArray, List.set_cons_zero, List.set_cons_succ, i64_w, i32_w]
          rfl
        refine take_ (i := 9) (N := some 26) (v := ?_) (a' := ?_) #[true, true, true, true, true, true, true, true, true, true, false, true, true, true, false, false] rfl rfl (take_ofW HT_.out HW_.out (by kernel_rfl)) (fun _ _ _ h => h) (Or.inl ⟨by rfl, ?_⟩) HH.out ?_ ?_
        rotate_left
        · intro w' hS'
          have hit := (HIT.out.below hS').str HX.out
          go_simp
          with_reducible rfl
        rotate_left
        · simp only [Act.put, List.setIfInBounds_toArray, List.set_cons_zero, List.set_cons_succ, i64_w, i32_w]
          rfl
        refine pure_ (i := 10) (N := some 27) (v := ?_) (a' := ?_) #[true, true, true, true, true, true, true, true, true, true, true, true, true, true, false, false] rfl rfl (any_of HT_.out (by kernel_rfl)) (fun _ _ _ h => h) (Or.inl ⟨by rfl, ?_⟩) ?_ ?_
        rotate_left
        · intro w'
          refine (exec_item rfl rfl rfl (built36 _ x.2 (by rw [u8s_size]; exact HX.out.1)) w').trans ?_
          with_reducible rfl
        rotate_left
        · simp only [Act.put, List.setIfInBounds_toArray, List.set_cons_zero, List.set_cons_succ, i64_w, i32_w]
          rfl
        refine take_ (i := 14) (N := some 31) (v := .agg (itV y)) (a' := ?_) #[true, true, true, true, true, true, true, true, true, true, true, true, true, true, true, false] rfl rfl (take_ofW HT_.out HW_.out (by kernel_rfl)) (fun _ _ _ h => h) ?_ HH.out ?_ ?_
        · exact yields_at (by rfl) rfl rfl (fun w h => HIT2.out.below h) HX2.out Tryz.underlying36 rfl size36
        rotate_left
        · simp only [Act.put, List.setIfInBounds_toArray, List.set_cons_zero, List.set_cons_succ, i64_w, i32_w]
          rfl
        refine pure_ (i := 15) (N := some 32) (v := ?_) (a' := ?_) #[true, true, true, true, true, true, true, true, true, true, true, true, true, true, true, true] rfl rfl (any_of HT_.out (by kernel_rfl)) (fun _ _ _ h => h) (Or.inl ⟨by rfl, ?_⟩) ?_ ?_
        rotate_left
        · intro w'
          refine (exec_neq (x := x) (y := y) rfl rfl rfl Tryz.eqGuardType36 (run_eq36 x y HX.out HX2.out) w').trans ?_
          rw [HQ.out]
        rotate_left
        · simp only [Act.put, List.setIfInBounds_toArray, List.set_cons_zero, List.set_cons_succ, i64_w, i32_w]
          rfl
        refine done_ (done_of HT_.out (by kernel_rfl)) ?_
        have B6 := Aside0.mk HH.out
        cases b
        · have HXY := Aside0.mk (show x = y by simpa using HQ.out)
          go_wp2_with fail
          go_roundg (gk - 1)
          case measure => have := HG.out; omega
          case rel => exact ⟨k + 1, by omega, by go_num, by have := HG.out; unfold Hid; omega, ⟨by rw [HST.out, HST2.out, HXY.out, HA.out]⟩, B6⟩
        · have HXY := Aside0.mk (show x ≠ y by simpa using HQ.out)
          go_wp2_with fail
          go_ret
          refine ⟨?_, B6.out⟩
          have : r = false := by
            rw [← HRR.out]
            refine decide_eq_false fun h => HXY.out ?_
            have h1 := HXA.out
            rw [h, HYA.out] at h1
            exact (Option.some.inj h1).symm
          rw [this]; rfl
      · obtain rfl : k = n := by omega
        have hfin : r = true := by
          rw [← HRR.out]
          refine decide_eq_true ?_
          have := HA.out
          rw [List.take_of_length_le (by rw [HL.out]; exact Nat.le_refl _), List.take_of_length_le (by rw [HL2.out]; exact Nat.le_refl _)] at this
          exact this
        have HF := Aside0.mk hfin
        clear hfin
        go_wp2_with fail
        go_ret
        exact ⟨by rw [HF.out]; rfl, HB.out⟩
  · have hne2 : ((n : Int) == (n2 : Int)) = false := by
      rw [beq_eq_false_iff_ne]; omega
    have hfin : r = false := by
      rw [← HRR.out]
      refine decide_eq_false fun h => hne ?_
      rw [← HL.out, ← HL2.out, h]
    have HF := Aside0.mk hfin
    clear hfin hne
    go_wp2_with fail
    go_ret
    exact ⟨by rw [HF.out]; rfl, Below.refl _ _⟩

end Go.Proofs.YtceopllngemnnaaGreatDoor

