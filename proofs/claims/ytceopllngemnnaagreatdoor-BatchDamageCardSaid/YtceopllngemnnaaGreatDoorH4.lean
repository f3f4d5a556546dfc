/-
  Salvage, of the document's answer and of the program: what it returns. For texts of up to a million bytes.
-/
import Derived.Test.YtceopllngemnnaaGreatDoorH3
set_option linter.unusedVariables false
set_option linter.unusedSimpArgs false
namespace Go.Proofs.YtceopllngemnnaaGreatDoor
open Go.RowKit Go.Proofs.YtceopllngemnnaaGreatDoorW.PrintWords Go.Proofs.YtceopllngemnnaaGreatDoorW.PrintLast Go.Proofs.YtceopllngemnnaaGreatDoorW.PrintMore Go.Proofs.YtceopllngemnnaaGreatDoor.PRef
attribute [local go_sem] max2_int min2_int max_two min_two

/-- The items that are found from a place on. -/
def salvG (s : ByteArray) : Nat → Nat → List It → List It
  | 0, _, acc => acc
  | f + 1, k, acc => match readF s k with
    | .inl (x, nx) => salvG s f nx (acc ++ [x])
    | .inr _ => match nl s k with
      | none => acc
      | some j => salvG s f (j + 1) acc
/-- What Salvage returns. -/
def salvF (s : ByteArray) : List It := salvG s (s.size + 1) 0 []
theorem salv_ok {s : ByteArray} {f k nx : Nat} {acc : List It} {x : It} (h : readF s k = .inl (x, nx)) : salvG s (f + 1) k acc = salvG s f nx (acc ++ [x]) := by
  rw [salvG, h]
theorem salv_skip {s : ByteArray} {f k j b : Nat} {e : Int} {acc : List It} (h : readF s k = .inr (b, e)) (hj : nl s k = some j) : salvG s (f + 1) k acc = salvG s f (j + 1) acc := by
  rw [salvG, h]
  simp only [hj]
theorem salv_end {s : ByteArray} {f k b : Nat} {e : Int} {acc : List It} (h : readF s k = .inr (b, e)) (hj : nl s k = none) : salvG s (f + 1) k acc = acc := by
  rw [salvG, h]
  simp only [hj]

set_option maxHeartbeats 8000000 in
set_option maxRecDepth 100000 in
theorem rsalv_any (s : ByteArray) (W : World) (hs : s.size ≤ 1000000) :
    Calls Tryz.prog 24 #[.string s] W fun r w' => ∃ v, r = .returned v ∧ Kit.R 36 w' W.heap.size (fun _ => True) v (salvF s) ∧ Below W.heap.size W w' := by
  have HEND := Aside0.mk (fun k hk w => end_any s k w (by omega) hk)
  have HRD := Aside0.mk (fun k hk w => rread_any s k w hs hk)
  go_enter Tryz.func24, Tryz.ntmps24
  go_wp2_with fail
  go_loopg [3, 4] (s.size + 1) (fun gf x3 x4 wx => ∃ (k f : Nat) (acc : List It), k ≤ s.size ∧ x4 = .int .i64 k ∧ Hid (s.size < k + f) ∧ Hid (f ≤ gf) ∧ Aside0 (Kit.R 36 wx W.heap.size (fun _ => True) x3 acc) ∧ Aside0 (acc.length ≤ k) ∧ Aside0 (Below W.heap.size W wx) ∧ Aside0 (salvG s f k acc = salvF s))
  case atStart => exact ⟨0, s.size + 1, [], Nat.zero_le _, rfl, by unfold Hid; omega, by unfold Hid; omega, ⟨Kd.R_nil _ _ _ _ _⟩, ⟨Nat.le_refl _⟩, ⟨Below.refl _ _⟩, ⟨rfl⟩⟩
  case round =>
    obtain ⟨k, f, acc, hkk, rfl, HF, HG, HR, HAL, B, H1⟩ := hrel
    obtain ⟨f, rfl⟩ : ∃ m, f = m + 1 := ⟨f - 1, by have := HF.out; omega⟩
    have hrd := HRD.out k hkk
    have h1 := H1.out
    clear H1
    cases hrf : readF s k with
    | inl q =>
      obtain ⟨x, nx⟩ := q
      obtain ⟨hnx, hlt, hxo⟩ := readV_le hrf
      have hv : readV s k = (x, nx, 0, 0) := by unfold readV; rw [hrf]
      rw [hv] at hrd
      rw [salv_ok hrf] at h1
      have HRD1 := Aside0.mk hrd
      have HH1 := Aside0.mk h1
      have HXO := Aside0.mk hxo
      have HLT := Aside0.mk hlt
      clear hrd h1 hrf hv hxo hlt
      go_wp2_with fail
      refine (HRD1.out _).mono ?_
      rintro e' w6 ⟨rfl, hb⟩
      have R6 := Aside0.mk (Kd.R_below HR.out hb)
      have B6 := Aside0.mk (below_step B.out hb)
      clear hb
      go_wp2_with (first
        | ((with_reducible refine gate_dst (N := 5) rfl ?_); refine var_blk (cs := itV x) rfl rfl rfl rfl rfl rfl zero36 (itV_size okId_z) (itV_size HXO.out) (itV_one _) (fun _ => rfl) (fun _ => rfl) ?_; intro g11 w7 hg11 hz hb; have Z7 := Aside0.mk hz; have R7 := Aside0.mk (Kd.R_below R6.out hb); have B7 := Aside0.mk (below_step B6.out hb); clear hg11 hz hb)
        | ((with_reducible refine gate_dst (N := 21) rfl ?_); refine load_blk rfl rfl rfl Z7.out Tryz.underlying36 rfl (by rw [itV_size HXO.out]; exact size36) ?_)
        | ((with_reducible refine gate_dst (N := 22) rfl ?_); refine slice_one rfl rfl rfl Tryz.underlying24 zero36 (itV_size okId_z) (itV_size HXO.out) (by omega) (by omega) ?_; intro g31 w8 hg31 hz hb; have Y8 := Aside0.mk hz; have R8 := Aside0.mk (Kd.R_below R7.out hb); have B8 := Aside0.mk (below_step B7.out hb); clear hg31 hz hb)
        | ((with_reducible refine gate_builtin (b := .append) (xs := #[.tmp 20, .tmp 22]) rfl ?_); refine Kd.R_append_rows Kit (w0 := W) W.heap.size rfl (.tmp 20) (.tmp 22) 24 36 (.agg (itV zIt)) 48 rfl Tryz.underlying24 info36 (itV_size okId_z) (by decide) (by omega) _ acc [x] (some ⟨g31, 0, none⟩) 1 1 (fun _ => True) (fun _ => False) rfl rfl ?aO ?aR (fun _ _ h => h) (fun _ h => h.elim) ?aF ?aB ?aS ?aL ?_; (case aR => exact Kit.of_blk Y8.out HXO.out); (case aB => exact B8.out); (case aF => exact (fun _ _ => trivial)); (case aO => exact R8.out); (case aS => exact B8.out.size); (case aL => have := HAL.out; have hll : ([x] : List It).length = 1 := rfl; omega); intro v9 w9 ho hb hgr _; have R9 := Aside0.mk ho; have B9 := Aside0.mk hb; clear ho hb hgr))
      go_roundg (gk - 1)
      case measure => have := HG.out; omega
      case rel => exact ⟨nx, f, acc ++ [x], hnx, rfl, by have := HF.out; have := HLT.out; unfold Hid; omega, by have := HG.out; unfold Hid; omega, R9, ⟨by have := HAL.out; have := HLT.out; simp; omega⟩, B9, HH1⟩
    | inr q =>
      obtain ⟨b2, e2⟩ := q
      have he2 := readV_bad hrf
      have hv : readV s k = (zIt, 0, b2, e2) := by unfold readV; rw [hrf]
      rw [hv] at hrd
      have HRD1 := Aside0.mk hrd
      have hneb : (e2 == 0) = false := by simp [he2]
      have he := HEND.out k hkk
      unfold nlI at he
      clear hrd hv he2
      cases hjk : nl s k with
      | none =>
        rw [hjk] at he
        rw [salv_end hrf hjk] at h1
        have HE2 := Aside0.mk he
        have HH1 := Aside0.mk h1
        clear he h1 hrf hjk
        go_wp2_with fail
        refine (HRD1.out _).mono ?_
        rintro e' w6 ⟨rfl, hb⟩
        have R6 := Aside0.mk (Kd.R_below HR.out hb)
        have B6 := Aside0.mk (below_step B.out hb)
        clear hb
        go_wp2_with (first
          | ((with_reducible refine gate_dst (N := 5) rfl ?_); refine var_blk (cs := itV zIt) rfl rfl rfl rfl rfl rfl zero36 (itV_size okId_z) (itV_size okId_z) (itV_one _) (fun _ => rfl) (fun _ => rfl) ?_; intro g11 w7 hg11 hz hb; have R7 := Aside0.mk (Kd.R_below R6.out hb); have B7 := Aside0.mk (below_step B6.out hb); clear hg11 hz hb))
        refine (HE2.out _).mono ?_
        rintro e' w8 ⟨rfl, m8, rfl⟩
        have B8 := Aside0.mk (pw_below_drewN B7.out m8)
        have R8 := Aside0.mk (show Kit.R 36 (w7.drewN m8) W.heap.size (fun _ => True) u3 acc from Kd.R_drewN R7.out m8)
        go_wp2_with fail
        go_ret
        exact ⟨_, rfl, by rw [← HH1.out]; exact R8.out, B8.out⟩
      | some j =>
        have hjl := nl_le s k j hjk
        rw [hjk] at he
        rw [salv_skip hrf hjk] at h1
        have HE2 := Aside0.mk he
        have HH1 := Aside0.mk h1
        clear he h1 hrf hjk
        go_wp2_with fail
        refine (HRD1.out _).mono ?_
        rintro e' w6 ⟨rfl, hb⟩
        have R6 := Aside0.mk (Kd.R_below HR.out hb)
        have B6 := Aside0.mk (below_step B.out hb)
        clear hb
        go_wp2_with (first
          | ((with_reducible refine gate_dst (N := 5) rfl ?_); refine var_blk (cs := itV zIt) rfl rfl rfl rfl rfl rfl zero36 (itV_size okId_z) (itV_size okId_z) (itV_one _) (fun _ => rfl) (fun _ => rfl) ?_; intro g11 w7 hg11 hz hb; have R7 := Aside0.mk (Kd.R_below R6.out hb); have B7 := Aside0.mk (below_step B6.out hb); clear hg11 hz hb))
        refine (HE2.out _).mono ?_
        rintro e' w8 ⟨rfl, m8, rfl⟩
        have B8 := Aside0.mk (pw_below_drewN B7.out m8)
        have R8 := Aside0.mk (show Kit.R 36 (w7.drewN m8) W.heap.size (fun _ => True) u3 acc from Kd.R_drewN R7.out m8)
        go_wp2_with fail
        go_roundg (gk - 1)
        case measure => have := HG.out; omega
        case rel => exact ⟨j + 1, f, acc, by omega, by go_num, by have := HF.out; unfold Hid; omega, by have := HG.out; unfold Hid; omega, R8, ⟨by have := HAL.out; omega⟩, B8, HH1⟩

set_option maxHeartbeats 8000000 in
set_option maxRecDepth 100000 in
theorem salv_any (s : ByteArray) (W : World) (he : Env W) (hs : s.size ≤ 1000000) :
    Calls Tryz.prog 23 #[.string s] W fun r w' => ∃ v, r = .returned v ∧ Kit.R 39 w' W.heap.size (fun _ => True) v (salvF s) ∧ Below W.heap.size W w' := by
  have HE := Aside0.mk he
  have H4 := Aside0.mk he.big
  have HOK := Aside0.mk (fun g k nx x w he h4 h hk hr => item_inl g k nx x s w he h4 h hs hk hr)
  have HBD := Aside0.mk (fun g k b e w he h4 h hk hr => item_inr g k b e s w he h4 h hs hk hr)
  clear he
  go_enter Tryz.func23, Tryz.ntmps23
  go_wp2_with fail
  go_step3
  go_wp2_with fail
  go_step3
  go_wp2_with fail
  go_loopg [3, 4] (s.size + 1) (fun gf x3 x4 wx => ∃ (k f : Nat) (acc : List It), k ≤ s.size ∧ x4 = .int .i64 k ∧ Hid (s.size < k + f) ∧ Hid (f ≤ gf) ∧ Aside0 (Kit.R 39 wx W.heap.size (fun _ => True) x3 acc) ∧ Aside0 (acc.length ≤ k) ∧ Aside0 (Below W.heap.size W wx) ∧ Aside0 (salvG s f k acc = salvF s))
  case atStart => exact ⟨0, s.size + 1, [], Nat.zero_le _, rfl, by unfold Hid; omega, by unfold Hid; omega, ⟨Kd.R_nil _ _ _ _ _⟩, ⟨Nat.le_refl _⟩, ⟨Below.refl _ _⟩, ⟨rfl⟩⟩
  case round =>
    obtain ⟨k, f, acc, hkk, rfl, HF, HG, HR, HAL, B, H1⟩ := hrel
    obtain ⟨f, rfl⟩ : ∃ m, f = m + 1 := ⟨f - 1, by have := HF.out; omega⟩
    have h1 := H1.out
    clear H1
    cases hrf : readF s k with
    | inl q =>
      obtain ⟨x, nx⟩ := q
      obtain ⟨hnx, hlt, hxo⟩ := readV_le hrf
      rw [salv_ok hrf] at h1
      have HRF := Aside0.mk hrf
      have HH1 := Aside0.mk h1
      have HXO := Aside0.mk hxo
      have HLT := Aside0.mk hlt
      clear h1 hrf hxo hlt
      go_wp2_with fail
      obtain ⟨g, hg⟩ : ∃ g, wr.heap.size = g := ⟨_, rfl⟩
      obtain ⟨w5, hw5⟩ : ∃ w5, wr.alloc (.cells #[.string s, .int .i64 (k : Int), .int .i64 0] 75) = w5 := ⟨_, rfl⟩
      have hz : Blk w5 g (cur s k 0) 75 := by rw [← hw5, ← hg]; exact blk_new wr _
      have hb : Below wr.heap.size wr w5 := by rw [← hw5]; exact below_alloc (Below.refl _ _) _
      have HGE := Aside0.mk (show W.heap.size ≤ g by rw [← hg]; exact B.out.size)
      have C5 := Aside0.mk hz
      have R5 := Aside0.mk (Kd.R_below HR.out hb)
      have B5 := Aside0.mk (below_step B.out hb)
      rw [hw5, hg]
      clear hg hz hb hw5
      obtain ⟨_, _, _, hcall⟩ := HOK.out g k nx x _ (HE.out.below B5.out) (by have := H4.out; have := HGE.out; omega) C5.out hkk HRF.out
      refine hcall.mono ?_
      rintro e' w6 ⟨rfl, hb, hm⟩
      have C6 := Aside0.mk hb
      have R6 := Aside0.mk (Kit.R_mod R5.out C5.out hm)
      have B6 := Aside0.mk (hm.below B5.out HGE.out)
      clear hb hm hcall
      go_wp2_with (first
        | ((with_reducible refine gate_dst (N := 6) rfl ?_); refine var_blk (cs := itV x) rfl rfl rfl rfl rfl rfl zero39 (itV_size okId_z) (itV_size HXO.out) (itV_one _) (fun _ => rfl) (fun _ => rfl) ?_; intro g6 w7 hg6 hz hb; have Z7 := Aside0.mk hz; have C7 := Aside0.mk (C6.out.below hb); have R7 := Aside0.mk (Kd.R_below R6.out hb); have B7 := Aside0.mk (below_step B6.out hb); have hc := cur_cells (C6.out.below hb); obtain ⟨c0, c1, c2, f1, f2⟩ := hc; clear hg6 hz hb)
        | ((with_reducible refine gate_dst (N := 20) rfl ?_); refine load_blk rfl rfl rfl Z7.out Tryz.underlying39 rfl (by rw [itV_size HXO.out]; exact size39) ?_)
        | ((with_reducible refine gate_dst (N := 21) rfl ?_); refine slice_one rfl rfl rfl Tryz.underlying22 zero39 (itV_size okId_z) (itV_size HXO.out) (by omega) (by omega) ?_; intro g31 w8 hg31 hz hb; have Y8 := Aside0.mk hz; have C8 := Aside0.mk (C7.out.below hb); have R8 := Aside0.mk (Kd.R_below R7.out hb); have B8 := Aside0.mk (below_step B7.out hb); clear hg31 hz hb)
        | ((with_reducible refine gate_builtin (b := .append) (xs := #[.tmp 19, .tmp 21]) rfl ?_); refine Kd.R_append_rows Kit (w0 := W) W.heap.size rfl (.tmp 19) (.tmp 21) 22 39 (.agg (itV zIt)) 48 rfl Tryz.underlying22 info39 (itV_size okId_z) (by decide) (by omega) _ acc [x] (some ⟨g31, 0, none⟩) 1 1 (fun _ => True) (fun _ => False) rfl rfl ?bO ?bR (fun _ _ h => h) (fun _ h => h.elim) ?bF ?bB ?bS ?bL ?_; (case bR => exact Kit.of_blk Y8.out HXO.out); (case bB => exact B8.out); (case bF => exact (fun _ _ => trivial)); (case bO => exact R8.out); (case bS => exact B8.out.size); (case bL => have := HAL.out; have hll : ([x] : List It).length = 1 := rfl; omega); intro v9 w9 ho hb hgr _; have R9 := Aside0.mk ho; have B9 := Aside0.mk hb; have C9 := Aside0.mk (show Blk w9 g (cur s nx 0) 75 from blk_grown C8.out hgr (Kd.R_ne R8.out C8.out (by decide))); have hc := cur_cells C9.out; obtain ⟨c0, c1, c2, f1, f2⟩ := hc; clear ho hb hgr))
      go_roundg (gk - 1)
      case measure => have := HG.out; omega
      case rel => exact ⟨nx, f, acc ++ [x], hnx, rfl, by have := HF.out; have := HLT.out; unfold Hid; omega, by have := HG.out; unfold Hid; omega, R9, ⟨by have := HAL.out; have := HLT.out; simp; omega⟩, B9, HH1⟩
    | inr q =>
      obtain ⟨b2, e2⟩ := q
      have HRF := Aside0.mk hrf
      obtain ⟨sx, hsx⟩ : ∃ sx, s.extract k s.size = sx := ⟨_, rfl⟩
      have hsd : sx.data.toList = s.data.toList.drop k := by rw [← hsx, extract_list, List.take_of_length_le (by rw [List.length_drop, data_length]; exact Nat.le_refl _)]
      have HIX := Aside0.mk (fun w => Tryz.strings_Index_one sx 10 w)
      rw [hsd, index_nl] at HIX
      have hkI : (k : Int) ≤ (s.size : Int) := by omega
      have hk0 : (0 : Int) ≤ (k : Int) := by omega
      clear hsd
      cases hjk : nl s k with
      | none =>
        rw [salv_end hrf hjk] at h1
        have hnd : nlD s k = -1 := by unfold nlD; rw [hjk]
        rw [hnd] at HIX
        have HH1 := Aside0.mk h1
        clear h1 hrf hjk hnd
        go_wp2_with fail
        obtain ⟨g, hg⟩ : ∃ g, wr.heap.size = g := ⟨_, rfl⟩
        obtain ⟨w5, hw5⟩ : ∃ w5, wr.alloc (.cells #[.string s, .int .i64 (k : Int), .int .i64 0] 75) = w5 := ⟨_, rfl⟩
        have hz : Blk w5 g (cur s k 0) 75 := by rw [← hw5, ← hg]; exact blk_new wr _
        have hb : Below wr.heap.size wr w5 := by rw [← hw5]; exact below_alloc (Below.refl _ _) _
        have HGE := Aside0.mk (show W.heap.size ≤ g by rw [← hg]; exact B.out.size)
        have C5 := Aside0.mk hz
        have R5 := Aside0.mk (Kd.R_below HR.out hb)
        have B5 := Aside0.mk (below_step B.out hb)
        rw [hw5, hg]
        clear hg hz hb hw5
        obtain ⟨he2, hcall⟩ := HBD.out g k b2 e2 _ (HE.out.below B5.out) (by have := H4.out; have := HGE.out; omega) C5.out hkk HRF.out
        have hneb : (e2 == 0) = false := by simp [he2]
        refine hcall.mono ?_
        rintro e' w6 ⟨rfl, hb, hm⟩
        have C6 := Aside0.mk hb
        have R6 := Aside0.mk (Kit.R_mod R5.out C5.out hm)
        have B6 := Aside0.mk (hm.below B5.out HGE.out)
        clear hb hm hcall he2
        go_wp2_with (first
          | ((with_reducible refine gate_dst (N := 6) rfl ?_); refine var_blk (cs := itV zIt) rfl rfl rfl rfl rfl rfl zero39 (itV_size okId_z) (itV_size okId_z) (itV_one _) (fun _ => rfl) (fun _ => rfl) ?_; intro g6 w7 hg6 hz hb; have R7 := Aside0.mk (Kd.R_below R6.out hb); have B7 := Aside0.mk (below_step B6.out hb); have hc := cur_cells (C6.out.below hb); obtain ⟨c0, c1, c2, f1, f2⟩ := hc; clear hg6 hz hb))
        clear hsx
        refine (HIX.out _).mono ?_
        rintro e' w8 ⟨rfl, rfl⟩
        go_wp2_with fail
        rw [Exit.noGoto_ret]
        go_ret
        exact ⟨_, rfl, by rw [← HH1.out]; exact R7.out, B7.out⟩
      | some j =>
        have hjl := nl_le s k j hjk
        rw [salv_skip hrf hjk] at h1
        obtain ⟨d, hd⟩ : ∃ d, j - k = d := ⟨_, rfl⟩
        have hnd : nlD s k = (d : Int) := by unfold nlD; rw [hjk]; simp only [hd]
        rw [hnd] at HIX
        have HH1 := Aside0.mk h1
        have HD := Aside0.mk hd
        have hkd : (k : Int) + ((d : Int) + 1) = ((j + 1 : Nat) : Int) := by omega
        have hd1 : d ≤ 1000000 := by omega
        clear h1 hrf hjk hnd hd
        go_wp2_with fail
        obtain ⟨g, hg⟩ : ∃ g, wr.heap.size = g := ⟨_, rfl⟩
        obtain ⟨w5, hw5⟩ : ∃ w5, wr.alloc (.cells #[.string s, .int .i64 (k : Int), .int .i64 0] 75) = w5 := ⟨_, rfl⟩
        have hz : Blk w5 g (cur s k 0) 75 := by rw [← hw5, ← hg]; exact blk_new wr _
        have hb : Below wr.heap.size wr w5 := by rw [← hw5]; exact below_alloc (Below.refl _ _) _
        have HGE := Aside0.mk (show W.heap.size ≤ g by rw [← hg]; exact B.out.size)
        have C5 := Aside0.mk hz
        have R5 := Aside0.mk (Kd.R_below HR.out hb)
        have B5 := Aside0.mk (below_step B.out hb)
        rw [hw5, hg]
        clear hg hz hb hw5
        obtain ⟨he2, hcall⟩ := HBD.out g k b2 e2 _ (HE.out.below B5.out) (by have := H4.out; have := HGE.out; omega) C5.out hkk HRF.out
        have hneb : (e2 == 0) = false := by simp [he2]
        refine hcall.mono ?_
        rintro e' w6 ⟨rfl, hb, hm⟩
        have C6 := Aside0.mk hb
        have R6 := Aside0.mk (Kit.R_mod R5.out C5.out hm)
        have B6 := Aside0.mk (hm.below B5.out HGE.out)
        clear hb hm hcall he2
        go_wp2_with (first
          | ((with_reducible refine gate_dst (N := 6) rfl ?_); refine var_blk (cs := itV zIt) rfl rfl rfl rfl rfl rfl zero39 (itV_size okId_z) (itV_size okId_z) (itV_one _) (fun _ => rfl) (fun _ => rfl) ?_; intro g6 w7 hg6 hz hb; have R7 := Aside0.mk (Kd.R_below R6.out hb); have B7 := Aside0.mk (below_step B6.out hb); have hc := cur_cells (C6.out.below hb); obtain ⟨c0, c1, c2, f1, f2⟩ := hc; clear hg6 hz hb))
        clear hsx
        refine (HIX.out _).mono ?_
        rintro e' w8 ⟨rfl, rfl⟩
        go_wp2_with fail
        go_roundg (gk - 1)
        case measure => have := HG.out; omega
        case rel => exact ⟨j + 1, f, acc, by omega, by first | rfl | go_num, by have := HF.out; unfold Hid; omega, by have := HG.out; unfold Hid; omega, R7, ⟨by have := HAL.out; omega⟩, B7, HH1⟩

end Go.Proofs.YtceopllngemnnaaGreatDoor

