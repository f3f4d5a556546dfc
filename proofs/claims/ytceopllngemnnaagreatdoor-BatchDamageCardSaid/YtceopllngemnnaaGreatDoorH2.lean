/-
  read of the document's answer for batches: what it returns. For texts of up to a million bytes.
-/
import Derived.Test.YtceopllngemnnaaGreatDoorH0
import Derived.Test.YtceopllngemnnaaGreatDoorH1
import Derived.Test.YtceopllngemnnaaGreatDoorME
set_option linter.unusedVariables false
set_option linter.unusedSimpArgs false
namespace Go.Proofs.YtceopllngemnnaaGreatDoor
open Go.RowKit Go.Proofs.YtceopllngemnnaaGreatDoorW.PrintWords Go.Proofs.YtceopllngemnnaaGreatDoorW.PrintLast Go.Proofs.YtceopllngemnnaaGreatDoorW.PrintMore Go.Proofs.YtceopllngemnnaaGreatDoor.PRef
attribute [local go_sem] max2_int min2_int max_two min_two

/-! ### plain -/
/-- An item's text, read again. -/
theorem item_same {s : ByteArray} {k nx : Nat} {x : It} (h : readF s k = .inl (x, nx)) : itS x = s.extract k nx := by
  obtain ⟨_, rest, h1, h2⟩ := readF_inv h
  apply data_inj
  rw [itS_data, extract_list, h1, h2, Nat.add_sub_cancel_left, List.take_append_of_le_length (Nat.le_refl _), List.take_of_length_le (Nat.le_refl _)]
theorem item_other {s : ByteArray} {k e b : Nat} {c : Int} {x : It} (hx : okIt x) (hk : k ≤ s.size) (h : readF s k = .inr (b, c)) : itS x ≠ s.extract k e := by
  intro he
  have h1 : s.data.toList.drop k = FM.item (toT x) ++ (s.data.toList.drop k).drop (e - k) := by
    rw [← itS_data, he, extract_list, List.take_append_drop]
  rw [readF_item s k x _ h1 hx] at h
  cases h
theorem readF_nl {s : ByteArray} {k : Nat} (hj : nl s k = none) : readF s k = .inr (s.size, 23) := by unfold readF; rw [hj]
theorem readF_hd {s : ByteArray} {k j : Nat} (hj : nl s k = some j) (hf : headF (s.extract k j) = none) : readF s k = .inr (k, 3) := by unfold readF; rw [hj]; simp only [hf]
theorem readF_of {s : ByteArray} {k j n : Nat} {id : List Int} {c : ByteArray} (hj : nl s k = some j) (hf : headF (s.extract k j) = some (id, n, c)) : readF s k = (if s.size < j + 1 + n + 1 then .inr (s.size, 23) else if bt s ((j + 1 + n : Nat) : Int) ≠ 10 then .inr (j + 1 + n, 3) else if digS (id, s.extract (j + 1) (j + 1 + n)) ≠ c then .inr (k, 22) else .inl ((id, s.extract (j + 1) (j + 1 + n)), j + 1 + n + 1)) := by unfold readF; rw [hj]; simp only [hf]
/-- Words in memory. -/
theorem word_cells {w : World} {base : Nat} {ok : Nat → Prop} {v : Value} {ws : List ByteArray} (h : Kd.R Kd.string 9 w base ok v ws) (hp : 0 < ws.length) : ∃ g cap, v = .slice (some ⟨g, 0, none⟩) ws.length cap ∧ ∀ i s, ws[i]? = some s → ∀ w', Below w.heap.size w w' → w'.cell? ⟨g, i, none⟩ = some (.string s) := by
  obtain ⟨g, cap, rfl, _, _, _⟩ := Kd.R_form h hp
  refine ⟨g, cap, rfl, fun i s hi w' hb => ?_⟩
  have hlt : i < ws.length := (List.getElem?_eq_some_iff.1 hi).1
  have h1 := (Kd.R_celln ByteArray.empty h (i : Int) (by omega) (by omega)).1
  have h2 : rdOf ByteArray.empty ws (i : Int) = s := by simp [rdOf, hi]
  rw [Int.toNat_natCast, h2] at h1
  exact pw_cell_below hb h1

/-! Region tables, printed by rg2.py. -/
def r48_17a.T : Bool × List (List Nat × List Nat) := (true, [([], []), ([], []), ([], []), ([], []), ([], []), ([3, 4], [3, 4]), ([1, 2, 5], [1, 2, 5]), ([0, 6], [0, 6]), ([], []), ([8, 7, 0, 1, 2, 3, 4, 5, 6, 7, 8], [7, 8])])
def r48_17a.B : List Nat := [0, 0, 0, 0, 0, 24, 62, 127, 0, 511]
theorem r48_17a.tab : rtab .any (opsOf Tryz.f48 17) = r48_17a.T := by kernel_rfl
theorem r48_17a.bits : waitsOk r48_17a.T.2 r48_17a.B = true := by kernel_rfl
def r48_18a.T : Bool × List (List Nat × List Nat) := (true, [([], []), ([0], [0]), ([], []), ([], []), ([], []), ([], []), ([4, 5], [4, 5]), ([6], [6]), ([2, 3, 7], [2, 3, 7]), ([1, 8], [1, 8])])
def r48_18a.B : List Nat := [0, 1, 0, 0, 0, 0, 48, 112, 252, 511]
theorem r48_18a.tab : rtab .any (opsOf Tryz.f48 18) = r48_18a.T := by kernel_rfl
theorem r48_18a.bits : waitsOk r48_18a.T.2 r48_18a.B = true := by kernel_rfl
def r48_17b.T : Bool × List (List Nat × List Nat) := (true, [([], []), ([], []), ([], []), ([], []), ([], []), ([3, 4], [3, 4]), ([1, 2, 5], [1, 2, 5]), ([0, 6], [0, 6]), ([], []), ([8, 7, 0, 1, 2, 3, 4, 5, 6, 7, 8], [7, 8])])
def r48_17b.B : List Nat := [0, 0, 0, 0, 0, 24, 62, 127, 0, 511]
theorem r48_17b.tab : rtab .any (opsOf Tryz.f48 17) = r48_17b.T := by kernel_rfl
theorem r48_17b.bits : waitsOk r48_17b.T.2 r48_17b.B = true := by kernel_rfl
def r48_18b.T : Bool × List (List Nat × List Nat) := (true, [([], []), ([0], [0]), ([], []), ([], []), ([], []), ([], []), ([4, 5], [4, 5]), ([6], [6]), ([2, 3, 7], [2, 3, 7]), ([1, 8], [1, 8])])
def r48_18b.B : List Nat := [0, 1, 0, 0, 0, 0, 48, 112, 252, 511]
theorem r48_18b.tab : rtab .any (opsOf Tryz.f48 18) = r48_18b.T := by kernel_rfl
theorem r48_18b.bits : waitsOk r48_18b.T.2 r48_18b.B = true := by kernel_rfl

set_option maxHeartbeats 8000000 in
set_option maxRecDepth 100000 in
theorem rread_none (k : Nat) (s : ByteArray) (W : World) (hs : s.size ≤ 1000000) (hk : k ≤ s.size) (hj : nl s k = none) :
    Calls Tryz.prog 48 #[.string s, .int .i64 k] W fun r w' => r = .returned (.tuple #[.agg (itV zIt), .int .i64 0, .int .i64 s.size, .int .i64 23]) ∧ Below W.heap.size W w' := by
  have HEND := Aside0.mk (fun w => end_any s k w (by omega) hk)
  have hnli : nlI s k = -1 := by unfold nlI; rw [hj]
  rw [hnli] at HEND
  clear hj hnli
  go_enter Tryz.func48, Tryz.ntmps48
  go_wp2_with (first
    | ((with_reducible refine gate_dst (N := 4) rfl ?_); refine alloc_blk rfl rfl rfl zero36 ?_; intro g w1 hg hz hb; have HGE := Aside0.mk (show W.heap.size ≤ g by rw [hg]; exact Nat.le_refl _); have Z1 := Aside0.mk hz; have B1 := Aside0.mk hb; clear hg hz hb))
  refine (HEND.out _).mono ?_
  rintro e w2 ⟨rfl, m2, rfl⟩
  have Z2 := Aside0.mk (show Blk (w1.drewN m2) g (itV zIt) 36 from Z1.out)
  have B2 := Aside0.mk (pw_below_drewN B1.out m2)
  generalize w1.drewN m2 = w2 at Z2 B2 ⊢
  clear Z1 B1
  go_wp2_with (first
    | ((with_reducible refine gate_dst (N := 23) rfl ?_); refine build_blk rfl rfl rfl builtz36 ?_)
    | ((with_reducible refine gate_store (t := 36) (p := 4) (v := .tmp 23) rfl ?_); refine store_blk_l (W := w2) (cs := itV zIt) rfl rfl rfl rfl rfl Z2.out (by rw [itV_size okId_z]; exact size36) rfl (itV_one _) ?_; intro w9 hz hb hn; have Z9 := Aside0.mk hz; have B9 := Aside0.mk (hb _ _ HGE.out B2.out); clear hz hb hn))
  refine bodyPost_ret (results_cttt rfl _ _ g 36 (itV zIt) (0, 0) _ ?hp Z9.out Tryz.underlying36 rfl (by rw [itV_size okId_z]; exact size36)) rfl ?_
  case hp => rfl
  exact ⟨rfl, B9.out⟩

set_option maxHeartbeats 8000000 in
set_option maxRecDepth 100000 in
theorem rread_head (k j : Nat) (s : ByteArray) (W : World) (hs : s.size ≤ 1000000) (hk : k ≤ s.size) (hj : nl s k = some j) (hf : headF (s.extract k j) = none) :
    Calls Tryz.prog 48 #[.string s, .int .i64 k] W fun r w' => r = .returned (.tuple #[.agg (itV zIt), .int .i64 0, .int .i64 k, .int .i64 3]) ∧ Below W.heap.size W w' := by
  have hjl := nl_le s k j hj
  obtain ⟨ln, hln⟩ : ∃ ln, s.extract k j = ln := ⟨_, rfl⟩
  have hlns : ln.size ≤ 1000000 := by rw [← hln, ← data_length, extract_list, List.length_take, List.length_drop, data_length]; omega
  have HEND := Aside0.mk (fun w => end_any s k w (by omega) hk)
  have hnli : nlI s k = (j : Int) := by unfold nlI; rw [hj]
  rw [hnli] at HEND
  rw [hln] at hf
  have HWD := Aside0.mk (fun w => rwords_any ln w hlns)
  obtain ⟨p, hpj⟩ : ∃ p, j + 1 = p := ⟨_, rfl⟩
  have hps : p ≤ s.size := by omega
  have hpI : (j : Int) + 1 = (p : Int) := by omega
  have hkj : (k : Int) ≤ (j : Int) := by omega
  have hjs : (j : Int) ≤ (s.size : Int) := by omega
  obtain ⟨ws, hws⟩ : ∃ ws, wordsF ln = ws := ⟨_, rfl⟩
  unfold headF at hf
  have HWS := Aside0.mk (fun x (hx : x ∈ wordsF ln) => word_size hx)
  have hne := words_ne ln
  rw [hws] at hf HWD HWS hne
  obtain ⟨n, hn⟩ : ∃ n, ws.length = n := ⟨_, rfl⟩
  have hn0 : 0 < ws.length := List.length_pos_iff.mpr hne
  clear hj hnli hjl hpj hws hne
  by_cases h4 : n = 4
  · obtain ⟨a, b, c, d, rfl⟩ : ∃ a b c d, ws = [a, b, c, d] := by
      match ws, hn.trans h4 with
      | [a, b, c, d], _ => exact ⟨a, b, c, d, rfl⟩
    subst h4
    simp only [] at hf
    by_cases ha' : a = artB
    · subst ha'
      have hal : artB.toList = [97, 114, 116, 105, 99, 108, 101] := by rw [ByteArray.toList_eq]; rfl
      have hcs := HWS.out c (by simp)
      have hds := HWS.out d (by simp)
      by_cases hc32 : c.size = 32
      · obtain ⟨v, hv⟩ : ∃ v, numR b 65536 = v := ⟨_, rfl⟩
        obtain ⟨lu, e2, hu⟩ : ∃ l e, unhexF c = (l, e) := ⟨_, _, rfl⟩
        have HNU := Aside0.mk (fun w => rnumber_any b 65536 w (by omega))
        rw [hv] at HNU
        have HUX := Aside0.mk (fun w => refUnhex_any c lu e2 w (by omega) hu)
        have hbad : v < 0 ∨ e2 ≠ 0 ∨ parseF d = none := by
          by_cases h1 : v < 0
          · exact .inl h1
          · by_cases h2 : e2 = 0
            · refine .inr (.inr ?_)
              have hb0 : (numF b 65536).2 = 0 := by
                by_cases h3 : (numF b 65536).2 = 0
                · exact h3
                · exfalso; unfold numR at hv; rw [if_neg h3] at hv; omega
              rw [if_pos ⟨rfl, hb0, by rw [hu]; exact h2, hc32⟩] at hf
              simpa using hf
            · exact .inr (.inl h2)
        have HBAD := Aside0.mk hbad
        have HPO := Aside0.mk (fun i (h : parseF d = some i) w => rparse_ok d i w h)
        have HPB := Aside0.mk (fun (h : parseF d = none) w => rparse_bad d w (by omega) h)
        have hc1 : (c.size : Int) = 32 := by omega
        clear hf hv hu hbad hc32 HWS
        go_enter Tryz.func48, Tryz.ntmps48
        go_wp2_with (first
          | ((with_reducible refine gate_dst (N := 4) rfl ?_); refine alloc_blk rfl rfl rfl zero36 ?_; intro g w1 hg hz hb; have HGE := Aside0.mk (show W.heap.size ≤ g by rw [hg]; exact Nat.le_refl _); have Z1 := Aside0.mk hz; have B1 := Aside0.mk hb; clear hg hz hb))
        refine (HEND.out _).mono ?_
        rintro e w2 ⟨rfl, m2, rfl⟩
        have Z2 := Aside0.mk (show Blk (w1.drewN m2) g (itV zIt) 36 from Z1.out)
        have B2 := Aside0.mk (pw_below_drewN B1.out m2)
        generalize w1.drewN m2 = w2 at Z2 B2 ⊢
        clear Z1 B1
        go_wp2_with fail
        clear hln
        refine (HWD.out _).mono ?_
        rintro e w3 ⟨v3, rfl, hr, hb⟩
        obtain ⟨g6, cap6, rfl, hcells⟩ := word_cells hr (by simp)
        have HCE := Aside0.mk hcells
        have Z3 := Aside0.mk (Z2.out.below hb)
        have B3 := Aside0.mk (below_step B2.out hb)
        clear hr hcells hb Z2 B2
        have k0 := HCE.out 0 _ rfl _ (Below.refl _ _)
        have k2 := HCE.out 2 _ rfl _ (Below.refl _ _)
        have k1 := HCE.out 1 _ rfl _ (Below.refl _ _)
        go_wp2_with fail
        refine (HNU.out _).mono ?_
        rintro e w4 ⟨rfl, m4, rfl⟩
        have Z4 := Aside0.mk (show Blk (w3.drewN m4) g (itV zIt) 36 from Z3.out)
        have B4 := Aside0.mk (pw_below_drewN B3.out m4)
        have E4 := Aside0.mk (pw_below_drewN (Below.refl w3.heap.size w3) m4)
        generalize w3.drewN m4 = w4 at Z4 B4 E4 ⊢
        clear Z3 B3 k0 k1 k2
        have k2 := HCE.out 2 _ rfl _ E4.out
        go_wp2_with fail
        refine (HUX.out _).mono ?_
        rintro e w5 ⟨vu, rfl, _, hb⟩
        have Z5 := Aside0.mk (Z4.out.below hb)
        have B5 := Aside0.mk (below_step B4.out hb)
        have E5 := Aside0.mk (below_step E4.out hb)
        clear hb Z4 B4 E4 k2
        have k3 := HCE.out 3 _ rfl _ E5.out
        go_wp2_with fail
        cases hpd : parseF d with
        | some i =>
          have HI := Aside0.mk ((parseF_some d i).mp hpd).1
          refine (HPO.out i hpd _).mono ?_
          rintro e w6 ⟨rfl, hb⟩
          have Z6 := Aside0.mk (Z5.out.below hb)
          have B6 := Aside0.mk (below_step B5.out hb)
          clear hb Z5 B5 E5 k3 HPO HPB
          have hbd : v < 0 ∨ ¬ v < 0 ∧ e2 ≠ 0 := by
            rcases HBAD.out with h | h | h
            · exact .inl h
            · by_cases h1 : v < 0
              · exact .inl h1
              · exact .inr ⟨h1, h⟩
            · rw [hpd] at h; cases h
          clear hpd
          rcases hbd with h1 | ⟨h1, h2⟩
          · go_wp2_with (first
              | ((with_reducible refine gate_dst (N := 13) rfl ?_); refine var_blk (cs := u8s i) rfl rfl rfl rfl rfl rfl zero34 (by rw [u8s_size]; rfl) (by rw [u8s_size, HI.out.1]) (u8s_one _) (fun _ => rfl) (fun _ => rfl) ?_; intro g13 w7 hg hz hb; have Z7 := Aside0.mk (Z6.out.below hb); have B7 := Aside0.mk (below_step B6.out hb); clear hg hz hb)
              | ((with_reducible refine gate_dst (N := 78) rfl ?_); refine build_blk rfl rfl rfl builtz36 ?_)
              | ((with_reducible refine gate_store (t := 36) (p := 4) (v := .tmp 78) rfl ?_); refine store_blk_l (W := w7) (cs := itV zIt) rfl rfl rfl rfl rfl Z7.out (by rw [itV_size okId_z]; exact size36) rfl (itV_one _) ?_; intro w9 hz hb hn; have Z9 := Aside0.mk hz; have B9 := Aside0.mk (hb _ _ HGE.out B7.out); clear hz hb hn))
            refine bodyPost_ret (results_cttt rfl _ _ g 36 (itV zIt) (0, 0) _ ?hp Z9.out Tryz.underlying36 rfl (by rw [itV_size okId_z]; exact size36)) rfl ?_
            case hp => rfl
            exact ⟨rfl, B9.out⟩
          · have h2b : (e2 != 0) = true := by simp [h2]
            go_wp2_with (first
              | ((with_reducible refine gate_dst (N := 13) rfl ?_); refine var_blk (cs := u8s i) rfl rfl rfl rfl rfl rfl zero34 (by rw [u8s_size]; rfl) (by rw [u8s_size, HI.out.1]) (u8s_one _) (fun _ => rfl) (fun _ => rfl) ?_; intro g13 w7 hg hz hb; have Z7 := Aside0.mk (Z6.out.below hb); have B7 := Aside0.mk (below_step B6.out hb); clear hg hz hb)
              | ((with_reducible refine gate_dst (N := 78) rfl ?_); refine build_blk rfl rfl rfl builtz36 ?_)
              | ((with_reducible refine gate_store (t := 36) (p := 4) (v := .tmp 78) rfl ?_); refine store_blk_l (W := w7) (cs := itV zIt) rfl rfl rfl rfl rfl Z7.out (by rw [itV_size okId_z]; exact size36) rfl (itV_one _) ?_; intro w9 hz hb hn; have Z9 := Aside0.mk hz; have B9 := Aside0.mk (hb _ _ HGE.out B7.out); clear hz hb hn))
            refine bodyPost_ret (results_cttt rfl _ _ g 36 (itV zIt) (0, 0) _ ?hp Z9.out Tryz.underlying36 rfl (by rw [itV_size okId_z]; exact size36)) rfl ?_
            case hp => rfl
            exact ⟨rfl, B9.out⟩
        | none =>
          refine (HPB.out hpd _).mono ?_
          rintro e w6 ⟨kk, e3, h3, rfl, hb⟩
          have HI := Aside0.mk (show okId zId from okId_z)
          have Z6 := Aside0.mk (Z5.out.below hb)
          have B6 := Aside0.mk (below_step B5.out hb)
          have h3b : (e3 != 0) = true := by simp [h3]
          clear hb Z5 B5 E5 k3 HPO HPB hpd
          by_cases h1 : v < 0
          · go_wp2_with (first
              | ((with_reducible refine gate_dst (N := 13) rfl ?_); refine var_blk (cs := u8s zId) rfl rfl rfl rfl rfl rfl zero34 (by rw [u8s_size]; rfl) (by rw [u8s_size, HI.out.1]) (u8s_one _) (fun _ => rfl) (fun _ => rfl) ?_; intro g13 w7 hg hz hb; have Z7 := Aside0.mk (Z6.out.below hb); have B7 := Aside0.mk (below_step B6.out hb); clear hg hz hb)
              | ((with_reducible refine gate_dst (N := 78) rfl ?_); refine build_blk rfl rfl rfl builtz36 ?_)
              | ((with_reducible refine gate_store (t := 36) (p := 4) (v := .tmp 78) rfl ?_); refine store_blk_l (W := w7) (cs := itV zIt) rfl rfl rfl rfl rfl Z7.out (by rw [itV_size okId_z]; exact size36) rfl (itV_one _) ?_; intro w9 hz hb hn; have Z9 := Aside0.mk hz; have B9 := Aside0.mk (hb _ _ HGE.out B7.out); clear hz hb hn))
            refine bodyPost_ret (results_cttt rfl _ _ g 36 (itV zIt) (0, 0) _ ?hp Z9.out Tryz.underlying36 rfl (by rw [itV_size okId_z]; exact size36)) rfl ?_
            case hp => rfl
            exact ⟨rfl, B9.out⟩
          · by_cases h2 : e2 = 0
            · subst h2
              go_wp2_with (first
                | ((with_reducible refine gate_dst (N := 13) rfl ?_); refine var_blk (cs := u8s zId) rfl rfl rfl rfl rfl rfl zero34 (by rw [u8s_size]; rfl) (by rw [u8s_size, HI.out.1]) (u8s_one _) (fun _ => rfl) (fun _ => rfl) ?_; intro g13 w7 hg hz hb; have Z7 := Aside0.mk (Z6.out.below hb); have B7 := Aside0.mk (below_step B6.out hb); clear hg hz hb)
                | ((with_reducible refine gate_dst (N := 78) rfl ?_); refine build_blk rfl rfl rfl builtz36 ?_)
                | ((with_reducible refine gate_store (t := 36) (p := 4) (v := .tmp 78) rfl ?_); refine store_blk_l (W := w7) (cs := itV zIt) rfl rfl rfl rfl rfl Z7.out (by rw [itV_size okId_z]; exact size36) rfl (itV_one _) ?_; intro w9 hz hb hn; have Z9 := Aside0.mk hz; have B9 := Aside0.mk (hb _ _ HGE.out B7.out); clear hz hb hn))
              refine bodyPost_ret (results_cttt rfl _ _ g 36 (itV zIt) (0, 0) _ ?hp Z9.out Tryz.underlying36 rfl (by rw [itV_size okId_z]; exact size36)) rfl ?_
              case hp => rfl
              exact ⟨rfl, B9.out⟩
            · have h2b : (e2 != 0) = true := by simp [h2]
              go_wp2_with (first
                | ((with_reducible refine gate_dst (N := 13) rfl ?_); refine var_blk (cs := u8s zId) rfl rfl rfl rfl rfl rfl zero34 (by rw [u8s_size]; rfl) (by rw [u8s_size, HI.out.1]) (u8s_one _) (fun _ => rfl) (fun _ => rfl) ?_; intro g13 w7 hg hz hb; have Z7 := Aside0.mk (Z6.out.below hb); have B7 := Aside0.mk (below_step B6.out hb); clear hg hz hb)
                | ((with_reducible refine gate_dst (N := 78) rfl ?_); refine build_blk rfl rfl rfl builtz36 ?_)
                | ((with_reducible refine gate_store (t := 36) (p := 4) (v := .tmp 78) rfl ?_); refine store_blk_l (W := w7) (cs := itV zIt) rfl rfl rfl rfl rfl Z7.out (by rw [itV_size okId_z]; exact size36) rfl (itV_one _) ?_; intro w9 hz hb hn; have Z9 := Aside0.mk hz; have B9 := Aside0.mk (hb _ _ HGE.out B7.out); clear hz hb hn))
              refine bodyPost_ret (results_cttt rfl _ _ g 36 (itV zIt) (0, 0) _ ?hp Z9.out Tryz.underlying36 rfl (by rw [itV_size okId_z]; exact size36)) rfl ?_
              case hp => rfl
              exact ⟨rfl, B9.out⟩
      · have hc1 : ¬ (c.size : Int) = 32 := by omega
        have hc2 : ((c.size : Int) != 32) = true := by simp; omega
        clear hf hc32 HWS
        go_enter Tryz.func48, Tryz.ntmps48
        go_wp2_with (first
          | ((with_reducible refine gate_dst (N := 4) rfl ?_); refine alloc_blk rfl rfl rfl zero36 ?_; intro g w1 hg hz hb; have HGE := Aside0.mk (show W.heap.size ≤ g by rw [hg]; exact Nat.le_refl _); have Z1 := Aside0.mk hz; have B1 := Aside0.mk hb; clear hg hz hb))
        refine (HEND.out _).mono ?_
        rintro e w2 ⟨rfl, m2, rfl⟩
        have Z2 := Aside0.mk (show Blk (w1.drewN m2) g (itV zIt) 36 from Z1.out)
        have B2 := Aside0.mk (pw_below_drewN B1.out m2)
        generalize w1.drewN m2 = w2 at Z2 B2 ⊢
        clear Z1 B1
        go_wp2_with fail
        clear hln
        refine (HWD.out _).mono ?_
        rintro e w3 ⟨v3, rfl, hr, hb⟩
        obtain ⟨g6, cap6, rfl, hcells⟩ := word_cells hr (by simp)
        have HCE := Aside0.mk hcells
        have Z3 := Aside0.mk (Z2.out.below hb)
        have B3 := Aside0.mk (below_step B2.out hb)
        clear hr hcells hb Z2 B2
        have k0 := HCE.out 0 _ rfl _ (Below.refl _ _)
        have k2 := HCE.out 2 _ rfl _ (Below.refl _ _)
        have k1 := HCE.out 1 _ rfl _ (Below.refl _ _)
        go_wp2_with (first
          | ((with_reducible refine gate_dst (N := 47) rfl ?_); refine build_blk rfl rfl rfl builtz36 ?_)
          | ((with_reducible refine gate_store (t := 36) (p := 4) (v := .tmp 47) rfl ?_); refine store_blk_l (W := w3) (cs := itV zIt) rfl rfl rfl rfl rfl Z3.out (by rw [itV_size okId_z]; exact size36) rfl (itV_one _) ?_; intro w9 hz hb hn; have Z9 := Aside0.mk hz; have B9 := Aside0.mk (hb _ _ HGE.out B3.out); clear hz hb hn))
        refine bodyPost_ret (results_cttt rfl _ _ g 36 (itV zIt) (0, 0) _ ?hp Z9.out Tryz.underlying36 rfl (by rw [itV_size okId_z]; exact size36)) rfl ?_
        case hp => rfl
        exact ⟨rfl, B9.out⟩
    · have hal := artB_ne ha'
      have hal2 : (a.toList == [97, 114, 116, 105, 99, 108, 101]) = false := by simp [hal]
      clear hf ha' HWS
      go_enter Tryz.func48, Tryz.ntmps48
      go_wp2_with (first
        | ((with_reducible refine gate_dst (N := 4) rfl ?_); refine alloc_blk rfl rfl rfl zero36 ?_; intro g w1 hg hz hb; have HGE := Aside0.mk (show W.heap.size ≤ g by rw [hg]; exact Nat.le_refl _); have Z1 := Aside0.mk hz; have B1 := Aside0.mk hb; clear hg hz hb))
      refine (HEND.out _).mono ?_
      rintro e w2 ⟨rfl, m2, rfl⟩
      have Z2 := Aside0.mk (show Blk (w1.drewN m2) g (itV zIt) 36 from Z1.out)
      have B2 := Aside0.mk (pw_below_drewN B1.out m2)
      generalize w1.drewN m2 = w2 at Z2 B2 ⊢
      clear Z1 B1
      go_wp2_with fail
      clear hln
      refine (HWD.out _).mono ?_
      rintro e w3 ⟨v3, rfl, hr, hb⟩
      obtain ⟨g6, cap6, rfl, hcells⟩ := word_cells hr (by simp)
      have HCE := Aside0.mk hcells
      have Z3 := Aside0.mk (Z2.out.below hb)
      have B3 := Aside0.mk (below_step B2.out hb)
      clear hr hcells hb Z2 B2
      have k0 := HCE.out 0 _ rfl _ (Below.refl _ _)
      have k2 := HCE.out 2 _ rfl _ (Below.refl _ _)
      have k1 := HCE.out 1 _ rfl _ (Below.refl _ _)
      go_wp2_with (first
        | ((with_reducible refine gate_dst (N := 47) rfl ?_); refine build_blk rfl rfl rfl builtz36 ?_)
        | ((with_reducible refine gate_store (t := 36) (p := 4) (v := .tmp 47) rfl ?_); refine store_blk_l (W := w3) (cs := itV zIt) rfl rfl rfl rfl rfl Z3.out (by rw [itV_size okId_z]; exact size36) rfl (itV_one _) ?_; intro w9 hz hb hn; have Z9 := Aside0.mk hz; have B9 := Aside0.mk (hb _ _ HGE.out B3.out); clear hz hb hn))
      refine bodyPost_ret (results_cttt rfl _ _ g 36 (itV zIt) (0, 0) _ ?hp Z9.out Tryz.underlying36 rfl (by rw [itV_size okId_z]; exact size36)) rfl ?_
      case hp => rfl
      exact ⟨rfl, B9.out⟩
  · have hn4 : ((n : Int) != 4) = true := by simp; omega
    have hn5 : ¬ (n : Int) = 4 := by omega
    have HN := Aside0.mk hn
    clear hf HWS hn
    go_enter Tryz.func48, Tryz.ntmps48
    go_wp2_with (first
      | ((with_reducible refine gate_dst (N := 4) rfl ?_); refine alloc_blk rfl rfl rfl zero36 ?_; intro g w1 hg hz hb; have HGE := Aside0.mk (show W.heap.size ≤ g by rw [hg]; exact Nat.le_refl _); have Z1 := Aside0.mk hz; have B1 := Aside0.mk hb; clear hg hz hb))
    refine (HEND.out _).mono ?_
    rintro e w2 ⟨rfl, m2, rfl⟩
    have Z2 := Aside0.mk (show Blk (w1.drewN m2) g (itV zIt) 36 from Z1.out)
    have B2 := Aside0.mk (pw_below_drewN B1.out m2)
    generalize w1.drewN m2 = w2 at Z2 B2 ⊢
    clear Z1 B1
    go_wp2_with fail
    clear hln
    refine (HWD.out _).mono ?_
    rintro e w3 ⟨v3, rfl, hr, hb⟩
    obtain ⟨g6, cap6, rfl, hcells⟩ := word_cells hr hn0
    rw [HN.out]
    clear hn0
    have HCE := Aside0.mk hcells
    have Z3 := Aside0.mk (Z2.out.below hb)
    have B3 := Aside0.mk (below_step B2.out hb)
    clear hr hcells hb Z2 B2
    go_wp2_with (first
      | ((with_reducible refine gate_dst (N := 47) rfl ?_); refine build_blk rfl rfl rfl builtz36 ?_)
      | ((with_reducible refine gate_store (t := 36) (p := 4) (v := .tmp 47) rfl ?_); refine store_blk_l (W := w3) (cs := itV zIt) rfl rfl rfl rfl rfl Z3.out (by rw [itV_size okId_z]; exact size36) rfl (itV_one _) ?_; intro w9 hz hb hn; have Z9 := Aside0.mk hz; have B9 := Aside0.mk (hb _ _ HGE.out B3.out); clear hz hb hn))
    refine bodyPost_ret (results_cttt rfl _ _ g 36 (itV zIt) (0, 0) _ ?hp Z9.out Tryz.underlying36 rfl (by rw [itV_size okId_z]; exact size36)) rfl ?_
    case hp => rfl
    exact ⟨rfl, B9.out⟩

set_option maxHeartbeats 8000000 in
set_option maxRecDepth 100000 in
theorem rread_short (k j n : Nat) (id : List Int) (c : ByteArray) (s : ByteArray) (W : World) (hs : s.size ≤ 1000000) (hk : k ≤ s.size) (hj : nl s k = some j) (hf : headF (s.extract k j) = some (id, n, c)) (hl : s.size < j + 1 + n + 1) :
    Calls Tryz.prog 48 #[.string s, .int .i64 k] W fun r w' => r = .returned (.tuple #[.agg (itV zIt), .int .i64 0, .int .i64 s.size, .int .i64 23]) ∧ Below W.heap.size W w' := by
  have hjl := nl_le s k j hj
  obtain ⟨ln, hln⟩ : ∃ ln, s.extract k j = ln := ⟨_, rfl⟩
  have hlns : ln.size ≤ 1000000 := by rw [← hln, ← data_length, extract_list, List.length_take, List.length_drop, data_length]; omega
  have HEND := Aside0.mk (fun w => end_any s k w (by omega) hk)
  have hnli : nlI s k = (j : Int) := by unfold nlI; rw [hj]
  rw [hnli] at HEND
  rw [hln] at hf
  have HWD := Aside0.mk (fun w => rwords_any ln w hlns)
  obtain ⟨p, hpj⟩ : ∃ p, j + 1 = p := ⟨_, rfl⟩
  have hps : p ≤ s.size := by omega
  have hpI : (j : Int) + 1 = (p : Int) := by omega
  have hkj : (k : Int) ≤ (j : Int) := by omega
  have hjs : (j : Int) ≤ (s.size : Int) := by omega
  obtain ⟨a, b, d, hws, rfl, hb0, hu0, hc32, hpd, hbn⟩ := headF_some hf
  have hnr := numF_range b 65536 (by omega) (by omega)
  have hn64 : n ≤ 65536 := by omega
  have hvR : numR b 65536 = (n : Int) := by unfold numR; rw [if_pos hb0]; omega
  have HNU := Aside0.mk (fun w => rnumber_any b 65536 w (by omega))
  rw [hvR] at HNU
  have HUX := Aside0.mk (fun w => refUnhex_any c (unhexF c).1 0 w (by omega) (by rw [← hu0]))
  have HPA := Aside0.mk (fun w => rparse_ok d id w hpd)
  have HI := Aside0.mk ((parseF_some d id).mp hpd).1
  have hal : artB.toList = [97, 114, 116, 105, 99, 108, 101] := by rw [ByteArray.toList_eq]; rfl
  have hc1 : (c.size : Int) = 32 := by omega
  rw [hws] at HWD
  rw [hpj] at hl
  obtain ⟨en, hen⟩ : ∃ en, p + n = en := ⟨_, rfl⟩
  rw [hen] at hl
  have henI : (p : Int) + (n : Int) = (en : Int) := by omega
  have hns : (s.size : Int) - (p : Int) = ((s.size - p : Nat) : Int) := by omega
  have henb : en ≤ 2000000 := by omega
  have hlt : (s.size : Int) - (p : Int) < (n : Int) + 1 := by omega
  clear hns
  clear hj hnli hjl hpj hf hws hb0 hu0 hc32 hpd hbn hnr hvR hen
  go_enter Tryz.func48, Tryz.ntmps48
  go_wp2_with (first
    | ((with_reducible refine gate_dst (N := 4) rfl ?_); refine alloc_blk rfl rfl rfl zero36 ?_; intro g w1 hg hz hb; have HGE := Aside0.mk (show W.heap.size ≤ g by rw [hg]; exact Nat.le_refl _); have Z1 := Aside0.mk hz; have B1 := Aside0.mk hb; clear hg hz hb))
  refine (HEND.out _).mono ?_
  rintro e w2 ⟨rfl, m2, rfl⟩
  have Z2 := Aside0.mk (show Blk (w1.drewN m2) g (itV zIt) 36 from Z1.out)
  have B2 := Aside0.mk (pw_below_drewN B1.out m2)
  generalize w1.drewN m2 = w2 at Z2 B2 ⊢
  clear Z1 B1
  go_wp2_with fail
  clear hln
  refine (HWD.out _).mono ?_
  rintro e w3 ⟨v3, rfl, hr, hb⟩
  obtain ⟨g6, cap6, rfl, hcells⟩ := word_cells hr (by simp)
  have HCE := Aside0.mk hcells
  have Z3 := Aside0.mk (Z2.out.below hb)
  have B3 := Aside0.mk (below_step B2.out hb)
  clear hr hcells hb Z2 B2
  have k0 := HCE.out 0 _ rfl _ (Below.refl _ _)
  have k2 := HCE.out 2 _ rfl _ (Below.refl _ _)
  have k1 := HCE.out 1 _ rfl _ (Below.refl _ _)
  go_wp2_with fail
  refine (HNU.out _).mono ?_
  rintro e w4 ⟨rfl, m4, rfl⟩
  have Z4 := Aside0.mk (show Blk (w3.drewN m4) g (itV zIt) 36 from Z3.out)
  have B4 := Aside0.mk (pw_below_drewN B3.out m4)
  have E4 := Aside0.mk (pw_below_drewN (Below.refl w3.heap.size w3) m4)
  generalize w3.drewN m4 = w4 at Z4 B4 E4 ⊢
  clear Z3 B3 k0 k1 k2
  have k2 := HCE.out 2 _ rfl _ E4.out
  go_wp2_with fail
  refine (HUX.out _).mono ?_
  rintro e w5 ⟨vu, rfl, _, hb⟩
  have Z5 := Aside0.mk (Z4.out.below hb)
  have B5 := Aside0.mk (below_step B4.out hb)
  have E5 := Aside0.mk (below_step E4.out hb)
  clear hb Z4 B4 E4 k2
  have k3 := HCE.out 3 _ rfl _ E5.out
  go_wp2_with fail
  refine (HPA.out _).mono ?_
  rintro e w6 ⟨rfl, hb⟩
  have Z6 := Aside0.mk (Z5.out.below hb)
  have B6 := Aside0.mk (below_step B5.out hb)
  clear hb Z5 B5 E5 k3
  go_upto_region 10 with (first
    | ((with_reducible refine gate_dst (N := 13) rfl ?_); refine var_blk (cs := u8s id) rfl rfl rfl rfl rfl rfl zero34 (by rw [u8s_size]; rfl) (by rw [u8s_size, HI.out.1]) (u8s_one _) (fun _ => rfl) (fun _ => rfl) ?_; intro g13 w7 hg hz hb; have Y7 := Aside0.mk hz; have Z7 := Aside0.mk (Z6.out.below hb); have B7 := Aside0.mk (below_step B6.out hb); clear hg hz hb))
  go_wp2_with (first
    | ((with_reducible refine gate_dst (N := 89) rfl ?_); refine build_blk rfl rfl rfl builtz36 ?_)
    | ((with_reducible refine gate_store (t := 36) (p := 4) (v := .tmp 89) rfl ?_); refine store_blk_l (W := w7) (cs := itV zIt) rfl rfl rfl rfl rfl Z7.out (by rw [itV_size okId_z]; exact size36) rfl (itV_one _) ?_; intro w9 hz hb hn; have Z9 := Aside0.mk hz; have B9 := Aside0.mk (hb _ _ HGE.out B7.out); clear hz hb hn))
  refine bodyPost_ret (results_cttt rfl _ _ g 36 (itV zIt) (0, 0) _ ?hp Z9.out Tryz.underlying36 rfl (by rw [itV_size okId_z]; exact size36)) rfl ?_
  case hp => rfl
  exact ⟨rfl, B9.out⟩

set_option maxHeartbeats 8000000 in
set_option maxRecDepth 100000 in
theorem rread_feed (k j n : Nat) (id : List Int) (c : ByteArray) (s : ByteArray) (W : World) (hs : s.size ≤ 1000000) (hk : k ≤ s.size) (hj : nl s k = some j) (hf : headF (s.extract k j) = some (id, n, c)) (hl : ¬ s.size < j + 1 + n + 1) (h10 : bt s ((j + 1 + n : Nat) : Int) ≠ 10) :
    Calls Tryz.prog 48 #[.string s, .int .i64 k] W fun r w' => r = .returned (.tuple #[.agg (itV zIt), .int .i64 0, .int .i64 ((j + 1 + n : Nat) : Int), .int .i64 3]) ∧ Below W.heap.size W w' := by
  have hjl := nl_le s k j hj
  obtain ⟨ln, hln⟩ : ∃ ln, s.extract k j = ln := ⟨_, rfl⟩
  have hlns : ln.size ≤ 1000000 := by rw [← hln, ← data_length, extract_list, List.length_take, List.length_drop, data_length]; omega
  have HEND := Aside0.mk (fun w => end_any s k w (by omega) hk)
  have hnli : nlI s k = (j : Int) := by unfold nlI; rw [hj]
  rw [hnli] at HEND
  rw [hln] at hf
  have HWD := Aside0.mk (fun w => rwords_any ln w hlns)
  obtain ⟨p, hpj⟩ : ∃ p, j + 1 = p := ⟨_, rfl⟩
  have hps : p ≤ s.size := by omega
  have hpI : (j : Int) + 1 = (p : Int) := by omega
  have hkj : (k : Int) ≤ (j : Int) := by omega
  have hjs : (j : Int) ≤ (s.size : Int) := by omega
  obtain ⟨a, b, d, hws, rfl, hb0, hu0, hc32, hpd, hbn⟩ := headF_some hf
  have hnr := numF_range b 65536 (by omega) (by omega)
  have hn64 : n ≤ 65536 := by omega
  have hvR : numR b 65536 = (n : Int) := by unfold numR; rw [if_pos hb0]; omega
  have HNU := Aside0.mk (fun w => rnumber_any b 65536 w (by omega))
  rw [hvR] at HNU
  have HUX := Aside0.mk (fun w => refUnhex_any c (unhexF c).1 0 w (by omega) (by rw [← hu0]))
  have HPA := Aside0.mk (fun w => rparse_ok d id w hpd)
  have HI := Aside0.mk ((parseF_some d id).mp hpd).1
  have hal : artB.toList = [97, 114, 116, 105, 99, 108, 101] := by rw [ByteArray.toList_eq]; rfl
  have hc1 : (c.size : Int) = 32 := by omega
  rw [hws] at HWD
  rw [hpj] at hl h10 ⊢
  obtain ⟨en, hen⟩ : ∃ en, p + n = en := ⟨_, rfl⟩
  rw [hen] at hl h10 ⊢
  have henI : (p : Int) + (n : Int) = (en : Int) := by omega
  have hns : (s.size : Int) - (p : Int) = ((s.size - p : Nat) : Int) := by omega
  have henb : en ≤ 2000000 := by omega
  have hlt : ¬ (s.size : Int) - (p : Int) < (n : Int) + 1 := by omega
  have hes : en < s.size := by omega
  have hesI : (en : Int) < (s.size : Int) := by omega
  obtain ⟨bb, hbb⟩ : ∃ b, bt s (en : Int) = b := ⟨_, rfl⟩
  have hS : (s[en].toNat : Int) = bb := (show (s[en].toNat : Int) = bt s (en : Int) from bt_at s (en : Int) hes).trans hbb
  rw [hbb] at h10
  have h10b : (bb != 10) = true := by simp [h10]
  clear hns hbb
  clear hj hnli hjl hpj hf hws hb0 hu0 hc32 hpd hbn hnr hvR hen
  go_enter Tryz.func48, Tryz.ntmps48
  go_wp2_with (first
    | ((with_reducible refine gate_dst (N := 4) rfl ?_); refine alloc_blk rfl rfl rfl zero36 ?_; intro g w1 hg hz hb; have HGE := Aside0.mk (show W.heap.size ≤ g by rw [hg]; exact Nat.le_refl _); have Z1 := Aside0.mk hz; have B1 := Aside0.mk hb; clear hg hz hb))
  refine (HEND.out _).mono ?_
  rintro e w2 ⟨rfl, m2, rfl⟩
  have Z2 := Aside0.mk (show Blk (w1.drewN m2) g (itV zIt) 36 from Z1.out)
  have B2 := Aside0.mk (pw_below_drewN B1.out m2)
  generalize w1.drewN m2 = w2 at Z2 B2 ⊢
  clear Z1 B1
  go_wp2_with fail
  clear hln
  refine (HWD.out _).mono ?_
  rintro e w3 ⟨v3, rfl, hr, hb⟩
  obtain ⟨g6, cap6, rfl, hcells⟩ := word_cells hr (by simp)
  have HCE := Aside0.mk hcells
  have Z3 := Aside0.mk (Z2.out.below hb)
  have B3 := Aside0.mk (below_step B2.out hb)
  clear hr hcells hb Z2 B2
  have k0 := HCE.out 0 _ rfl _ (Below.refl _ _)
  have k2 := HCE.out 2 _ rfl _ (Below.refl _ _)
  have k1 := HCE.out 1 _ rfl _ (Below.refl _ _)
  go_wp2_with fail
  refine (HNU.out _).mono ?_
  rintro e w4 ⟨rfl, m4, rfl⟩
  have Z4 := Aside0.mk (show Blk (w3.drewN m4) g (itV zIt) 36 from Z3.out)
  have B4 := Aside0.mk (pw_below_drewN B3.out m4)
  have E4 := Aside0.mk (pw_below_drewN (Below.refl w3.heap.size w3) m4)
  generalize w3.drewN m4 = w4 at Z4 B4 E4 ⊢
  clear Z3 B3 k0 k1 k2
  have k2 := HCE.out 2 _ rfl _ E4.out
  go_wp2_with fail
  refine (HUX.out _).mono ?_
  rintro e w5 ⟨vu, rfl, _, hb⟩
  have Z5 := Aside0.mk (Z4.out.below hb)
  have B5 := Aside0.mk (below_step B4.out hb)
  have E5 := Aside0.mk (below_step E4.out hb)
  clear hb Z4 B4 E4 k2
  have k3 := HCE.out 3 _ rfl _ E5.out
  go_wp2_with fail
  refine (HPA.out _).mono ?_
  rintro e w6 ⟨rfl, hb⟩
  have Z6 := Aside0.mk (Z5.out.below hb)
  have B6 := Aside0.mk (below_step B5.out hb)
  clear hb Z5 B5 E5 k3
  go_upto_region 10 with (first
    | ((with_reducible refine gate_dst (N := 13) rfl ?_); refine var_blk (cs := u8s id) rfl rfl rfl rfl rfl rfl zero34 (by rw [u8s_size]; rfl) (by rw [u8s_size, HI.out.1]) (u8s_one _) (fun _ => rfl) (fun _ => rfl) ?_; intro g13 w7 hg hz hb; have Y7 := Aside0.mk hz; have Z7 := Aside0.mk (Z6.out.below hb); have B7 := Aside0.mk (below_step B6.out hb); clear hg hz hb))
  go_wp2_with (first
    | ((with_reducible refine gate_dst (N := 98) rfl ?_); refine build_blk rfl rfl rfl builtz36 ?_)
    | ((with_reducible refine gate_store (t := 36) (p := 4) (v := .tmp 98) rfl ?_); refine store_blk_l (W := w7) (cs := itV zIt) rfl rfl rfl rfl rfl Z7.out (by rw [itV_size okId_z]; exact size36) rfl (itV_one _) ?_; intro w9 hz hb hn; have Z9 := Aside0.mk hz; have B9 := Aside0.mk (hb _ _ HGE.out B7.out); clear hz hb hn))
  refine bodyPost_ret (results_cttt rfl _ _ g 36 (itV zIt) (0, 0) _ ?hp Z9.out Tryz.underlying36 rfl (by rw [itV_size okId_z]; exact size36)) rfl ?_
  case hp => rfl
  exact ⟨rfl, B9.out⟩

set_option maxHeartbeats 8000000 in
set_option maxRecDepth 100000 in
theorem rread_sum (k j n : Nat) (id : List Int) (c : ByteArray) (s : ByteArray) (W : World) (hs : s.size ≤ 1000000) (hk : k ≤ s.size) (hj : nl s k = some j) (hf : headF (s.extract k j) = some (id, n, c)) (hl : ¬ s.size < j + 1 + n + 1) (h10 : bt s ((j + 1 + n : Nat) : Int) = 10) (hd : digS (id, s.extract (j + 1) (j + 1 + n)) ≠ c) :
    Calls Tryz.prog 48 #[.string s, .int .i64 k] W fun r w' => r = .returned (.tuple #[.agg (itV zIt), .int .i64 0, .int .i64 k, .int .i64 22]) ∧ Below W.heap.size W w' := by
  have hno := item_other (x := (id, s.extract (j + 1) (j + 1 + n))) (e := j + 1 + n + 1) ⟨headF_ok hf, by have := headF_le hf; show (s.extract _ _).size ≤ _; rw [← data_length, extract_list, List.length_take]; omega⟩ hk (by rw [readF_of hj hf, if_neg hl, if_neg (by simpa using h10), if_pos hd])
  clear hd
  have hjl := nl_le s k j hj
  obtain ⟨ln, hln⟩ : ∃ ln, s.extract k j = ln := ⟨_, rfl⟩
  have hlns : ln.size ≤ 1000000 := by rw [← hln, ← data_length, extract_list, List.length_take, List.length_drop, data_length]; omega
  have HEND := Aside0.mk (fun w => end_any s k w (by omega) hk)
  have hnli : nlI s k = (j : Int) := by unfold nlI; rw [hj]
  rw [hnli] at HEND
  rw [hln] at hf
  have HWD := Aside0.mk (fun w => rwords_any ln w hlns)
  obtain ⟨p, hpj⟩ : ∃ p, j + 1 = p := ⟨_, rfl⟩
  have hps : p ≤ s.size := by omega
  have hpI : (j : Int) + 1 = (p : Int) := by omega
  have hkj : (k : Int) ≤ (j : Int) := by omega
  have hjs : (j : Int) ≤ (s.size : Int) := by omega
  obtain ⟨a, b, d, hws, rfl, hb0, hu0, hc32, hpd, hbn⟩ := headF_some hf
  have hnr := numF_range b 65536 (by omega) (by omega)
  have hn64 : n ≤ 65536 := by omega
  have hvR : numR b 65536 = (n : Int) := by unfold numR; rw [if_pos hb0]; omega
  have HNU := Aside0.mk (fun w => rnumber_any b 65536 w (by omega))
  rw [hvR] at HNU
  have HUX := Aside0.mk (fun w => refUnhex_any c (unhexF c).1 0 w (by omega) (by rw [← hu0]))
  have HPA := Aside0.mk (fun w => rparse_ok d id w hpd)
  have HI := Aside0.mk ((parseF_some d id).mp hpd).1
  have hal : artB.toList = [97, 114, 116, 105, 99, 108, 101] := by rw [ByteArray.toList_eq]; rfl
  have hc1 : (c.size : Int) = 32 := by omega
  rw [hws] at HWD
  rw [hpj] at hl h10 hno
  obtain ⟨en, hen⟩ : ∃ en, p + n = en := ⟨_, rfl⟩
  rw [hen] at hl h10 hno
  have henI : (p : Int) + (n : Int) = (en : Int) := by omega
  have hns : (s.size : Int) - (p : Int) = ((s.size - p : Nat) : Int) := by omega
  have henb : en ≤ 2000000 := by omega
  have hlt : ¬ (s.size : Int) - (p : Int) < (n : Int) + 1 := by omega
  have hes : en < s.size := by omega
  have hesI : (en : Int) < (s.size : Int) := by omega
  have hes2 : (en : Int) + 1 ≤ (s.size : Int) := by omega
  have hS : (s[en].toNat : Int) = 10 := (show (s[en].toNat : Int) = bt s (en : Int) from bt_at s (en : Int) hes).trans h10
  obtain ⟨tx, htx⟩ : ∃ tx, s.extract p en = tx := ⟨_, rfl⟩
  have htl : tx.size ≤ 1000000 := by rw [← htx, ← data_length, extract_list, List.length_take, List.length_drop, data_length]; omega
  obtain ⟨ex, hex⟩ : ∃ ex, s.extract k (en + 1) = ex := ⟨_, rfl⟩
  have hpe : (p : Int) ≤ (en : Int) := by omega
  have hke : (k : Int) ≤ (en : Int) + 1 := by omega
  have hee : ((en : Int) + 1).toNat = en + 1 := by omega
  have q1 : (0 : Int) ≤ (en : Int) := by omega
  have q4 : (en : Int) ≤ (s.size : Int) := by omega
  have q5 : (0 : Int) ≤ (p : Int) := by omega
  have q6 : (0 : Int) ≤ (k : Int) := by omega
  have q7 : (0 : Int) ≤ (en : Int) + 1 := by omega
  rw [htx] at hno
  have HRI := Aside0.mk (fun w => ritem_any (id, tx) w HI.out htl)
  obtain ⟨it, hit⟩ : ∃ it, itS (id, tx) = it := ⟨_, rfl⟩
  rw [hit] at HRI
  have hSize : (itV (id, tx)).size = 33 := itV_size (x := (id, tx)) HI.out
  have HSZ := Aside0.mk hSize
  rw [hit, hex] at hno
  have hq : ¬ it.toList = ex.toList := fun h => hno (by apply data_inj; rwa [ByteArray.toList_eq, ByteArray.toList_eq] at h)
  have hqb : (it.toList == ex.toList) = false := by simp [hq]
  clear hno hit h10 hl
  clear hns htl hSize
  clear hj hnli hjl hpj hf hws hb0 hu0 hc32 hpd hbn hnr hvR hen
  go_enter Tryz.func48, Tryz.ntmps48
  go_wp2_with (first
    | ((with_reducible refine gate_dst (N := 4) rfl ?_); refine alloc_blk rfl rfl rfl zero36 ?_; intro g w1 hg hz hb; have HGE := Aside0.mk (show W.heap.size ≤ g by rw [hg]; exact Nat.le_refl _); have Z1 := Aside0.mk hz; have B1 := Aside0.mk hb; clear hg hz hb))
  refine (HEND.out _).mono ?_
  rintro e w2 ⟨rfl, m2, rfl⟩
  have Z2 := Aside0.mk (show Blk (w1.drewN m2) g (itV zIt) 36 from Z1.out)
  have B2 := Aside0.mk (pw_below_drewN B1.out m2)
  generalize w1.drewN m2 = w2 at Z2 B2 ⊢
  clear Z1 B1
  go_wp2_with fail
  clear hln
  refine (HWD.out _).mono ?_
  rintro e w3 ⟨v3, rfl, hr, hb⟩
  obtain ⟨g6, cap6, rfl, hcells⟩ := word_cells hr (by simp)
  have HCE := Aside0.mk hcells
  have Z3 := Aside0.mk (Z2.out.below hb)
  have B3 := Aside0.mk (below_step B2.out hb)
  clear hr hcells hb Z2 B2
  have k0 := HCE.out 0 _ rfl _ (Below.refl _ _)
  have k2 := HCE.out 2 _ rfl _ (Below.refl _ _)
  have k1 := HCE.out 1 _ rfl _ (Below.refl _ _)
  go_wp2_with fail
  refine (HNU.out _).mono ?_
  rintro e w4 ⟨rfl, m4, rfl⟩
  have Z4 := Aside0.mk (show Blk (w3.drewN m4) g (itV zIt) 36 from Z3.out)
  have B4 := Aside0.mk (pw_below_drewN B3.out m4)
  have E4 := Aside0.mk (pw_below_drewN (Below.refl w3.heap.size w3) m4)
  generalize w3.drewN m4 = w4 at Z4 B4 E4 ⊢
  clear Z3 B3 k0 k1 k2
  have k2 := HCE.out 2 _ rfl _ E4.out
  go_wp2_with fail
  refine (HUX.out _).mono ?_
  rintro e w5 ⟨vu, rfl, _, hb⟩
  have Z5 := Aside0.mk (Z4.out.below hb)
  have B5 := Aside0.mk (below_step B4.out hb)
  have E5 := Aside0.mk (below_step E4.out hb)
  clear hb Z4 B4 E4 k2
  have k3 := HCE.out 3 _ rfl _ E5.out
  go_wp2_with fail
  refine (HPA.out _).mono ?_
  rintro e w6 ⟨rfl, hb⟩
  have Z6 := Aside0.mk (Z5.out.below hb)
  have B6 := Aside0.mk (below_step B5.out hb)
  clear hb Z5 B5 E5 k3
  go_upto_region 10 with (first
    | ((with_reducible refine gate_dst (N := 13) rfl ?_); refine var_blk (cs := u8s id) rfl rfl rfl rfl rfl rfl zero34 (by rw [u8s_size]; rfl) (by rw [u8s_size, HI.out.1]) (u8s_one _) (fun _ => rfl) (fun _ => rfl) ?_; intro g13 w7 hg hz hb; have Y7 := Aside0.mk hz; have Z7 := Aside0.mk (Z6.out.below hb); have B7 := Aside0.mk (below_step B6.out hb); clear hg hz hb))
  go_wp2_with fail
  have hwr1 : IntKind.i64.wrap (en : Int) = (en : Int) := by rw [i64_w]; unfold wrap64; omega
  have hwr2 : IntKind.i64.wrap ((en : Int) + 1) = (en : Int) + 1 := by rw [i64_w]; unfold wrap64; omega
  refine start_ (n := 10) (S := fun w' => Blk w' g13 (u8s id) 34 ∧ Blk w' g (itV zIt) 36 ∧ Below W.heap.size W w') (ds := [9]) (fl 10 0) (by kernel_rfl) rfl rfl ⟨Y7.out, Z7.out, below_drew B7.out⟩ (fun hHeld => ?_)
  refine with_tabW r48_17a.tab r48_17a.bits (fun HT_ HW_ => ?_)
  generalize w7.drew = wd at hHeld ⊢
  have HH := Aside0.mk hHeld
  clear hHeld
  refine pure_ (i := 1) (N := some 103) (v := ?_) (a' := ?_) (fl 10 2) rfl rfl (any_of HT_.out (by kernel_rfl)) (fun _ _ _ h => h) (Or.inl ⟨by rfl, ?_⟩) ?_ ?_
  rotate_left
  · intro w'
    go_simp
    with_reducible rfl
  rotate_left
  · simp only [Act.put, List.setIfInBounds_toArray, List.set_cons_zero, List.set_cons_succ, i64_w, i32_w]
    rfl
  refine pure_ (i := 2) (N := some 104) (v := ?_) (a' := ?_) (fl 10 6) rfl rfl (any_of HT_.out (by kernel_rfl)) (fun _ _ _ h => h) (Or.inl ⟨by rfl, ?_⟩) ?_ ?_
  rotate_left
  · intro w'
    go_simp
    with_reducible rfl
  rotate_left
  · simp only [Act.put, List.setIfInBounds_toArray, List.set_cons_zero, List.set_cons_succ, i64_w, i32_w]
    rfl
  refine pure_ (i := 3) (N := some 105) (v := ?_) (a' := ?_) (fl 10 14) rfl rfl (any_of HT_.out (by kernel_rfl)) (fun _ _ _ h => h) (Or.inl ⟨by rfl, ?_⟩) ?_ ?_
  rotate_left
  · intro w'
    go_simp
    with_reducible rfl
  rotate_left
  · simp only [Act.put, List.setIfInBounds_toArray, List.set_cons_zero, List.set_cons_succ, i64_w, i32_w]
    rfl
  refine pure_ (i := 4) (N := some 106) (v := ?_) (a' := ?_) (fl 10 30) rfl rfl (any_of HT_.out (by kernel_rfl)) (fun _ _ _ h => h) (Or.inl ⟨by rfl, ?_⟩) ?_ ?_
  rotate_left
  · intro w'
    go_simp
    with_reducible rfl
  rotate_left
  · simp only [Act.put, List.setIfInBounds_toArray, List.set_cons_zero, List.set_cons_succ, i64_w, i32_w]
    rfl
  refine pure_ (i := 5) (N := some 107) (v := ?_) (a' := ?_) (fl 10 62) rfl rfl (any_of HT_.out (by kernel_rfl)) (fun _ _ _ h => h) (Or.inl ⟨by rfl, ?_⟩) ?_ ?_
  rotate_left
  · intro w'
    go_simp
    with_reducible rfl
  rotate_left
  · simp only [Act.put, List.setIfInBounds_toArray, List.set_cons_zero, List.set_cons_succ, i64_w, i32_w]
    rfl
  refine pure_ (i := 6) (N := some 108) (v := ?_) (a' := ?_) (fl 10 126) rfl rfl (any_of HT_.out (by kernel_rfl)) (fun _ _ _ h => h) (Or.inl ⟨by rfl, ?_⟩) ?_ ?_
  rotate_left
  · intro w'
    go_simp
    with_reducible rfl
  rotate_left
  · simp only [Act.put, List.setIfInBounds_toArray, List.set_cons_zero, List.set_cons_succ, i64_w, i32_w]
    rfl
  refine take_ (i := 0) (N := some 102) (v := .agg (u8s id)) (a' := ?_) (fl 10 127) rfl rfl (take_ofW HT_.out HW_.out (by kernel_rfl)) (fun _ _ _ h => h) ?_ HH.out ?_ ?_
  · exact yields_blk (by rfl) rfl rfl (fun w h => h.1) Tryz.underlying34 rfl (by rw [u8s_size, HI.out.1]; exact size34)
  rotate_left
  · simp only [Act.put, List.setIfInBounds_toArray, List.set_cons_zero, List.set_cons_succ, i64_w, i32_w]
    rfl
  refine pure_ (i := 7) (N := some 109) (v := ?_) (a' := ?_) (fl 10 255) rfl rfl (any_of HT_.out (by kernel_rfl)) (fun _ _ _ h => h) (Or.inl ⟨by rfl, ?_⟩) ?_ ?_
  rotate_left
  · intro w'
    refine (exec_item rfl rfl rfl (built36 _ tx (by rw [u8s_size]; exact HI.out.1)) w').trans ?_
    with_reducible rfl
  rotate_left
  · simp only [Act.put, List.setIfInBounds_toArray, List.set_cons_zero, List.set_cons_succ, i64_w, i32_w]
    rfl
  refine one_ (i := 8) (N := some 17) (fl 10 511) rfl rfl (one_of HT_.out (by kernel_rfl)) (by decide) (fun K hK => ?_)
  refine alloc_blk_step (by rfl) rfl rfl zero36 ?_
  intro g17 w' hg17 hz hb
  refine hK.out _ _ ⟨HH.out.1.below hb, HH.out.2.1.below hb, below_step HH.out.2.2 hb⟩ (fun hHeld => ?_)
  have HX17 := Aside0.mk hz
  have HB17 := Aside0.mk hb
  have HG17 := Aside0.mk (show wd.heap.size ≤ g17 by rw [hg17]; exact Nat.le_refl _)
  have HP := HH
  clear hz hb hg17
  have HH2 := Aside0.mk hHeld
  clear hHeld HH
  have HH := HH2
  clear HH2
  try clear hK K
  refine norm_ (a' := ?_) ?_ ?_
  rotate_left
  · show Act.put _ (some 17) _ = _
    simp only [Act.put, List.setIfInBounds_toArray, List.set_cons_zero, List.set_cons_succ, i64_w, i32_w]
    rfl
  refine last_ (i := 9) (N := none) (fl 10 1023) rfl rfl (one_of HT_.out (by kernel_rfl)) (by decide) (fun K hK => ?_)
  refine store_blk_l_step (cs := itV (id, tx)) (by rfl) rfl rfl rfl rfl HX17.out (by rw [HSZ.out]; exact size36) (by rw [HSZ.out, itV_size okId_z]) (itV_one _) ?_
  intro w' hz hb hn
  have hb2 := hb _ _ HG17.out HB17.out
  refine hK.out _ _ ?_
  have X8 := Aside0.mk hz
  have Z8 := Aside0.mk (HP.out.2.1.below hb2)
  have B8 := Aside0.mk (below_step HP.out.2.2 hb2)
  clear hz hb hn hb2
  try clear hK K
  refine done_ (done_of HT_.out (by kernel_rfl)) ?_
  clear htx
  go_wp2_with fail
  refine start_ (n := 10) (S := fun w' => Blk w' g17 (itV (id, tx)) 36 ∧ Blk w' g (itV zIt) 36 ∧ Below W.heap.size W w') (ds := []) (fl 10 0) (by kernel_rfl) rfl rfl ⟨X8.out, Z8.out, below_drew B8.out⟩ (fun hHeld => ?_)
  refine with_tabW r48_18a.tab r48_18a.bits (fun HT_ HW_ => ?_)
  generalize w'.drew = wd at hHeld ⊢
  have HH := Aside0.mk hHeld
  clear hHeld
  refine pure_ (i := 2) (N := some 112) (v := ?_) (a' := ?_) (fl 10 4) rfl rfl (any_of HT_.out (by kernel_rfl)) (fun _ _ _ h => h) (Or.inl ⟨by rfl, ?_⟩) ?_ ?_
  rotate_left
  · intro w'
    go_simp
    with_reducible rfl
  rotate_left
  · simp only [Act.put, List.setIfInBounds_toArray, List.set_cons_zero, List.set_cons_succ, i64_w, i32_w]
    rfl
  refine pure_ (i := 3) (N := some 113) (v := ?_) (a' := ?_) (fl 10 12) rfl rfl (any_of HT_.out (by kernel_rfl)) (fun _ _ _ h => h) (Or.inl ⟨by rfl, ?_⟩) ?_ ?_
  rotate_left
  · intro w'
    go_simp
    with_reducible rfl
  rotate_left
  · simp only [Act.put, List.setIfInBounds_toArray, List.set_cons_zero, List.set_cons_succ, i64_w, i32_w]
    rfl
  refine pure_ (i := 4) (N := some 114) (v := ?_) (a' := ?_) (fl 10 28) rfl rfl (any_of HT_.out (by kernel_rfl)) (fun _ _ _ h => h) (Or.inl ⟨by rfl, ?_⟩) ?_ ?_
  rotate_left
  · intro w'
    go_simp
    with_reducible rfl
  rotate_left
  · simp only [Act.put, List.setIfInBounds_toArray, List.set_cons_zero, List.set_cons_succ, i64_w, i32_w]
    rfl
  refine pure_ (i := 5) (N := some 115) (v := ?_) (a' := ?_) (fl 10 60) rfl rfl (any_of HT_.out (by kernel_rfl)) (fun _ _ _ h => h) (Or.inl ⟨by rfl, ?_⟩) ?_ ?_
  rotate_left
  · intro w'
    go_simp
    with_reducible rfl
  rotate_left
  · simp only [Act.put, List.setIfInBounds_toArray, List.set_cons_zero, List.set_cons_succ, i64_w, i32_w]
    rfl
  refine pure_ (i := 6) (N := some 116) (v := ?_) (a' := ?_) (fl 10 124) rfl rfl (any_of HT_.out (by kernel_rfl)) (fun _ _ _ h => h) (Or.inl ⟨by rfl, ?_⟩) ?_ ?_
  rotate_left
  · intro w'
    go_simp
    with_reducible rfl
  rotate_left
  · simp only [Act.put, List.setIfInBounds_toArray, List.set_cons_zero, List.set_cons_succ, i64_w, i32_w]
    rfl
  refine pure_ (i := 7) (N := some 117) (v := ?_) (a' := ?_) (fl 10 252) rfl rfl (any_of HT_.out (by kernel_rfl)) (fun _ _ _ h => h) (Or.inl ⟨by rfl, ?_⟩) ?_ ?_
  rotate_left
  · intro w'
    go_simp
    with_reducible rfl
  rotate_left
  · simp only [Act.put, List.setIfInBounds_toArray, List.set_cons_zero, List.set_cons_succ, i64_w, i32_w]
    rfl
  refine pure_ (i := 8) (N := some 118) (v := ?_) (a' := ?_) (fl 10 508) rfl rfl (any_of HT_.out (by kernel_rfl)) (fun _ _ _ h => h) (Or.inl ⟨by rfl, ?_⟩) ?_ ?_
  rotate_left
  · intro w'
    go_simp
    with_reducible rfl
  rotate_left
  · simp only [Act.put, List.setIfInBounds_toArray, List.set_cons_zero, List.set_cons_succ, i64_w, i32_w]
    rfl
  refine take_ (i := 0) (N := some 110) (v := .agg (itV (id, tx))) (a' := ?_) (fl 10 509) rfl rfl (take_ofW HT_.out HW_.out (by kernel_rfl)) (fun _ _ _ h => h) ?_ HH.out ?_ ?_
  · exact yields_blk (by rfl) rfl rfl (fun w h => h.1) Tryz.underlying36 rfl (by rw [HSZ.out]; exact size36)
  rotate_left
  · simp only [Act.put, List.setIfInBounds_toArray, List.set_cons_zero, List.set_cons_succ, i64_w, i32_w]
    rfl
  refine one_ (i := 1) (N := some 111) (fl 10 511) rfl rfl (one_of HT_.out (by kernel_rfl)) (by decide) (fun K hK => ?_)
  refine goes_ Tryz.func26 (by kernel_rfl) rfl #[.agg (itV (id, tx))] (by rfl) rfl rfl (by simp only [List.map_toArray, List.map_cons, List.map_nil]; rfl) ?_
  refine (HRI.out _).mono ?_
  rintro e w' ⟨rfl, hb⟩
  refine ⟨_, rfl, hK.out _ _ ⟨HH.out.1.below hb, HH.out.2.1.below hb, below_step HH.out.2.2 hb⟩ (fun hHeld => ?_)⟩
  have HH2 := Aside0.mk hHeld
  clear hHeld HH
  have HH := HH2
  clear HH2
  try clear hb
  try clear hK K
  refine norm_ (a' := ?_) ?_ ?_
  rotate_left
  · show Act.put _ (some 111) _ = _
    simp only [Act.put, List.setIfInBounds_toArray, List.set_cons_zero, List.set_cons_succ, i64_w, i32_w]
    rfl
  refine pure_ (i := 9) (N := some 119) (v := ?_) (a' := ?_) (fl 10 1023) rfl rfl (any_of HT_.out (by kernel_rfl)) (fun _ _ _ h => h) (Or.inl ⟨by rfl, ?_⟩) ?_ ?_
  rotate_left
  · intro w'
    go_simp
    with_reducible rfl
  rotate_left
  · simp only [Act.put, List.setIfInBounds_toArray, List.set_cons_zero, List.set_cons_succ, i64_w, i32_w]
    rfl
  refine done_ (done_of HT_.out (by kernel_rfl)) ?_
  have HZ := Aside0.mk HH.out.2.1
  have HB := Aside0.mk HH.out.2.2
  clear hex hwr1 hwr2
  go_wp2_with (first
    | ((with_reducible refine gate_dst (N := 120) rfl ?_); refine build_blk rfl rfl rfl builtz36 ?_)
    | ((with_reducible refine gate_store (t := 36) (p := 4) (v := .tmp 120) rfl ?_); refine store_blk_l (W := _) (cs := itV zIt) rfl rfl rfl rfl rfl HZ.out (by rw [itV_size okId_z]; exact size36) rfl (itV_one _) ?_; intro w9 hz hb hn; have Z9 := Aside0.mk hz; have B9 := Aside0.mk (hb _ _ HGE.out HB.out); clear hz hb hn))
  refine bodyPost_ret (results_cttt rfl _ _ g 36 (itV zIt) (0, 0) _ ?hp Z9.out Tryz.underlying36 rfl (by rw [itV_size okId_z]; exact size36)) rfl ?_
  case hp => rfl
  exact ⟨rfl, B9.out⟩

set_option maxHeartbeats 8000000 in
set_option maxRecDepth 100000 in
theorem rread_ok (k j n : Nat) (id : List Int) (c : ByteArray) (s : ByteArray) (W : World) (hs : s.size ≤ 1000000) (hk : k ≤ s.size) (hj : nl s k = some j) (hf : headF (s.extract k j) = some (id, n, c)) (hl : ¬ s.size < j + 1 + n + 1) (h10 : bt s ((j + 1 + n : Nat) : Int) = 10) (hd : digS (id, s.extract (j + 1) (j + 1 + n)) = c) :
    Calls Tryz.prog 48 #[.string s, .int .i64 k] W fun r w' => r = .returned (.tuple #[.agg (itV (id, s.extract (j + 1) (j + 1 + n))), .int .i64 ((j + 1 + n + 1 : Nat) : Int), .int .i64 0, .int .i64 0]) ∧ Below W.heap.size W w' := by
  have hsa := item_same (s := s) (k := k) (nx := j + 1 + n + 1) (x := (id, s.extract (j + 1) (j + 1 + n))) (by rw [readF_of hj hf, if_neg hl, if_neg (by simpa using h10), if_neg (by simpa using hd)])
  clear hd
  have hjl := nl_le s k j hj
  obtain ⟨ln, hln⟩ : ∃ ln, s.extract k j = ln := ⟨_, rfl⟩
  have hlns : ln.size ≤ 1000000 := by rw [← hln, ← data_length, extract_list, List.length_take, List.length_drop, data_length]; omega
  have HEND := Aside0.mk (fun w => end_any s k w (by omega) hk)
  have hnli : nlI s k = (j : Int) := by unfold nlI; rw [hj]
  rw [hnli] at HEND
  rw [hln] at hf
  have HWD := Aside0.mk (fun w => rwords_any ln w hlns)
  obtain ⟨p, hpj⟩ : ∃ p, j + 1 = p := ⟨_, rfl⟩
  have hps : p ≤ s.size := by omega
  have hpI : (j : Int) + 1 = (p : Int) := by omega
  have hkj : (k : Int) ≤ (j : Int) := by omega
  have hjs : (j : Int) ≤ (s.size : Int) := by omega
  obtain ⟨a, b, d, hws, rfl, hb0, hu0, hc32, hpd, hbn⟩ := headF_some hf
  have hnr := numF_range b 65536 (by omega) (by omega)
  have hn64 : n ≤ 65536 := by omega
  have hvR : numR b 65536 = (n : Int) := by unfold numR; rw [if_pos hb0]; omega
  have HNU := Aside0.mk (fun w => rnumber_any b 65536 w (by omega))
  rw [hvR] at HNU
  have HUX := Aside0.mk (fun w => refUnhex_any c (unhexF c).1 0 w (by omega) (by rw [← hu0]))
  have HPA := Aside0.mk (fun w => rparse_ok d id w hpd)
  have HI := Aside0.mk ((parseF_some d id).mp hpd).1
  have hal : artB.toList = [97, 114, 116, 105, 99, 108, 101] := by rw [ByteArray.toList_eq]; rfl
  have hc1 : (c.size : Int) = 32 := by omega
  rw [hws] at HWD
  rw [hpj] at hl h10 hsa ⊢
  obtain ⟨en, hen⟩ : ∃ en, p + n = en := ⟨_, rfl⟩
  rw [hen] at hl h10 hsa ⊢
  have henI : (p : Int) + (n : Int) = (en : Int) := by omega
  have hns : (s.size : Int) - (p : Int) = ((s.size - p : Nat) : Int) := by omega
  have henb : en ≤ 2000000 := by omega
  have hlt : ¬ (s.size : Int) - (p : Int) < (n : Int) + 1 := by omega
  have hes : en < s.size := by omega
  have hesI : (en : Int) < (s.size : Int) := by omega
  have hes2 : (en : Int) + 1 ≤ (s.size : Int) := by omega
  have hS : (s[en].toNat : Int) = 10 := (show (s[en].toNat : Int) = bt s (en : Int) from bt_at s (en : Int) hes).trans h10
  obtain ⟨tx, htx⟩ : ∃ tx, s.extract p en = tx := ⟨_, rfl⟩
  have htl : tx.size ≤ 1000000 := by rw [← htx, ← data_length, extract_list, List.length_take, List.length_drop, data_length]; omega
  obtain ⟨ex, hex⟩ : ∃ ex, s.extract k (en + 1) = ex := ⟨_, rfl⟩
  have hpe : (p : Int) ≤ (en : Int) := by omega
  have hke : (k : Int) ≤ (en : Int) + 1 := by omega
  have hee : ((en : Int) + 1).toNat = en + 1 := by omega
  have q1 : (0 : Int) ≤ (en : Int) := by omega
  have q4 : (en : Int) ≤ (s.size : Int) := by omega
  have q5 : (0 : Int) ≤ (p : Int) := by omega
  have q6 : (0 : Int) ≤ (k : Int) := by omega
  have q7 : (0 : Int) ≤ (en : Int) + 1 := by omega
  rw [htx] at hsa ⊢
  have HRI := Aside0.mk (fun w => ritem_any (id, tx) w HI.out htl)
  obtain ⟨it, hit⟩ : ∃ it, itS (id, tx) = it := ⟨_, rfl⟩
  rw [hit] at HRI
  have hSize : (itV (id, tx)).size = 33 := itV_size (x := (id, tx)) HI.out
  have HSZ := Aside0.mk hSize
  rw [hit, hex] at hsa
  subst hsa
  clear hit h10 hl
  clear hns htl hSize
  clear hj hnli hjl hpj hf hws hb0 hu0 hc32 hpd hbn hnr hvR hen
  go_enter Tryz.func48, Tryz.ntmps48
  go_wp2_with (first
    | ((with_reducible refine gate_dst (N := 4) rfl ?_); refine alloc_blk rfl rfl rfl zero36 ?_; intro g w1 hg hz hb; have HGE := Aside0.mk (show W.heap.size ≤ g by rw [hg]; exact Nat.le_refl _); have Z1 := Aside0.mk hz; have B1 := Aside0.mk hb; clear hg hz hb))
  refine (HEND.out _).mono ?_
  rintro e w2 ⟨rfl, m2, rfl⟩
  have Z2 := Aside0.mk (show Blk (w1.drewN m2) g (itV zIt) 36 from Z1.out)
  have B2 := Aside0.mk (pw_below_drewN B1.out m2)
  generalize w1.drewN m2 = w2 at Z2 B2 ⊢
  clear Z1 B1
  go_wp2_with fail
  clear hln
  refine (HWD.out _).mono ?_
  rintro e w3 ⟨v3, rfl, hr, hb⟩
  obtain ⟨g6, cap6, rfl, hcells⟩ := word_cells hr (by simp)
  have HCE := Aside0.mk hcells
  have Z3 := Aside0.mk (Z2.out.below hb)
  have B3 := Aside0.mk (below_step B2.out hb)
  clear hr hcells hb Z2 B2
  have k0 := HCE.out 0 _ rfl _ (Below.refl _ _)
  have k2 := HCE.out 2 _ rfl _ (Below.refl _ _)
  have k1 := HCE.out 1 _ rfl _ (Below.refl _ _)
  go_wp2_with fail
  refine (HNU.out _).mono ?_
  rintro e w4 ⟨rfl, m4, rfl⟩
  have Z4 := Aside0.mk (show Blk (w3.drewN m4) g (itV zIt) 36 from Z3.out)
  have B4 := Aside0.mk (pw_below_drewN B3.out m4)
  have E4 := Aside0.mk (pw_below_drewN (Below.refl w3.heap.size w3) m4)
  generalize w3.drewN m4 = w4 at Z4 B4 E4 ⊢
  clear Z3 B3 k0 k1 k2
  have k2 := HCE.out 2 _ rfl _ E4.out
  go_wp2_with fail
  refine (HUX.out _).mono ?_
  rintro e w5 ⟨vu, rfl, _, hb⟩
  have Z5 := Aside0.mk (Z4.out.below hb)
  have B5 := Aside0.mk (below_step B4.out hb)
  have E5 := Aside0.mk (below_step E4.out hb)
  clear hb Z4 B4 E4 k2
  have k3 := HCE.out 3 _ rfl _ E5.out
  go_wp2_with fail
  refine (HPA.out _).mono ?_
  rintro e w6 ⟨rfl, hb⟩
  have Z6 := Aside0.mk (Z5.out.below hb)
  have B6 := Aside0.mk (below_step B5.out hb)
  clear hb Z5 B5 E5 k3
  go_upto_region 10 with (first
    | ((with_reducible refine gate_dst (N := 13) rfl ?_); refine var_blk (cs := u8s id) rfl rfl rfl rfl rfl rfl zero34 (by rw [u8s_size]; rfl) (by rw [u8s_size, HI.out.1]) (u8s_one _) (fun _ => rfl) (fun _ => rfl) ?_; intro g13 w7 hg hz hb; have Y7 := Aside0.mk hz; have Z7 := Aside0.mk (Z6.out.below hb); have B7 := Aside0.mk (below_step B6.out hb); clear hg hz hb))
  go_wp2_with fail
  have hwr1 : IntKind.i64.wrap (en : Int) = (en : Int) := by rw [i64_w]; unfold wrap64; omega
  have hwr2 : IntKind.i64.wrap ((en : Int) + 1) = (en : Int) + 1 := by rw [i64_w]; unfold wrap64; omega
  refine start_ (n := 10) (S := fun w' => Blk w' g13 (u8s id) 34 ∧ Blk w' g (itV zIt) 36 ∧ Below W.heap.size W w') (ds := [9]) (fl 10 0) (by kernel_rfl) rfl rfl ⟨Y7.out, Z7.out, below_drew B7.out⟩ (fun hHeld => ?_)
  refine with_tabW r48_17b.tab r48_17b.bits (fun HT_ HW_ => ?_)
  generalize w7.drew = wd at hHeld ⊢
  have HH := Aside0.mk hHeld
  clear hHeld
  refine pure_ (i := 1) (N := some 103) (v := ?_) (a' := ?_) (fl 10 2) rfl rfl (any_of HT_.out (by kernel_rfl)) (fun _ _ _ h => h) (Or.inl ⟨by rfl, ?_⟩) ?_ ?_
  rotate_left
  · intro w'
    go_simp
    with_reducible rfl
  rotate_left
  · simp only [Act.put, List.setIfInBounds_toArray, List.set_cons_zero, List.set_cons_succ, i64_w, i32_w]
    rfl
  refine pure_ (i := 2) (N := some 104) (v := ?_) (a' := ?_) (fl 10 6) rfl rfl (any_of HT_.out (by kernel_rfl)) (fun _ _ _ h => h) (Or.inl ⟨by rfl, ?_⟩) ?_ ?_
  rotate_left
  · intro w'
    go_simp
    with_reducible rfl
  rotate_left
  · simp only [Act.put, List.setIfInBounds_toArray, List.set_cons_zero, List.set_cons_succ, i64_w, i32_w]
    rfl
  refine pure_ (i := 3) (N := some 105) (v := ?_) (a' := ?_) (fl 10 14) rfl rfl (any_of HT_.out (by kernel_rfl)) (fun _ _ _ h => h) (Or.inl ⟨by rfl, ?_⟩) ?_ ?_
  rotate_left
  · intro w'
    go_simp
    with_reducible rfl
  rotate_left
  · simp only [Act.put, List.setIfInBounds_toArray, List.set_cons_zero, List.set_cons_succ, i64_w, i32_w]
    rfl
  refine pure_ (i := 4) (N := some 106) (v := ?_) (a' := ?_) (fl 10 30) rfl rfl (any_of HT_.out (by kernel_rfl)) (fun _ _ _ h => h) (Or.inl ⟨by rfl, ?_⟩) ?_ ?_
  rotate_left
  · intro w'
    go_simp
    with_reducible rfl
  rotate_left
  · simp only [Act.put, List.setIfInBounds_toArray, List.set_cons_zero, List.set_cons_succ, i64_w, i32_w]
    rfl
  refine pure_ (i := 5) (N := some 107) (v := ?_) (a' := ?_) (fl 10 62) rfl rfl (any_of HT_.out (by kernel_rfl)) (fun _ _ _ h => h) (Or.inl ⟨by rfl, ?_⟩) ?_ ?_
  rotate_left
  · intro w'
    go_simp
    with_reducible rfl
  rotate_left
  · simp only [Act.put, List.setIfInBounds_toArray, List.set_cons_zero, List.set_cons_succ, i64_w, i32_w]
    rfl
  refine pure_ (i := 6) (N := some 108) (v := ?_) (a' := ?_) (fl 10 126) rfl rfl (any_of HT_.out (by kernel_rfl)) (fun _ _ _ h => h) (Or.inl ⟨by rfl, ?_⟩) ?_ ?_
  rotate_left
  · intro w'
    go_simp
    with_reducible rfl
  rotate_left
  · simp only [Act.put, List.setIfInBounds_toArray, List.set_cons_zero, List.set_cons_succ, i64_w, i32_w]
    rfl
  refine take_ (i := 0) (N := some 102) (v := .agg (u8s id)) (a' := ?_) (fl 10 127) rfl rfl (take_ofW HT_.out HW_.out (by kernel_rfl)) (fun _ _ _ h => h) ?_ HH.out ?_ ?_
  · exact yields_blk (by rfl) rfl rfl (fun w h => h.1) Tryz.underlying34 rfl (by rw [u8s_size, HI.out.1]; exact size34)
  rotate_left
  · simp only [Act.put, List.setIfInBounds_toArray, List.set_cons_zero, List.set_cons_succ, i64_w, i32_w]
    rfl
  refine pure_ (i := 7) (N := some 109) (v := ?_) (a' := ?_) (fl 10 255) rfl rfl (any_of HT_.out (by kernel_rfl)) (fun _ _ _ h => h) (Or.inl ⟨by rfl, ?_⟩) ?_ ?_
  rotate_left
  · intro w'
    refine (exec_item rfl rfl rfl (built36 _ tx (by rw [u8s_size]; exact HI.out.1)) w').trans ?_
    with_reducible rfl
  rotate_left
  · simp only [Act.put, List.setIfInBounds_toArray, List.set_cons_zero, List.set_cons_succ, i64_w, i32_w]
    rfl
  refine one_ (i := 8) (N := some 17) (fl 10 511) rfl rfl (one_of HT_.out (by kernel_rfl)) (by decide) (fun K hK => ?_)
  refine alloc_blk_step (by rfl) rfl rfl zero36 ?_
  intro g17 w' hg17 hz hb
  refine hK.out _ _ ⟨HH.out.1.below hb, HH.out.2.1.below hb, below_step HH.out.2.2 hb⟩ (fun hHeld => ?_)
  have HX17 := Aside0.mk hz
  have HB17 := Aside0.mk hb
  have HG17 := Aside0.mk (show wd.heap.size ≤ g17 by rw [hg17]; exact Nat.le_refl _)
  have HP := HH
  clear hz hb hg17
  have HH2 := Aside0.mk hHeld
  clear hHeld HH
  have HH := HH2
  clear HH2
  try clear hK K
  refine norm_ (a' := ?_) ?_ ?_
  rotate_left
  · show Act.put _ (some 17) _ = _
    simp only [Act.put, List.setIfInBounds_toArray, List.set_cons_zero, List.set_cons_succ, i64_w, i32_w]
    rfl
  refine last_ (i := 9) (N := none) (fl 10 1023) rfl rfl (one_of HT_.out (by kernel_rfl)) (by decide) (fun K hK => ?_)
  refine store_blk_l_step (cs := itV (id, tx)) (by rfl) rfl rfl rfl rfl HX17.out (by rw [HSZ.out]; exact size36) (by rw [HSZ.out, itV_size okId_z]) (itV_one _) ?_
  intro w' hz hb hn
  have hb2 := hb _ _ HG17.out HB17.out
  refine hK.out _ _ ?_
  have X8 := Aside0.mk hz
  have Z8 := Aside0.mk (HP.out.2.1.below hb2)
  have B8 := Aside0.mk (below_step HP.out.2.2 hb2)
  clear hz hb hn hb2
  try clear hK K
  refine done_ (done_of HT_.out (by kernel_rfl)) ?_
  clear htx
  go_wp2_with fail
  refine start_ (n := 10) (S := fun w' => Blk w' g17 (itV (id, tx)) 36 ∧ Blk w' g (itV zIt) 36 ∧ Below W.heap.size W w') (ds := []) (fl 10 0) (by kernel_rfl) rfl rfl ⟨X8.out, Z8.out, below_drew B8.out⟩ (fun hHeld => ?_)
  refine with_tabW r48_18b.tab r48_18b.bits (fun HT_ HW_ => ?_)
  generalize w'.drew = wd at hHeld ⊢
  have HH := Aside0.mk hHeld
  clear hHeld
  refine pure_ (i := 2) (N := some 112) (v := ?_) (a' := ?_) (fl 10 4) rfl rfl (any_of HT_.out (by kernel_rfl)) (fun _ _ _ h => h) (Or.inl ⟨by rfl, ?_⟩) ?_ ?_
  rotate_left
  · intro w'
    go_simp
    with_reducible rfl
  rotate_left
  · simp only [Act.put, List.setIfInBounds_toArray, List.set_cons_zero, List.set_cons_succ, i64_w, i32_w]
    rfl
  refine pure_ (i := 3) (N := some 113) (v := ?_) (a' := ?_) (fl 10 12) rfl rfl (any_of HT_.out (by kernel_rfl)) (fun _ _ _ h => h) (Or.inl ⟨by rfl, ?_⟩) ?_ ?_
  rotate_left
  · intro w'
    go_simp
    with_reducible rfl
  rotate_left
  · simp only [Act.put, List.setIfInBounds_toArray, List.set_cons_zero, List.set_cons_succ, i64_w, i32_w]
    rfl
  refine pure_ (i := 4) (N := some 114) (v := ?_) (a' := ?_) (fl 10 28) rfl rfl (any_of HT_.out (by kernel_rfl)) (fun _ _ _ h => h) (Or.inl ⟨by rfl, ?_⟩) ?_ ?_
  rotate_left
  · intro w'
    go_simp
    with_reducible rfl
  rotate_left
  · simp only [Act.put, List.setIfInBounds_toArray, List.set_cons_zero, List.set_cons_succ, i64_w, i32_w]
    rfl
  refine pure_ (i := 5) (N := some 115) (v := ?_) (a' := ?_) (fl 10 60) rfl rfl (any_of HT_.out (by kernel_rfl)) (fun _ _ _ h => h) (Or.inl ⟨by rfl, ?_⟩) ?_ ?_
  rotate_left
  · intro w'
    go_simp
    with_reducible rfl
  rotate_left
  · simp only [Act.put, List.setIfInBounds_toArray, List.set_cons_zero, List.set_cons_succ, i64_w, i32_w]
    rfl
  refine pure_ (i := 6) (N := some 116) (v := ?_) (a' := ?_) (fl 10 124) rfl rfl (any_of HT_.out (by kernel_rfl)) (fun _ _ _ h => h) (Or.inl ⟨by rfl, ?_⟩) ?_ ?_
  rotate_left
  · intro w'
    go_simp
    with_reducible rfl
  rotate_left
  · simp only [Act.put, List.setIfInBounds_toArray, List.set_cons_zero, List.set_cons_succ, i64_w, i32_w]
    rfl
  refine pure_ (i := 7) (N := some 117) (v := ?_) (a' := ?_) (fl 10 252) rfl rfl (any_of HT_.out (by kernel_rfl)) (fun _ _ _ h => h) (Or.inl ⟨by rfl, ?_⟩) ?_ ?_
  rotate_left
  · intro w'
    go_simp
    with_reducible rfl
  rotate_left
  · simp only [Act.put, List.setIfInBounds_toArray, List.set_cons_zero, List.set_cons_succ, i64_w, i32_w]
    rfl
  refine pure_ (i := 8) (N := some 118) (v := ?_) (a' := ?_) (fl 10 508) rfl rfl (any_of HT_.out (by kernel_rfl)) (fun _ _ _ h => h) (Or.inl ⟨by rfl, ?_⟩) ?_ ?_
  rotate_left
  · intro w'
    go_simp
    with_reducible rfl
  rotate_left
  · simp only [Act.put, List.setIfInBounds_toArray, List.set_cons_zero, List.set_cons_succ, i64_w, i32_w]
    rfl
  refine take_ (i := 0) (N := some 110) (v := .agg (itV (id, tx))) (a' := ?_) (fl 10 509) rfl rfl (take_ofW HT_.out HW_.out (by kernel_rfl)) (fun _ _ _ h => h) ?_ HH.out ?_ ?_
  · exact yields_blk (by rfl) rfl rfl (fun w h => h.1) Tryz.underlying36 rfl (by rw [HSZ.out]; exact size36)
  rotate_left
  · simp only [Act.put, List.setIfInBounds_toArray, List.set_cons_zero, List.set_cons_succ, i64_w, i32_w]
    rfl
  refine one_ (i := 1) (N := some 111) (fl 10 511) rfl rfl (one_of HT_.out (by kernel_rfl)) (by decide) (fun K hK => ?_)
  refine goes_ Tryz.func26 (by kernel_rfl) rfl #[.agg (itV (id, tx))] (by rfl) rfl rfl (by simp only [List.map_toArray, List.map_cons, List.map_nil]; rfl) ?_
  refine (HRI.out _).mono ?_
  rintro e w' ⟨rfl, hb⟩
  refine ⟨_, rfl, hK.out _ _ ⟨HH.out.1.below hb, HH.out.2.1.below hb, below_step HH.out.2.2 hb⟩ (fun hHeld => ?_)⟩
  have HH2 := Aside0.mk hHeld
  clear hHeld HH
  have HH := HH2
  clear HH2
  try clear hb
  try clear hK K
  refine norm_ (a' := ?_) ?_ ?_
  rotate_left
  · show Act.put _ (some 111) _ = _
    simp only [Act.put, List.setIfInBounds_toArray, List.set_cons_zero, List.set_cons_succ, i64_w, i32_w]
    rfl
  refine pure_ (i := 9) (N := some 119) (v := ?_) (a' := ?_) (fl 10 1023) rfl rfl (any_of HT_.out (by kernel_rfl)) (fun _ _ _ h => h) (Or.inl ⟨by rfl, ?_⟩) ?_ ?_
  rotate_left
  · intro w'
    go_simp
    with_reducible rfl
  rotate_left
  · simp only [Act.put, List.setIfInBounds_toArray, List.set_cons_zero, List.set_cons_succ, i64_w, i32_w]
    rfl
  refine done_ (done_of HT_.out (by kernel_rfl)) ?_
  have HX := Aside0.mk HH.out.1
  have HZ := Aside0.mk HH.out.2.1
  have HB := Aside0.mk HH.out.2.2
  clear hex hwr1 hwr2
  go_wp2_with (first
    | ((with_reducible refine gate_dst (N := 122) rfl ?_); refine load_blk rfl rfl rfl HX.out Tryz.underlying36 rfl (by rw [HSZ.out]; exact size36) ?_)
    | ((with_reducible refine gate_store (t := 36) (p := 4) (v := .tmp 122) rfl ?_); refine store_blk_l (cs := itV (id, tx)) rfl rfl rfl rfl rfl HZ.out (by rw [HSZ.out]; exact size36) (by rw [HSZ.out, itV_size okId_z]) (itV_one _) ?_; intro w9 hz hb hn; have Z9 := Aside0.mk hz; have B9 := Aside0.mk (hb _ _ HGE.out HB.out); clear hz hb hn))
  refine bodyPost_ret (results_cttt rfl _ _ g 36 (itV (id, tx)) (0, 0) _ ?hp Z9.out Tryz.underlying36 rfl (by rw [HSZ.out]; exact size36)) rfl ?_
  case hp => rfl
  exact ⟨rfl, B9.out⟩

end Go.Proofs.YtceopllngemnnaaGreatDoor

