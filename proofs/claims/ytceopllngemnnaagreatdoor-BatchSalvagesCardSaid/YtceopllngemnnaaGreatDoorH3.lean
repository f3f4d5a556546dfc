/-
  Unpack of the document's answer for batches: what it returns. For texts of up to a million bytes.
-/
import Derived.Test.YtceopllngemnnaaGreatDoorH2
set_option linter.unusedVariables false
set_option linter.unusedSimpArgs false
namespace Go.Proofs.YtceopllngemnnaaGreatDoor
open Go.RowKit Go.Proofs.YtceopllngemnnaaGreatDoorW.PrintWords Go.Proofs.YtceopllngemnnaaGreatDoorW.PrintLast Go.Proofs.YtceopllngemnnaaGreatDoorW.PrintMore Go.Proofs.YtceopllngemnnaaGreatDoor.PRef
attribute [local go_sem] max2_int min2_int max_two min_two

/-- What read returns. -/
def readV (s : ByteArray) (k : Nat) : It × Nat × Nat × Int := match readF s k with
  | .inl (x, nx) => (x, nx, 0, 0)
  | .inr (b, e) => (zIt, 0, b, e)
theorem rread_any (s : ByteArray) (k : Nat) (W : World) (hs : s.size ≤ 1000000) (hk : k ≤ s.size) :
    Calls Tryz.prog 48 #[.string s, .int .i64 k] W fun r w' => r = .returned (.tuple #[.agg (itV (readV s k).1), .int .i64 (readV s k).2.1, .int .i64 (readV s k).2.2.1, .int .i64 (readV s k).2.2.2]) ∧ Below W.heap.size W w' := by
  unfold readV
  cases hj : nl s k with
  | none => rw [readF_nl hj]; exact rread_none k s W hs hk hj
  | some j =>
    cases hf : headF (s.extract k j) with
    | none => rw [readF_hd hj hf]; exact rread_head k j s W hs hk hj hf
    | some p =>
      obtain ⟨id, n, c⟩ := p
      rw [readF_of hj hf]
      by_cases hl : s.size < j + 1 + n + 1
      · rw [if_pos hl]; exact rread_short k j n id c s W hs hk hj hf hl
      · rw [if_neg hl]
        by_cases h10 : bt s ((j + 1 + n : Nat) : Int) = 10
        · rw [if_neg (by simpa using h10)]
          by_cases hd : digS (id, s.extract (j + 1) (j + 1 + n)) = c
          · rw [if_neg (by simpa using hd)]; exact rread_ok k j n id c s W hs hk hj hf hl h10 hd
          · rw [if_pos hd]; exact rread_sum k j n id c s W hs hk hj hf hl h10 hd
        · rw [if_pos h10]; exact rread_feed k j n id c s W hs hk hj hf hl h10
theorem readV_le {s : ByteArray} {k nx : Nat} {x : It} (h : readF s k = .inl (x, nx)) : nx ≤ s.size ∧ k < nx ∧ okId x.1 := by
  obtain ⟨ho, rest, h1, h2⟩ := readF_inv h
  have h3 := drop_split h1 (by obtain ⟨r, hr⟩ := Fmt.item_head (F := FM) (toT x); rw [hr]; simp)
  have h4 : 0 < (FM.item (toT x)).length := by obtain ⟨r, hr⟩ := Fmt.item_head (F := FM) (toT x); rw [hr]; simp
  exact ⟨by omega, by omega, ho.1⟩
theorem readV_bad {s : ByteArray} {k b : Nat} {e : Int} (h : readF s k = .inr (b, e)) : e ≠ 0 := by
  unfold readF at h
  split at h
  · injection h with h; injection h with _ h; omega
  · split at h
    · injection h with h; injection h with _ h; omega
    · split at h
      · injection h with h; injection h with _ h; omega
      · split at h
        · injection h with h; injection h with _ h; omega
        · split at h
          · injection h with h; injection h with _ h; omega
          · cases h
/-- The first line by its words. -/
theorem firstF_words (ln : ByteArray) : firstF ln = (match wordsF ln with
    | [a, b] => if a = batB ∧ 0 ≤ numR b 1000 then some (numR b 1000).toNat else none
    | _ => none) := by
  have hnum : ∀ b : ByteArray, (0 ≤ numR b 1000 ↔ (numF b 1000).2 = 0) ∧ ((numF b 1000).2 = 0 → numR b 1000 = (numF b 1000).1) := by
    intro b
    have := numF_range b 1000 (by omega) (by omega)
    unfold numR
    by_cases h : (numF b 1000).2 = 0
    · rw [if_pos h]; exact ⟨⟨fun _ => h, fun _ => this.1⟩, fun _ => rfl⟩
    · rw [if_neg h]; exact ⟨⟨fun h2 => by omega, fun h2 => absurd h2 h⟩, fun h2 => absurd h2 h⟩
  rcases find_sep 32 ln.data.toList with h | ⟨a, r, h, ha⟩
  · rw [words_one ln h]
    unfold firstF
    rw [cutSp_no ln h, if_neg]
    rintro ⟨_, h2⟩
    obtain ⟨n, _, _, h3⟩ := num_dec _ 1000 (by omega) h2
    have h4 := dec_len n
    rw [← h3] at h4
    simp [mkB] at h4
  · rw [words_cons ln a r h ha]
    have hr : (mkB r).data.toList = r := by simp [mkB]
    rcases find_sep 32 r with h2 | ⟨a2, r2, h2, ha2⟩
    · rw [words_one (mkB r) (by rw [hr]; exact h2)]
      unfold firstF
      rw [cutSp_at ln a r h ha]
      simp only []
      by_cases hc : mkB a = batB ∧ (numF (mkB r) 1000).2 = 0
      · rw [if_pos hc, if_pos ⟨hc.1, (hnum _).1.mpr hc.2⟩, (hnum _).2 hc.2]
      · rw [if_neg hc, if_neg (fun hh => hc ⟨hh.1, (hnum _).1.mp hh.2⟩)]
    · have h3 : ∃ x y z, wordsF (mkB r) = x :: y :: z := by
        rw [words_cons (mkB r) a2 r2 (by rw [hr]; exact h2) ha2]
        cases hw : wordsF (mkB r2) with
        | nil => exact absurd hw (words_ne _)
        | cons y z => exact ⟨_, _, _, rfl⟩
      obtain ⟨x, y, z, h3⟩ := h3
      rw [h3]
      unfold firstF
      rw [cutSp_at ln a r h ha, if_neg]
      rintro ⟨_, h5⟩
      obtain ⟨n, _, _, h6⟩ := num_dec _ 1000 (by omega) h5
      have h7 : (32 : UInt8) ∉ Lib.decDigits n := Fmt.dec_space (F := FM) n
      apply h7
      rw [← h6, hr, h2]
      exact List.mem_append_right _ List.mem_cons_self
theorem batB_len : batB.toList = [98, 97, 116, 99, 104] := by rw [ByteArray.toList_eq]; rfl
theorem endB_len : endB.toList = [101, 110, 100] := by rw [ByteArray.toList_eq]; rfl

set_option maxHeartbeats 8000000 in
set_option maxRecDepth 100000 in
theorem runpack_none (s : ByteArray) (W : World) (hs : s.size ≤ 1000000) (hj : nl s 0 = none) :
    Calls Tryz.prog 21 #[.string s] W fun r w' => r = .returned (.tuple #[.slice none 0 0, .int .i64 s.size, .int .i64 23]) ∧ Below W.heap.size W w' := by
  have hsb : ¬ (4194304 < (s.size : Int)) := by omega
  have HEND := Aside0.mk (fun k hk w => end_any s k w (by omega) hk)
  have h0 := HEND.out 0 (Nat.zero_le _)
  have hnli : nlI s 0 = -1 := by unfold nlI; rw [hj]
  rw [hnli] at h0
  have H0 := Aside0.mk h0
  clear h0 hj hnli
  go_enter Tryz.func21, Tryz.ntmps21
  go_wp2_with fail
  refine (H0.out _).mono ?_
  rintro e w2 ⟨rfl, m2, rfl⟩
  have B2 := Aside0.mk (pw_below_drewN (Below.refl W.heap.size W) m2)
  go_wp2_with fail
  go_ret3
  exact ⟨rfl, B2.out⟩

set_option maxHeartbeats 8000000 in
set_option maxRecDepth 100000 in
theorem runpack_bad (s : ByteArray) (j : Nat) (W : World) (hs : s.size ≤ 1000000) (hj : nl s 0 = some j) (hf : firstF (s.extract 0 j) = none) :
    Calls Tryz.prog 21 #[.string s] W fun r w' => r = .returned (.tuple #[.slice none 0 0, .int .i64 0, .int .i64 3]) ∧ Below W.heap.size W w' := by
  have hsb : ¬ (4194304 < (s.size : Int)) := by omega
  have HEND := Aside0.mk (fun k hk w => end_any s k w (by omega) hk)
  have hjl := nl_le s 0 j hj
  have h0 := HEND.out 0 (Nat.zero_le _)
  have hnli : nlI s 0 = (j : Int) := by unfold nlI; rw [hj]
  rw [hnli] at h0
  have H0 := Aside0.mk h0
  obtain ⟨ln, hln⟩ : ∃ ln, s.extract 0 j = ln := ⟨_, rfl⟩
  have hlns : ln.size ≤ 1000000 := by rw [← hln, ← data_length, extract_list, List.length_take, List.length_drop, data_length]; omega
  have HWD := Aside0.mk (fun w => rwords_any ln w hlns)
  have hjs : (j : Int) ≤ (s.size : Int) := by omega
  rw [hln, firstF_words] at hf
  obtain ⟨ws, hws⟩ : ∃ ws, wordsF ln = ws := ⟨_, rfl⟩
  have hne := words_ne ln
  rw [hws] at hf HWD hne
  clear h0 hj hnli hws
  obtain ⟨n, hn⟩ : ∃ n, ws.length = n := ⟨_, rfl⟩
  have hn0 : 0 < ws.length := List.length_pos_iff.mpr hne
  clear hne hjl
  by_cases h2 : n = 2
  · obtain ⟨a, b, rfl⟩ : ∃ a b, ws = [a, b] := by
      match ws, hn.trans h2 with
      | [a, b], _ => exact ⟨a, b, rfl⟩
    subst h2
    simp only [] at hf
    by_cases ha : a = batB
    · subst ha
      have hbl := batB_len
      have HNU := Aside0.mk (fun w => rnumber_any b 1000 w (by omega))
      obtain ⟨v, hv⟩ : ∃ v, numR b 1000 = v := ⟨_, rfl⟩
      rw [hv] at HNU hf
      have hv0 : v < 0 := by
        by_cases h : 0 ≤ v
        · rw [if_pos ⟨rfl, h⟩] at hf; cases hf
        · omega
      clear hf hv hn hn0
      go_enter Tryz.func21, Tryz.ntmps21
      go_wp2_with fail
      refine (H0.out _).mono ?_
      rintro e w2 ⟨rfl, m2, rfl⟩
      have B2 := Aside0.mk (pw_below_drewN (Below.refl W.heap.size W) m2)
      generalize W.drewN m2 = w2 at B2 ⊢
      go_wp2_with fail
      clear hln
      refine (HWD.out _).mono ?_
      rintro e w3 ⟨v3, rfl, hr, hb⟩
      obtain ⟨g6, cap6, rfl, hcells⟩ := word_cells hr (by simp)
      have HCE := Aside0.mk hcells
      have B3 := Aside0.mk (below_step B2.out hb)
      clear hr hcells hb B2
      have k0 := HCE.out 0 _ rfl _ (Below.refl _ _)
      have k1 := HCE.out 1 _ rfl _ (Below.refl _ _)
      go_wp2_with fail
      refine (HNU.out _).mono ?_
      rintro e w4 ⟨rfl, m4, rfl⟩
      have B4 := Aside0.mk (pw_below_drewN B3.out m4)
      clear k0 k1
      go_wp2_with fail
      go_ret3
      exact ⟨rfl, B4.out⟩
    · have hal := batB_ne ha
      have hal2 : (a.toList == [98, 97, 116, 99, 104]) = false := by simp [hal]
      clear hf ha hn hn0
      go_enter Tryz.func21, Tryz.ntmps21
      go_wp2_with fail
      refine (H0.out _).mono ?_
      rintro e w2 ⟨rfl, m2, rfl⟩
      have B2 := Aside0.mk (pw_below_drewN (Below.refl W.heap.size W) m2)
      generalize W.drewN m2 = w2 at B2 ⊢
      go_wp2_with fail
      clear hln
      refine (HWD.out _).mono ?_
      rintro e w3 ⟨v3, rfl, hr, hb⟩
      obtain ⟨g6, cap6, rfl, hcells⟩ := word_cells hr (by simp)
      have HCE := Aside0.mk hcells
      have B3 := Aside0.mk (below_step B2.out hb)
      clear hr hcells hb B2
      have k0 := HCE.out 0 _ rfl _ (Below.refl _ _)
      go_wp2_with fail
      go_ret3
      exact ⟨rfl, B3.out⟩
  · have hn4 : ((n : Int) != 2) = true := by simp; omega
    have hn5 : ¬ (n : Int) = 2 := by omega
    have HN := Aside0.mk hn
    clear hf hn
    go_enter Tryz.func21, Tryz.ntmps21
    go_wp2_with fail
    refine (H0.out _).mono ?_
    rintro e w2 ⟨rfl, m2, rfl⟩
    have B2 := Aside0.mk (pw_below_drewN (Below.refl W.heap.size W) m2)
    generalize W.drewN m2 = w2 at B2 ⊢
    go_wp2_with fail
    clear hln
    refine (HWD.out _).mono ?_
    rintro e w3 ⟨v3, rfl, hr, hb⟩
    obtain ⟨g6, cap6, rfl, hcells⟩ := word_cells hr hn0
    rw [HN.out]
    clear hn0
    have HCE := Aside0.mk hcells
    have B3 := Aside0.mk (below_step B2.out hb)
    clear hr hcells hb B2
    go_wp2_with fail
    go_ret3
    exact ⟨rfl, B3.out⟩

set_option maxHeartbeats 8000000 in
set_option maxRecDepth 100000 in
theorem runpack_ok (s : ByteArray) (j n : Nat) (W : World) (hs : s.size ≤ 1000000) (hj : nl s 0 = some j) (hf : firstF (s.extract 0 j) = some n) (hu : unpackF s = (match runF s n (j + 1) [] with | .inr (b, e) => ([], b, e) | .inl (l, k) => if (lastF s k).2 = 0 then (l, 0, 0) else ([], (lastF s k).1, (lastF s k).2))) :
    Calls Tryz.prog 21 #[.string s] W fun r w' => ∃ v, r = .returned (.tuple #[v, .int .i64 (unpackF s).2.1, .int .i64 (unpackF s).2.2]) ∧ Kit.R 36 w' W.heap.size (fun _ => True) v (unpackF s).1 ∧ Below W.heap.size W w' := by
  have hsb : ¬ (4194304 < (s.size : Int)) := by omega
  have HEND := Aside0.mk (fun k hk w => end_any s k w (by omega) hk)
  have hjl := nl_le s 0 j hj
  have h0 := HEND.out 0 (Nat.zero_le _)
  have hnli : nlI s 0 = (j : Int) := by unfold nlI; rw [hj]
  rw [hnli] at h0
  have H0 := Aside0.mk h0
  obtain ⟨ln, hln⟩ : ∃ ln, s.extract 0 j = ln := ⟨_, rfl⟩
  have hlns : ln.size ≤ 1000000 := by rw [← hln, ← data_length, extract_list, List.length_take, List.length_drop, data_length]; omega
  have HWD := Aside0.mk (fun w => rwords_any ln w hlns)
  have hjs : (j : Int) ≤ (s.size : Int) := by omega
  rw [hln, firstF_words] at hf
  obtain ⟨ws, hws⟩ : ∃ ws, wordsF ln = ws := ⟨_, rfl⟩
  have hne := words_ne ln
  rw [hws] at hf HWD hne
  clear h0 hj hnli hws
  obtain ⟨b, rfl, hnb, hn1⟩ : ∃ b, ws = [batB, b] ∧ numR b 1000 = (n : Int) ∧ n ≤ 1000 := by
    split at hf
    · rename_i a b
      split at hf
      · rename_i hc
        obtain ⟨rfl, h0⟩ := hc
        have h1 := Option.some.inj hf
        have h2 : numR b 1000 ≤ 1000 := by
          unfold numR
          split
          · exact (numF_range b 1000 (by omega) (by omega)).2
          · omega
        exact ⟨b, rfl, by omega, by omega⟩
      · cases hf
    · cases hf
  obtain ⟨res, hres⟩ : ∃ res, runF s n (j + 1) [] = res := ⟨_, rfl⟩
  rw [hres] at hu
  have HRES := Aside0.mk hres
  have HU := Aside0.mk hu
  have hbl := batB_len
  have hel := endB_len
  have HNU := Aside0.mk (fun w => rnumber_any b 1000 w (by omega))
  rw [hnb] at HNU
  have HRD := Aside0.mk (fun k hk w => rread_any s k w hs hk)
  have HJL := Aside0.mk hjl
  clear hf hnb hne hu hres hjl
  go_enter Tryz.func21, Tryz.ntmps21
  go_wp2_with fail
  refine (H0.out _).mono ?_
  rintro e w2 ⟨rfl, m2, rfl⟩
  have B2 := Aside0.mk (pw_below_drewN (Below.refl W.heap.size W) m2)
  generalize W.drewN m2 = w2 at B2 ⊢
  go_wp2_with fail
  clear hln
  refine (HWD.out _).mono ?_
  rintro e w3 ⟨v3, rfl, hr, hb⟩
  obtain ⟨g6, cap6, rfl, hcells⟩ := word_cells hr (by simp)
  have HCE := Aside0.mk hcells
  have B3 := Aside0.mk (below_step B2.out hb)
  clear hr hcells hb B2
  have k0 := HCE.out 0 _ rfl _ (Below.refl _ _)
  have k1 := HCE.out 1 _ rfl _ (Below.refl _ _)
  go_wp2_with fail
  refine (HNU.out _).mono ?_
  rintro e w4 ⟨rfl, m4, rfl⟩
  have B4 := Aside0.mk (pw_below_drewN B3.out m4)
  have E4 := Aside0.mk (pw_below_drewN (Below.refl w3.heap.size w3) m4)
  generalize w3.drewN m4 = w4 at B4 E4 ⊢
  clear k0 k1 B3
  have k1 := HCE.out 1 _ rfl _ E4.out
  go_wp2_with fail
  refine (HNU.out _).mono ?_
  rintro e w5 ⟨rfl, m5, rfl⟩
  have B5 := Aside0.mk (pw_below_drewN B4.out m5)
  generalize w4.drewN m5 = w5 at B5 ⊢
  clear k1 E4 B4 HCE
  go_wp2_with fail
  obtain ⟨p, hp⟩ : ∃ p, j + 1 = p := ⟨_, rfl⟩
  have hpI : (j : Int) + 1 = (p : Int) := by omega
  have HPP := Aside0.mk hp
  rw [hpI]
  go_loopg [8, 9, 10] n (fun gf x8 x9 x10 wx => ∃ (i k : Nat) (acc : List It), i ≤ n ∧ k ≤ s.size ∧ x10 = .int .i64 i ∧ x8 = .int .i64 k ∧ Hid (n ≤ i + gf) ∧ Aside0 (Kit.R 36 wx W.heap.size (fun _ => True) x9 acc) ∧ Aside0 (acc.length ≤ i) ∧ Aside0 (Below W.heap.size W wx) ∧ Aside0 (runF s (n - i) k acc = res))
  case atStart => exact ⟨0, p, [], Nat.zero_le _, by have := HJL.out; have := HPP.out; omega, rfl, rfl, by unfold Hid; omega, ⟨Kd.R_nil _ _ _ _ _⟩, ⟨Nat.le_refl _⟩, B5, ⟨by rw [← HRES.out, ← HPP.out]; rfl⟩⟩
  case round =>
    clear B5
    obtain ⟨i, k, acc, hi, hkk, rfl, rfl, HG, HR, HAL, B, H1⟩ := hrel
    by_cases hlt : i < n
    · obtain ⟨m, hm⟩ : ∃ m, n - i = m + 1 := ⟨n - i - 1, by omega⟩
      have hrd := HRD.out k hkk
      have h1 := H1.out
      rw [hm] at h1
      cases hrf : readF s k with
      | inl q =>
        obtain ⟨x, nx⟩ := q
        obtain ⟨hnx, _, hxo⟩ := readV_le hrf
        have hv : readV s k = (x, nx, 0, 0) := by unfold readV; rw [hrf]
        rw [hv] at hrd
        rw [run_ok hrf] at h1
        have HRD1 := Aside0.mk hrd
        have HH1 := Aside0.mk h1
        have HXO := Aside0.mk hxo
        have HM := Aside0.mk hm
        clear hrd h1 hrf hv hm hxo
        go_wp2_with fail
        refine (HRD1.out _).mono ?_
        rintro e' w6 ⟨rfl, hb⟩
        have R6 := Aside0.mk (Kd.R_below HR.out hb)
        have B6 := Aside0.mk (below_step B.out hb)
        clear hb
        go_wp2_with (first
          | ((with_reducible refine gate_dst (N := 11) rfl ?_); refine var_blk (cs := itV x) rfl rfl rfl rfl rfl rfl zero36 (itV_size okId_z) (itV_size HXO.out) (itV_one _) (fun _ => rfl) (fun _ => rfl) ?_; intro g11 w7 hg11 hz hb; have Z7 := Aside0.mk hz; have R7 := Aside0.mk (Kd.R_below R6.out hb); have B7 := Aside0.mk (below_step B6.out hb); clear hg11 hz hb)
          | ((with_reducible refine gate_dst (N := 68) rfl ?_); refine load_blk rfl rfl rfl Z7.out Tryz.underlying36 rfl (by rw [itV_size HXO.out]; exact size36) ?_)
          | ((with_reducible refine gate_dst (N := 69) rfl ?_); refine slice_one rfl rfl rfl Tryz.underlying24 zero36 (itV_size okId_z) (itV_size HXO.out) (by omega) (by omega) ?_; intro g31 w8 hg31 hz hb; have Y8 := Aside0.mk hz; have R8 := Aside0.mk (Kd.R_below R7.out hb); have B8 := Aside0.mk (below_step B7.out hb); clear hg31 hz hb)
          | ((with_reducible refine gate_builtin (b := .append) (xs := #[.tmp 67, .tmp 69]) rfl ?_); refine Kd.R_append_rows Kit (w0 := W) W.heap.size rfl (.tmp 67) (.tmp 69) 24 36 (.agg (itV zIt)) 48 rfl Tryz.underlying24 info36 (itV_size okId_z) (by decide) (by omega) _ acc [x] (some ⟨g31, 0, none⟩) 1 1 (fun _ => True) (fun _ => False) rfl rfl ?aO ?aR (fun _ _ h => h) (fun _ h => h.elim) ?aF ?aB ?aS ?aL ?_; (case aR => exact Kit.of_blk Y8.out HXO.out); (case aB => exact B8.out); (case aF => exact (fun _ _ => trivial)); (case aO => exact R8.out); (case aS => exact B8.out.size); (case aL => have := HAL.out; have hll : ([x] : List It).length = 1 := rfl; omega); intro v9 w9 ho hb hgr _; have R9 := Aside0.mk ho; have B9 := Aside0.mk hb; clear ho hb hgr))
        go_roundg (gk - 1)
        case measure => have := HG.out; omega
        case rel => exact ⟨i + 1, nx, acc ++ [x], by omega, hnx, by go_num, rfl, by have := HG.out; unfold Hid; omega, R9, ⟨by have := HAL.out; simp; omega⟩, B9, ⟨by rw [show n - (i + 1) = m by have := HM.out; omega]; exact HH1.out⟩⟩
      | inr q =>
        obtain ⟨b2, e2⟩ := q
        have he2 := readV_bad hrf
        have hv : readV s k = (zIt, 0, b2, e2) := by unfold readV; rw [hrf]
        rw [hv] at hrd
        rw [run_bad hrf] at h1
        have hu2 := HU.out
        rw [← h1] at hu2
        have HRD1 := Aside0.mk hrd
        have HU2 := Aside0.mk (show unpackF s = ([], b2, e2) from hu2)
        have hneb : (e2 != 0) = true := by simp [he2]
        clear hrd h1 hrf hv hm hu2
        go_wp2_with fail
        refine (HRD1.out _).mono ?_
        rintro e' w6 ⟨rfl, hb⟩
        have B6 := Aside0.mk (below_step B.out hb)
        clear hb
        go_wp2_with (first
          | ((with_reducible refine gate_dst (N := 11) rfl ?_); refine var_blk (cs := itV zIt) rfl rfl rfl rfl rfl rfl zero36 (itV_size okId_z) (itV_size okId_z) (itV_one _) (fun _ => rfl) (fun _ => rfl) ?_; intro g11 w7 hg11 hz hb; have B7 := Aside0.mk (below_step B6.out hb); clear hg11 hz hb))
        go_ret3
        exact ⟨_, by rw [HU2.out]; rfl, by rw [HU2.out]; exact Kd.R_nil _ _ _ _ _, B7.out⟩
    · obtain rfl : i = n := by omega
      have h1 := H1.out
      rw [Nat.sub_self, run_zero] at h1
      have hu2 := HU.out
      rw [← h1] at hu2
      simp only [] at hu2
      have he := HEND.out k hkk
      unfold nlI at he
      unfold lastF at hu2
      cases hjk : nl s k with
      | none =>
        rw [hjk] at he hu2
        have HE2 := Aside0.mk he
        have HU2 := Aside0.mk (show unpackF s = ([], s.size, 23) by rw [hu2]; rfl)
        clear he hu2 h1 hjk
        go_wp2_with fail
        refine (HE2.out _).mono ?_
        rintro e' w6 ⟨rfl, m6, rfl⟩
        have B6 := Aside0.mk (pw_below_drewN B.out m6)
        go_wp2_with fail
        go_ret3
        exact ⟨_, by rw [HU2.out]; rfl, by rw [HU2.out]; exact Kd.R_nil _ _ _ _ _, B6.out⟩
      | some q =>
        rw [hjk] at he hu2
        simp only [] at hu2
        have hql := nl_le s k q hjk
        have HE2 := Aside0.mk he
        obtain ⟨ex, hex⟩ : ∃ ex, s.extract k q = ex := ⟨_, rfl⟩
        rw [hex] at hu2
        have hkq : (k : Int) ≤ (q : Int) := by omega
        have hqs : (q : Int) ≤ (s.size : Int) := by omega
        have hkq0 : (0 : Int) ≤ (k : Int) := by omega
        clear he h1 hjk
        by_cases hen : ex = endB
        · subst hen
          by_cases hlong : q + 1 < s.size
          · have hlI : (q : Int) + 1 < (s.size : Int) := by omega
            have HU2 := Aside0.mk (show unpackF s = ([], q + 1, 5) by rw [hu2]; simp [hlong])
            clear hu2
            go_wp2_with fail
            refine (HE2.out _).mono ?_
            rintro e' w6 ⟨rfl, m6, rfl⟩
            have B6 := Aside0.mk (pw_below_drewN B.out m6)
            go_wp2_with fail
            go_ret3
            exact ⟨_, by rw [HU2.out]; rfl, by rw [HU2.out]; exact Kd.R_nil _ _ _ _ _, B6.out⟩
          · have hlI : ¬ (q : Int) + 1 < (s.size : Int) := by omega
            have HU2 := Aside0.mk (show unpackF s = (acc, 0, 0) by rw [hu2]; simp [hlong])
            clear hu2
            go_wp2_with fail
            refine (HE2.out _).mono ?_
            rintro e' w6 ⟨rfl, m6, rfl⟩
            have B6 := Aside0.mk (pw_below_drewN B.out m6)
            have R6 := Aside0.mk (show Kit.R 36 (wr.drewN m6) W.heap.size (fun _ => True) u9 acc from Kd.R_drewN HR.out m6)
            go_wp2_with fail
            go_ret3
            exact ⟨_, by rw [HU2.out]; rfl, by rw [HU2.out]; exact R6.out, B6.out⟩
        · have HU2 := Aside0.mk (show unpackF s = ([], k, 3) by rw [hu2]; simp [hen])
          have hne := endB_ne hen
          have hneb : (ex.toList == [101, 110, 100]) = false := by simp [hne]
          clear hu2 hen
          go_wp2_with fail
          refine (HE2.out _).mono ?_
          rintro e' w6 ⟨rfl, m6, rfl⟩
          have B6 := Aside0.mk (pw_below_drewN B.out m6)
          go_wp2_with fail
          go_ret3
          exact ⟨_, by rw [HU2.out]; rfl, by rw [HU2.out]; exact Kd.R_nil _ _ _ _ _, B6.out⟩

theorem runpack_any (s : ByteArray) (W : World) (hs : s.size ≤ 1000000) :
    Calls Tryz.prog 21 #[.string s] W fun r w' => ∃ v, r = .returned (.tuple #[v, .int .i64 (unpackF s).2.1, .int .i64 (unpackF s).2.2]) ∧ Kit.R 36 w' W.heap.size (fun _ => True) v (unpackF s).1 ∧ Below W.heap.size W w' := by
  cases hj : nl s 0 with
  | none =>
    have hu : unpackF s = ([], s.size, 23) := by unfold unpackF; rw [hj]
    rw [hu]
    exact (runpack_none s W hs hj).mono fun r w' ⟨a, b⟩ => ⟨_, a, Kd.R_nil _ _ _ _ _, b⟩
  | some j =>
    cases hf : firstF (s.extract 0 j) with
    | none =>
      have hu : unpackF s = ([], 0, 3) := by unfold unpackF; rw [hj]; simp only [hf]
      rw [hu]
      exact (runpack_bad s j W hs hj hf).mono fun r w' ⟨a, b⟩ => ⟨_, a, Kd.R_nil _ _ _ _ _, b⟩
    | some n =>
      have hu : unpackF s = (match runF s n (j + 1) [] with | .inr (b, e) => ([], b, e) | .inl (l, k) => if (lastF s k).2 = 0 then (l, 0, 0) else ([], (lastF s k).1, (lastF s k).2)) := by unfold unpackF; rw [hj]; simp only [hf]; rfl
      refine (runpack_ok s j n W hs hj hf hu).mono ?_
      rintro r w' ⟨v, a, b, c⟩
      exact ⟨v, a, b, c⟩

end Go.Proofs.YtceopllngemnnaaGreatDoor

