/-
  The law BatchTampering: in a world that holds what the library reads, the call returns true and leaves what was there. For every list of items, every number and every byte.
-/
import Derived.Test.YtceopllngemnnaaGreatDoorF1
import Derived.Test.YtceopllngemnnaaGreatDoorLBatchTruncates
set_option linter.unusedVariables false
set_option linter.unusedSimpArgs false
namespace Go.Proofs.YtceopllngemnnaaGreatDoor
open Go.RowKit Go.Proofs.YtceopllngemnnaaGreatDoorW.PrintWords Go.Proofs.YtceopllngemnnaaGreatDoorW.PrintLast Go.Proofs.YtceopllngemnnaaGreatDoorW.PrintMore Go.Proofs.YtceopllngemnnaaGreatDoor.PRef
attribute [local go_sem] max2_int min2_int max_two min_two

/-! Region tables, printed by rg2.py. -/
def r3_12.T : Bool × List (List Nat × List Nat) := (true, [([], []), ([], []), ([0, 1], [0, 1]), ([2], [2]), ([], []), ([], []), ([4, 5], [4, 5]), ([6], [6]), ([7], [7]), ([], []), ([], []), ([9, 10], [9, 10]), ([11], [11]), ([12], [12]), ([8, 13], [8, 13]), ([3, 14], [3, 14])])
def r3_12.B : List Nat := [0, 0, 3, 7, 0, 0, 48, 112, 240, 0, 0, 1536, 3584, 7680, 16368, 32767]
theorem r3_12.tab : rtab .any (opsOf Tryz.f3 12) = r3_12.T := by kernel_rfl
theorem r3_12.bits : waitsOk r3_12.T.2 r3_12.B = true := by kernel_rfl

/-- Bytes in a block that no string shares. -/
def BB (w : World) (g : Nat) (l : List Int) : Prop := (∀ j, j < l.length → w.cell? ⟨g, j, none⟩ = some (.int .u8 (l.getD j 0))) ∧ ∃ cs t fr, w.heap[g]? = some (.cells cs t fr) ∧ l.length ≤ fr.1
theorem BB.below {w w' : World} {g : Nat} {l : List Int} (h : BB w g l) (hb : Below w.heap.size w w') : BB w' g l := by
  obtain ⟨h1, cs, t, fr, h2, h3⟩ := h
  refine ⟨fun j hj => pw_cell_below hb (h1 j hj), cs, t, fr, ?_, h3⟩
  have hg : g < w.heap.size := by
    have := (Array.getElem?_eq_some_iff.1 h2).1
    exact this
  exact (hb.block g hg).trans h2
theorem BB.reads {w : World} {g : Nat} {l : List Int} (h : BB w g l) (hm : l.length ≤ 9223372036854775807) : ReadsInt w .u8 (some ⟨g, 0, none⟩) l.length l :=
  ⟨rfl, hm, fun _ => ⟨⟨g, 0, none⟩, rfl, fun j hj => by rw [add_plain]; exact h.1 j hj⟩⟩
theorem BB.free {w : World} {g : Nat} {l : List Int} (h : BB w g l) (j : Nat) (hj : j < l.length) : w.frozen? ⟨g, j, none⟩ = false := by
  obtain ⟨_, cs, t, fr, h2, h3⟩ := h
  simp [World.frozen?, h2]
  omega
theorem BB.new (W : World) (s : ByteArray) : BB (Lib.bytesWorld W 5 s) W.heap.size (bytesOf s) := by
  refine ⟨fun j hj => ?_, _, _, _, Lib.bytesWorld_at_new W 5 s, ?_⟩
  · rw [bytesOf_length] at hj
    rw [Lib.bytesWorld_cell W 5 s j hj]
    simp [bytesOf, List.getD_eq_getElem?_getD, hj]
  · rw [bytesOf_length]
    simp [Lib.bytesCells]
theorem BB.set {w : World} {g : Nat} {l : List Int} (h : BB w g l) (hm : l.length ≤ 9223372036854775807) (i : Nat) (hi : i < l.length) (v : Int) : ReadsInt (w.setCell ⟨g, i, none⟩ (.int .u8 v)) .u8 (some ⟨g, 0, none⟩) l.length (l.set i v) := by
  refine ⟨List.length_set, hm, fun _ => ⟨⟨g, 0, none⟩, rfl, fun j hj => ?_⟩⟩
  rw [add_plain]
  by_cases hij : i = j
  · subst hij
    rw [World.cell?_setCell_same _ _ _ (h.1 i hi)]
    simp [List.getD_eq_getElem?_getD, hi]
  · rw [World.cell?_setCell_other _ _ _ _ (by intro e; injection e; omega), h.1 j hj]
    simp [List.getD_eq_getElem?_getD, List.getElem?_set, hij]

set_option maxHeartbeats 8000000 in
set_option maxRecDepth 100000 in
theorem batchTampering_walk (A : Option Addr) (n c : Nat) (l : List It) (hn : n ≤ 9223372036854775807) (m : Int) (wm : (Lit.int .u16 m).wf = true) (by_ : Int) (wb : (Lit.int .u8 by_).wf = true) (W : World) (hC : Kit.C W A n l) (he : Env W) :
    Calls Tryz.prog 3 #[.slice A n c, .int .u16 m, .int .u8 by_] W fun r w' => r = .returned (.bool true) ∧ Below W.heap.size W w' := by
  obtain ⟨hm0, hm⟩ : 0 ≤ m ∧ m < 65536 := by
    simp [Lit.wf, IntKind.min, IntKind.max, IntKind.signed, IntKind.bits] at wm
    omega
  obtain ⟨hb0, hb⟩ : 0 ≤ by_ ∧ by_ < 256 := by
    simp [Lit.wf, IntKind.min, IntKind.max, IntKind.signed, IntKind.bits] at wb
    omega
  clear wm wb
  have hok : ∀ x ∈ toL l, okIt x := toL_ok l (Kit.ok_all hC)
  have hle := toL_le l
  have HTO := Aside0.mk (to_any A n c l W hC hn)
  obtain ⟨p, hp⟩ : ∃ p, toL l = p := ⟨_, rfl⟩
  rw [hp] at hok hle HTO
  have hsz := packS_size p (fun x hx => (hok x hx).1)
  have htot := small_total hle (fun x hx => (hok x hx).2)
  have hpos := packS_pos p
  obtain ⟨s, hs⟩ : ∃ s, packS p = s := ⟨_, rfl⟩
  rw [hs] at hsz hpos
  rw [← hsz] at htot
  obtain ⟨np, hnp⟩ : ∃ np, p.length = np := ⟨_, rfl⟩
  have h10 : np ≤ 10 := by omega
  obtain ⟨k, hk⟩ : ∃ k, m.toNat % s.size = k := ⟨_, rfl⟩
  have hkl : k < s.size := by rw [← hk]; exact Nat.mod_lt _ hpos
  have hkm : m % (s.size : Int) = (k : Int) := by
    obtain ⟨m', rfl⟩ := Int.eq_ofNat_of_zero_le hm0
    rw [← hk, Int.toNat_natCast]; rfl
  have HTX := Aside0.mk (fun A c w h => rtext_any A np c p w h (by omega) (fun x hx => (hok x hx).2))
  rw [hs] at HTX
  have HE := Aside0.mk he
  have HNP := Aside0.mk hnp
  have HKM := Aside0.mk hkm
  have HP := Aside0.mk hs
  have HOK := Aside0.mk hok
  have k0 : (0 : Int) ≤ m % (s.size : Int) := by rw [hkm]; omega
  have k1 : m % (s.size : Int) < (s.size : Int) := by rw [hkm]; omega
  clear hok hle hp hsz hs he hC hnp hkm hk
  go_enter Tryz.func3, Tryz.ntmps3
  go_wp2_with fail
  refine HTO.out.mono ?_
  rintro e w1 ⟨v1, rfl, hr, hb'⟩
  have B1 := Aside0.mk hb'
  obtain ⟨A1, c1, rfl, hc1, hC1⟩ := Kd.R_reads hr
  rw [HNP.out] at hC1 ⊢
  have C1 := Aside0.mk hC1
  clear hb' hr hC1 hc1 HTO
  go_wp2_with fail
  refine (HTX.out _ _ _ C1.out).mono ?_
  rintro e w2 ⟨rfl, hb'⟩
  have B2 := Aside0.mk (below_step B1.out hb')
  have C2 := Aside0.mk (Kd.C_below C1.out hb')
  clear hb' HTX C1
  go_wp2_with (first
    | ((with_reducible refine gate_dst (N := 17) rfl ?_); refine event_run_g rfl (exec_conv rfl rfl (print_bytes 9 26 5 Tryz.underlying9 Tryz.underlying26 Tryz.underlying5 s _)) ?_
       obtain ⟨g, hg⟩ : ∃ g, w2.heap.size = g := ⟨_, rfl⟩
       have Q3 := Aside0.mk (show BB (Lib.bytesWorld w2 5 s) g (bytesOf s) from by rw [← hg]; exact BB.new w2 s)
       have B3 := Aside0.mk (bytes_below B2.out B2.out.size 5 s)
       have G3 := Aside0.mk (show W.heap.size ≤ g by rw [← hg]; exact B2.out.size)
       have E3 := Aside0.mk (bytes_below (Below.refl w2.heap.size w2) (Nat.le_refl _) 5 s)
       have H3 := Aside0.mk (show w2.heap.size ≤ g by omega)
       obtain ⟨c3, hc3⟩ : ∃ c3, grownCap w2 s.size 0 5 = c3 := ⟨_, rfl⟩
       obtain ⟨w3, hw3⟩ : ∃ w3, Lib.bytesWorld w2 5 s = w3 := ⟨_, rfl⟩
       rw [hw3] at Q3 B3 E3
       rw [hg, hc3, hw3]
       clear hg hc3 hw3))
  refine (known_any _ (HE.out.below B3.out)).mono ?_
  rintro e w4 ⟨rfl, hb'⟩
  have B4 := Aside0.mk (below_step B3.out hb')
  have E4 := Aside0.mk (below_step E3.out hb')
  have Q4 := Aside0.mk (Q3.out.below hb')
  clear hb' E3 Q3
  by_cases hz : by_ = 0
  · subst hz
    go_wp2_with fail
    refine (known_any _ (HE.out.below B4.out)).mono ?_
    rintro e w5 ⟨rfl, hb'⟩
    have B5 := Aside0.mk (below_step B4.out hb')
    clear hb'
    go_wp2_with fail
    go_ret
    exact ⟨rfl, B5.out⟩
  · have hz0 : (by_ == 0) = false := by rw [beq_eq_false_iff_ne]; exact hz
    obtain ⟨v0, hv0⟩ : ∃ v0, (bytesOf s).getD k 0 = v0 := ⟨_, rfl⟩
    have hcell : w4.cell? ⟨g, (m % (s.size : Int)).toNat, none⟩ = some (.int .u8 v0) := by
      rw [HKM.out, Int.toNat_natCast, ← hv0]
      exact Q4.out.1 k (by rw [bytesOf_length]; exact hkl)
    have hfree : w4.frozen? ⟨g, (m % (s.size : Int)).toNat, none⟩ = false := by
      rw [HKM.out, Int.toNat_natCast]
      exact Q4.out.free k (by rw [bytesOf_length]; exact hkl)
    have hv1 : 0 ≤ v0 ∧ v0 ≤ 255 := by
      rw [← hv0, List.getD_eq_getElem?_getD]
      have hl : k < (bytesOf s).length := by rw [bytesOf_length]; exact hkl
      rw [List.getElem?_eq_getElem hl]
      exact bytesOf_range s _ (List.getElem_mem hl)
    obtain ⟨hx1, hx2, hx3⟩ := xor_u8 v0 by_ (by omega) (by omega) (by omega) hb
    obtain ⟨xv, hxv⟩ : ∃ xv, bits .xor .u8 v0 by_ = xv := ⟨_, rfl⟩
    rw [hxv] at hx1 hx2 hx3
    have HXV := Aside0.mk hxv
    have HLAW := Aside0.mk (fun hu => turn_law p HOK.out k xv (by rw [HP.out]; exact hkl) (by rw [HP.out, hv0]; exact hx1) hx2 hx3 hu)
    rw [HP.out] at HLAW
    obtain ⟨t, ht⟩ : ∃ t, turn s k xv = t := ⟨_, rfl⟩
    have hts : t.size = s.size := by rw [← ht, turn_size]
    rw [ht] at HLAW
    have HUN := Aside0.mk (fun w he => unpack_any t w he (by omega))
    have HUE := Aside0.mk (unpack_err t)
    have HUI := Aside0.mk (unpack_inv t)
    obtain ⟨o, ho⟩ : ∃ o, (unpackF t).1 = o := ⟨_, rfl⟩
    obtain ⟨at_, hat⟩ : ∃ z, (unpackF t).2.1 = z := ⟨_, rfl⟩
    obtain ⟨cd, hcd⟩ : ∃ z, (unpackF t).2.2 = z := ⟨_, rfl⟩
    rw [ho, hat, hcd] at HUN
    rw [ho, hcd] at HUE
    rw [ho, hat, hcd] at HUI
    rw [ho, hcd] at HLAW
    have HZ := Aside0.mk hz
    have HT := Aside0.mk ht
    clear hz hv0 hv1 hx1 hx2 hx3 hxv ht ho hat hcd
    go_upto_region 6 with fail
    rw [HXV.out]
    obtain ⟨w5, hw5⟩ : ∃ w5, w4.setCell ⟨g, (m % (s.size : Int)).toNat, none⟩ (.int .u8 xv) = w5 := ⟨_, rfl⟩
    have Q5 := Aside0.mk (show ReadsInt w5 .u8 (some ⟨g, 0, none⟩) s.size ((bytesOf s).set k xv) from by
      have h1 := Q4.out.set (by rw [bytesOf_length]; omega) k (by rw [bytesOf_length]; exact hkl) xv
      rw [← hw5, HKM.out, Int.toNat_natCast]
      rw [bytesOf_length] at h1
      exact h1)
    have B5 := Aside0.mk (show Below W.heap.size W w5 from by rw [← hw5]; exact below_set B4.out G3.out)
    have C5 := Aside0.mk (show Kit.C w5 A1 np p from by
      rw [← hw5]
      exact Kd.C_below C2.out (below_set E4.out H3.out))
    rw [hw5]
    clear hw5 Q4 E4 B4 C2 hcell hfree
    go_wp2_with (first
      | ((with_reducible refine gate_dst (N := 38) rfl ?_); refine event_run_g rfl (exec_conv rfl rfl (string_of_reads Tryz.underlying26 Tryz.underlying5 Tryz.underlying9 Q5.out)) ?_; rw [show strOfNums ((bytesOf s).set k xv) = t from HT.out]))
    refine (HUN.out _ (HE.out.below B5.out)).mono ?_
    rintro e w6 ⟨v6, rfl, hr, hb'⟩
    have B6 := Aside0.mk (below_step B5.out hb')
    have C6 := Aside0.mk (Kd.C_below C5.out hb')
    obtain ⟨A6, c6, rfl, hc6, hC6⟩ := Kd.R_reads hr
    have D6 := Aside0.mk hC6
    clear hb' hr hC6 hc6 C5 Q5
    have B6' := B6
    by_cases hc : cd = 0
    · subst hc
      obtain ⟨htp, hoo, _, _⟩ := HUI.out rfl
      have HOO := Aside0.mk hoo
      obtain ⟨i0, x0, o0, hx0, ho0, hcol⟩ := HLAW.out rfl
      have HX0 := Aside0.mk hx0
      have HO0 := Aside0.mk ho0
      have HC0 := Aside0.mk hcol
      obtain ⟨no, hno⟩ : ∃ no, o.length = no := ⟨_, rfl⟩
      have HNO := Aside0.mk hno
      rw [hno] at D6 ⊢
      have l0 : i0 < np := by
        have := (List.getElem?_eq_some_iff.1 hx0).1
        rw [HNP.out] at this; exact this
      have l1 : i0 < no := by
        have := (List.getElem?_eq_some_iff.1 ho0).1
        rw [hno] at this; exact this
      clear htp hoo hx0 ho0 hcol hno
      go_wp2_with fail
      go_loopg [12] np (fun gf x12 wx => ∃ (k : Nat), k ≤ i0 ∧ x12 = .int .i64 k ∧ Hid (np ≤ k + gf) ∧ Aside0 (Below w6.heap.size w6 wx) ∧ Aside0 (Below W.heap.size W wx))
      case atStart => exact ⟨0, Nat.zero_le _, rfl, by unfold Hid; omega, ⟨Below.refl _ _⟩, B6⟩
      case round =>
        obtain ⟨j, hj, rfl, HG, HB, HW⟩ := hrel
        obtain ⟨ad, x, hA, hx, hok1, hcell1⟩ := Kit.at_ C6.out j (by omega)
        subst hA
        obtain ⟨ad2, y, hA2, hy, hok2, hcell2⟩ := Kit.at_ D6.out j (by omega)
        subst hA2
        have HIT := Aside0.mk (show ItAt w6 (ad.add (j * 33)) x from hcell1)
        have HIT2 := Aside0.mk (show ItAt w6 (ad2.add (j * 33)) y from hcell2)
        have HX := Aside0.mk hok1
        have HY := Aside0.mk hok2
        obtain ⟨b, hbq⟩ : ∃ b, colB x y = b := ⟨_, rfl⟩
        have hnext : b = false → j + 1 ≤ i0 := by
          intro hb2
          rcases Nat.lt_or_ge j i0 with h | h
          · exact h
          · exfalso
            have hji : j = i0 := by omega
            rw [hji, HX0.out] at hx
            rw [hji, HO0.out] at hy
            have e1 := Option.some.inj hx
            have e2 := Option.some.inj hy
            rw [← e1, ← e2, HC0.out, hb2] at hbq
            cases hbq
        have HNX := Aside0.mk hnext
        have lx := (HOK.out x (mem_at hx)).2
        have ly := (HOO.out y (mem_at hy)).2
        have HCO := Aside0.mk (fun w => hbq ▸ collide_any x y w HX.out HY.out (by omega) (by omega))
        have k0 : (0 : Int) ≤ (j : Int) := by omega
        have k2 : (j : Int) < (np : Int) := by omega
        have k3 : (j : Int) < (no : Int) := by omega
        clear hok1 hok2 hcell1 hcell2 hx hy hbq hnext
        go_wp2_with fail
        refine start_ (n := 16) (S := fun w' => Below w6.heap.size w6 w' ∧ Below W.heap.size W w') (ds := []) #[false, false, false, false, false, false, false, false, false, false, false, false, false, false, false, false] (by kernel_rfl) rfl rfl ⟨below_drew HB.out, below_drew HW.out⟩ (fun hHeld => ?_)
        refine with_tabW r3_12.tab r3_12.bits (fun HT_ HW_ => ?_)
        generalize wr.drew = wd at hHeld ⊢
        have HH := Aside0.mk hHeld
        clear hHeld
        refine pure_ (i := 0) (N := some 60) (v := ?_) (a' := ?_) #[true, false, false, false, false, false, false, false, false, false, false, false, false, false, false, false] rfl rfl (any_of HT_.out (by kernel_rfl)) (fun _ _ _ h => h) (Or.inl ⟨by rfl, ?_⟩) ?_ ?_
        rotate_left
        · intro w'
          go_simp
          with_reducible rfl
        rotate_left
        · simp only [Act.put, List.setIfInBounds_toArray, List.set_cons_zero, List.set_cons_succ, i64_w, i32_w]
          rfl
        refine pure_ (i := 1) (N := some 61) (v := ?_) (a' := ?_) #[true, true, false, false, false, false, false, false, false, false, false, false, false, false, false, false] rfl rfl (any_of HT_.out (by kernel_rfl)) (fun _ _ _ h => h) (Or.inl ⟨by rfl, ?_⟩) ?_ ?_
        rotate_left
        · intro w'
          go_simp
          with_reducible rfl
        rotate_left
        · simp only [Act.put, List.setIfInBounds_toArray, List.set_cons_zero, List.set_cons_succ, i64_w, i32_w]
          rfl
        refine pure_ (i := 2) (N := some 62) (v := ?_) (a' := ?_) #[true, true, true, false, false, false, false, false, false, false, false, false, false, false, false, false] rfl rfl (any_of HT_.out (by kernel_rfl)) (fun _ _ _ h => h) (Or.inl ⟨by rfl, ?_⟩) ?_ ?_
        rotate_left
        · intro w'
          go_simp
          with_reducible rfl
        rotate_left
        · simp only [Act.put, List.setIfInBounds_toArray, List.set_cons_zero, List.set_cons_succ, i64_w, i32_w]
          rfl
        refine pure_ (i := 4) (N := some 64) (v := ?_) (a' := ?_) #[true, true, true, false, true, false, false, false, false, false, false, false, false, false, false, false] rfl rfl (any_of HT_.out (by kernel_rfl)) (fun _ _ _ h => h) (Or.inl ⟨by rfl, ?_⟩) ?_ ?_
        rotate_left
        · intro w'
          go_simp
          with_reducible rfl
        rotate_left
        · simp only [Act.put, List.setIfInBounds_toArray, List.set_cons_zero, List.set_cons_succ, i64_w, i32_w]
          rfl
        refine pure_ (i := 5) (N := some 65) (v := ?_) (a' := ?_) #[true, true, true, false, true, true, false, false, false, false, false, false, false, false, false, false] rfl rfl (any_of HT_.out (by kernel_rfl)) (fun _ _ _ h => h) (Or.inl ⟨by rfl, ?_⟩) ?_ ?_
        rotate_left
        · intro w'
          go_simp
          with_reducible rfl
        rotate_left
        · simp only [Act.put, List.setIfInBounds_toArray, List.set_cons_zero, List.set_cons_succ, i64_w, i32_w]
          rfl
        refine pure_ (i := 6) (N := some 66) (v := ?_) (a' := ?_) #[true, true, true, false, true, true, true, false, false, false, false, false, false, false, false, false] rfl rfl (any_of HT_.out (by kernel_rfl)) (fun _ _ _ h => h) (Or.inl ⟨by rfl, ?_⟩) ?_ ?_
        rotate_left
        · intro w'
          go_simp
          with_reducible rfl
        rotate_left
        · simp only [Act.put, List.setIfInBounds_toArray, List.set_cons_zero, List.set_cons_succ, i64_w, i32_w]
          rfl
        refine pure_ (i := 7) (N := some 67) (v := ?_) (a' := ?_) #[true, true, true, false, true, true, true, true, false, false, false, false, false, false, false, false] rfl rfl (any_of HT_.out (by kernel_rfl)) (fun _ _ _ h => h) (Or.inl ⟨by rfl, ?_⟩) ?_ ?_
        rotate_left
        · intro w'
          go_simp
          with_reducible rfl
        rotate_left
        · simp only [Act.put, List.setIfInBounds_toArray, List.set_cons_zero, List.set_cons_succ, i64_w, i32_w]
          rfl
        refine pure_ (i := 9) (N := some 69) (v := ?_) (a' := ?_) #[true, true, true, false, true, true, true, true, false, true, false, false, false, false, false, false] rfl rfl (any_of HT_.out (by kernel_rfl)) (fun _ _ _ h => h) (Or.inl ⟨by rfl, ?_⟩) ?_ ?_
        rotate_left
        · intro w'
          go_simp
          with_reducible rfl
        rotate_left
        · simp only [Act.put, List.setIfInBounds_toArray, List.set_cons_zero, List.set_cons_succ, i64_w, i32_w]
          rfl
        refine pure_ (i := 10) (N := some 70) (v := ?_) (a' := ?_) #[true, true, true, false, true, true, true, true, false, true, true, false, false, false, false, false] rfl rfl (any_of HT_.out (by kernel_rfl)) (fun _ _ _ h => h) (Or.inl ⟨by rfl, ?_⟩) ?_ ?_
        rotate_left
        · intro w'
          go_simp
          with_reducible rfl
        rotate_left
        · simp only [Act.put, List.setIfInBounds_toArray, List.set_cons_zero, List.set_cons_succ, i64_w, i32_w]
          rfl
        refine pure_ (i := 11) (N := some 71) (v := ?_) (a' := ?_) #[true, true, true, false, true, true, true, true, false, true, true, true, false, false, false, false] rfl rfl (any_of HT_.out (by kernel_rfl)) (fun _ _ _ h => h) (Or.inl ⟨by rfl, ?_⟩) ?_ ?_
        rotate_left
        · intro w'
          go_simp
          with_reducible rfl
        rotate_left
        · simp only [Act.put, List.setIfInBounds_toArray, List.set_cons_zero, List.set_cons_succ, i64_w, i32_w]
          rfl
        refine pure_ (i := 12) (N := some 72) (v := ?_) (a' := ?_) #[true, true, true, false, true, true, true, true, false, true, true, true, true, false, false, false] rfl rfl (any_of HT_.out (by kernel_rfl)) (fun _ _ _ h => h) (Or.inl ⟨by rfl, ?_⟩) ?_ ?_
        rotate_left
        · intro w'
          go_simp
          with_reducible rfl
        rotate_left
        · simp only [Act.put, List.setIfInBounds_toArray, List.set_cons_zero, List.set_cons_succ, i64_w, i32_w]
          rfl
        refine take_ (i := 3) (N := some 63) (v := .agg (itV x)) (a' := ?_) #[true, true, true, true, true, true, true, true, false, true, true, true, true, false, false, false] rfl rfl (take_ofW HT_.out HW_.out (by kernel_rfl)) (fun _ _ _ h => h) ?_ HH.out ?_ ?_
        · exact yields_at (by rfl) rfl rfl (fun w h => HIT.out.below h.1) HX.out Tryz.underlying36 rfl size36
        rotate_left
        · simp only [Act.put, List.setIfInBounds_toArray, List.set_cons_zero, List.set_cons_succ, i64_w, i32_w]
          rfl
        refine take_ (i := 8) (N := some 68) (v := .agg (u8s y.1)) (a' := ?_) #[true, true, true, true, true, true, true, true, true, true, true, true, true, false, false, false] rfl rfl (take_ofW HT_.out HW_.out (by kernel_rfl)) (fun _ _ _ h => h) ?_ HH.out ?_ ?_
        · exact yields_at_id (by rfl) rfl rfl (fun w h => HIT2.out.below h.1) HY.out Tryz.underlying37 rfl size37
        rotate_left
        · simp only [Act.put, List.setIfInBounds_toArray, List.set_cons_zero, List.set_cons_succ, i64_w, i32_w]
          rfl
        refine take_ (i := 13) (N := some 73) (v := ?_) (a' := ?_) #[true, true, true, true, true, true, true, true, true, true, true, true, true, true, false, false] rfl rfl (take_ofW HT_.out HW_.out (by kernel_rfl)) (fun _ _ _ h => h) (Or.inl ⟨by rfl, ?_⟩) HH.out ?_ ?_
        rotate_left
        · intro w' hS'
          have hit := (HIT2.out.below hS'.1).str HY.out
          go_simp
          with_reducible rfl
        rotate_left
        · simp only [Act.put, List.setIfInBounds_toArray, List.set_cons_zero, List.set_cons_succ, i64_w, i32_w]
          rfl
        refine pure_ (i := 14) (N := some 74) (v := ?_) (a' := ?_) #[true, true, true, true, true, true, true, true, true, true, true, true, true, true, true, false] rfl rfl (any_of HT_.out (by kernel_rfl)) (fun _ _ _ h => h) (Or.inl ⟨by rfl, ?_⟩) ?_ ?_
        rotate_left
        · intro w'
          refine (exec_item rfl rfl rfl (built36 _ y.2 (by rw [u8s_size]; exact HY.out.1)) w').trans ?_
          with_reducible rfl
        rotate_left
        · simp only [Act.put, List.setIfInBounds_toArray, List.set_cons_zero, List.set_cons_succ, i64_w, i32_w]
          rfl
        refine one_ (i := 15) (N := some 75) #[true, true, true, true, true, true, true, true, true, true, true, true, true, true, true, true] rfl rfl (one_of HT_.out (by kernel_rfl)) (by decide) (fun K hK => ?_)
        refine goes_ Tryz.func16 (by kernel_rfl) rfl #[.agg (itV x), .agg (itV y)] (by rfl) rfl rfl (by simp only [List.map_toArray, List.map_cons, List.map_nil]; rfl) ?_
        refine (HCO.out _).mono ?_
        rintro e w' ⟨rfl, hb⟩
        refine ⟨_, rfl, hK.out _ _ ⟨below_step HH.out.1 hb, below_step HH.out.2 hb⟩ (fun hHeld => ?_)⟩
        have HH2 := Aside0.mk hHeld
        clear hHeld HH
        have HH := HH2
        clear HH2
        try clear hb
        try clear hK K
        refine norm_ (a' := ?_) ?_ ?_
        rotate_left
        · show Act.put _ (some 75) _ = _
          simp only [Act.put, List.setIfInBounds_toArray, List.set_cons_zero, List.set_cons_succ, i64_w, i32_w]
          rfl
        refine done_ (done_of HT_.out (by kernel_rfl)) ?_
        try clear hb
        cases b
        · go_wp2_with fail
          go_roundg (gk - 1)
          case measure => have := HG.out; omega
          case rel => exact ⟨j + 1, by first | exact HNX.out rfl | exact HNX.out trivial, by go_num, by have := HG.out; unfold Hid; omega, ⟨HH.out.1⟩, ⟨HH.out.2⟩⟩
        · go_wp2_with fail
          go_ret
          exact ⟨rfl, HH.out.2⟩
    · have ho := HUE.out hc
      subst ho
      rw [show ([] : List It).length = 0 from rfl]
      have hc0 : (cd == 0) = false := by rw [beq_eq_false_iff_ne]; exact hc
      clear hc
      go_wp2_with fail
      go_ret
      exact ⟨rfl, B6.out⟩

end Go.Proofs.YtceopllngemnnaaGreatDoor

