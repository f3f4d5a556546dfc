/-
  The law BatchDamage: in a world that holds what the library reads, the call returns true and leaves what was there. For every list of items, every two bytes and every byte.
-/
import Derived.Test.YtceopllngemnnaaGreatDoorPL7
import Derived.Test.YtceopllngemnnaaGreatDoorLBatchTampering
import Derived.Test.YtceopllngemnnaaGreatDoorLBatchSalvages
import Derived.Test.YtceopllngemnnaaGreatDoorPL5
set_option linter.unusedVariables false
set_option linter.unusedSimpArgs false
namespace Go.Proofs.YtceopllngemnnaaGreatDoor
open Go.RowKit Go.Proofs.YtceopllngemnnaaGreatDoorW.PrintWords Go.Proofs.YtceopllngemnnaaGreatDoorW.PrintLast Go.Proofs.YtceopllngemnnaaGreatDoorW.PrintMore Go.Proofs.YtceopllngemnnaaGreatDoor.PRef
attribute [local go_sem] max2_int min2_int max_two min_two

/-! Region tables, printed by rg2.py. -/
def r9_4.T : Bool × List (List Nat × List Nat) := (true, [([], []), ([0], [0]), ([1], [1]), ([], []), ([3], [3]), ([2, 4], [2, 4]), ([], []), ([6], [6]), ([7], [7]), ([8], [8]), ([5, 0, 1, 2, 3, 4, 5], [5]), ([9, 10, 0, 1, 2, 3, 4, 5, 6, 7, 8, 9, 10], [9])])
def r9_4.B : List Nat := [0, 1, 3, 0, 8, 31, 0, 64, 192, 448, 63, 2047]
theorem r9_4.tab : rtab .any (opsOf Tryz.f9 4) = r9_4.T := by kernel_rfl
theorem r9_4.bits : waitsOk r9_4.T.2 r9_4.B = true := by kernel_rfl
def r9_25.T : Bool × List (List Nat × List Nat) := (true, [([], []), ([0], [0]), ([1], [1]), ([1], [1]), ([2, 3, 1], [1, 2, 3]), ([4, 1], [1, 4]), ([1], [1]), ([1], [1]), ([6, 7, 1], [1, 6, 7]), ([8, 1], [1, 8]), ([5, 9, 1], [1, 5, 9]), ([1, 10], [1, 10]), ([11, 1, 0, 1, 2, 3, 4, 5, 6, 7, 8, 9, 10, 11], [0, 11])])
def r9_25.B : List Nat := [0, 1, 3, 3, 15, 31, 3, 3, 195, 451, 1023, 2047, 4095]
theorem r9_25.tab : rtab .any (opsOf Tryz.f9 25) = r9_25.T := by kernel_rfl
theorem r9_25.bits : waitsOk r9_25.T.2 r9_25.B = true := by kernel_rfl
def r9_31.T : Bool × List (List Nat × List Nat) := (true, [([], []), ([], []), ([0, 1], [0, 1]), ([2], [2]), ([], []), ([], []), ([4, 5], [4, 5]), ([6], [6]), ([3, 7], [3, 7])])
def r9_31.B : List Nat := [0, 0, 3, 7, 0, 0, 48, 112, 255]
theorem r9_31.tab : rtab .any (opsOf Tryz.f9 31) = r9_31.T := by kernel_rfl
theorem r9_31.bits : waitsOk r9_31.T.2 r9_31.B = true := by kernel_rfl
/-! ### plain -/
theorem str_bytes (s : ByteArray) : strOfNums (bytesOf s) = s := by
  apply data_inj
  rw [strOfNums_data]
  unfold bytesOf
  rw [List.map_map]
  conv => rhs; rw [← List.map_id s.data.toList]
  refine List.map_congr_left fun b _ => ?_
  simp
/-- The word article. -/
theorem named_f (s : ByteArray) (hs : s.size ≤ 1000000) : ∀ (d k f : Nat), s.size + 1 - k = d → d < f → k ≤ s.size + 1 → ∃ b, bulletinlaw35_named.l0 f s (k : Int) = some b ∧ (b = false → ∀ j, k ≤ j → j + 7 ≤ s.size → (s.extract j (j + 7)).toList ≠ artN) := by
  intro d
  induction d with
  | zero =>
    intro k f h1 h2 h3
    obtain ⟨f, rfl⟩ : ∃ m, f = m + 1 := ⟨f - 1, by omega⟩
    have hw : wrap64 ((k : Int) + 7) = ((k + 7 : Nat) : Int) := by unfold wrap64; omega
    simp only [bulletinlaw35_named.l0]
    rw [hw, if_neg (by omega)]
    exact ⟨false, rfl, fun _ j h4 h5 => by omega⟩
  | succ d ih =>
    intro k f h1 h2 h3
    obtain ⟨f, rfl⟩ : ∃ m, f = m + 1 := ⟨f - 1, by omega⟩
    have hw : wrap64 ((k : Int) + 7) = ((k + 7 : Nat) : Int) := by unfold wrap64; omega
    have hw1 : wrap64 ((k : Int) + 1) = ((k + 1 : Nat) : Int) := by unfold wrap64; omega
    simp only [bulletinlaw35_named.l0]
    rw [hw, hw1]
    by_cases h7 : k + 7 ≤ s.size
    · rw [if_pos (by omega), if_pos (by omega), if_pos (by omega)]
      have hx : s.extract ((k : Int)).toNat (((k + 7 : Nat) : Int)).toNat = s.extract k (k + 7) := by rw [Int.toNat_natCast, Int.toNat_natCast]
      rw [hx]
      by_cases he : (s.extract k (k + 7)).toList = [97, 114, 116, 105, 99, 108, 101]
      · rw [if_pos he]; exact ⟨true, rfl, fun h => by cases h⟩
      · rw [if_neg he]
        obtain ⟨b, g1, g2⟩ := ih (k + 1) f (by omega) (by omega) (by omega)
        refine ⟨b, g1, fun hb j h4 h5 => ?_⟩
        by_cases hj : j = k
        · subst hj; exact he
        · exact g2 hb j (by omega) h5
    · rw [if_neg (by omega)]
      exact ⟨false, rfl, fun _ j h4 h5 => by omega⟩
theorem named_any (s : ByteArray) (hs : s.size ≤ 1000000) : ∃ b : Bool, (b = false → ¬ artN <:+: s.data.toList) ∧ ∀ W, Calls Tryz.prog 25 #[.string s] W fun e w' => e = .returned (.bool b) ∧ ∃ m, w' = W.drewN m := by
  obtain ⟨b, h1, h2⟩ := named_f s hs _ 0 (s.size + 2) rfl (by omega) (by omega)
  refine ⟨b, fun hb hi => ?_, fun W => (bulletinlaw35_named.calls (s.size + 2) s b W h1).mono fun _ _ ⟨h, ⟨m, hm⟩⟩ => ⟨h, m, hm⟩⟩
  obtain ⟨p, q, h⟩ := hi
  have hl := congrArg List.length h
  rw [data_length] at hl
  have hl2 : p.length + 7 + q.length = s.size := by rw [← hl]; simp [artN]; omega
  refine h2 hb p.length (Nat.zero_le _) (by omega) ?_
  rw [ByteArray.toList_eq, extract_list, ← h, List.append_assoc, List.drop_left, Nat.add_sub_cancel_left]
  rfl
/-- The text with one byte of item number at changed. -/
def dmgS (p : List It) (at' k : Nat) (c : Int) : Nat → ByteArray
  | 0 => ⟨#[98, 97, 116, 99, 104, 32, 48, 10]⟩
  | i + 1 => dmgS p at' k c i ++ (match p[i]? with
    | some y => if i = at' then turn (itS y) k c else itS y
    | none => ByteArray.empty)
theorem dmg_at (p : List It) (at' k : Nat) (c : Int) (i : Nat) (y : It) (hy : p[i]? = some y) (hi : i = at') : dmgS p at' k c (i + 1) = dmgS p at' k c i ++ turn (itS y) k c := by
  rw [dmgS, hy]; simp only []; rw [if_pos hi]
theorem dmg_off (p : List It) (at' k : Nat) (c : Int) (i : Nat) (y : It) (hy : p[i]? = some y) (hi : i ≠ at') : dmgS p at' k c (i + 1) = dmgS p at' k c i ++ itS y := by
  rw [dmgS, hy]; simp only []; rw [if_neg hi]
theorem dmg_size (p : List It) (at' k : Nat) (c : Int) (hp : ∀ x ∈ p, okIt x) : ∀ i, (dmgS p at' k c i).size ≤ 8 + i * 80000
  | 0 => by
    have h : (dmgS p at' k c 0).size = 8 := by rw [dmgS]; rfl
    rw [h, Nat.zero_mul, Nat.add_zero]
    exact Nat.le_refl 8
  | i + 1 => by
    have ih := dmg_size p at' k c hp i
    rw [dmgS, ByteArray.size_append]
    cases hy : p[i]? with
    | none =>
      have h0 : ByteArray.empty.size = 0 := rfl
      simp only []
      rw [h0, Nat.add_zero]
      exact Nat.le_trans ih (Nat.add_le_add_left (Nat.mul_le_mul_right _ (Nat.le_succ i)) 8)
    | some y =>
      have ho := hp y (List.mem_of_getElem? hy)
      have h1 := sizeN_le y ho.2
      rw [← itS_size ho.1] at h1
      simp only []
      split
      · rw [turn_size]; omega
      · omega
theorem dmg_before (p : List It) (at' k : Nat) (c : Int) : ∀ i, i ≤ at' → i ≤ p.length → (dmgS p at' k c i).data.toList = bat0 ++ FM.cat ((p.take i).map toT)
  | 0, _, _ => by show bat0 = _; rw [List.take_zero]; show bat0 = bat0 ++ []; rw [List.append_nil]
  | i + 1, h1, h2 => by
    have hy : p[i]? = some p[i] := List.getElem?_eq_getElem (by omega)
    rw [dmg_off p at' k c i _ hy (by omega), ByteArray.data_append, Array.toList_append, dmg_before p at' k c i (by omega) (by omega), itS_data, List.take_add_one, hy, List.map_append, List.append_assoc]
    show _ = bat0 ++ (List.flatMap _ _)
    rw [List.flatMap_append]
    simp [Fmt.cat]
theorem dmg_after (p : List It) (at' k : Nat) (c : Int) (xa : It) (hx : p[at']? = some xa) : ∀ i, i ≤ p.length → at' < i → (dmgS p at' k c i).data.toList = bat0 ++ (FM.cat ((p.take at').map toT) ++ ((turn (itS xa) k c).data.toList ++ FM.cat (((p.take i).drop (at' + 1)).map toT)))
  | 0, _, h => by omega
  | i + 1, h1, h2 => by
    have hy : p[i]? = some p[i] := List.getElem?_eq_getElem (by omega)
    by_cases hi : i = at'
    · subst hi
      rw [hx] at hy
      have hy' : p[i]? = some xa := hx
      rw [dmg_at p i k c i xa hy' rfl, ByteArray.data_append, Array.toList_append, dmg_before p i k c i (Nat.le_refl _) (by omega)]
      rw [List.drop_of_length_le (by rw [List.length_take]; omega)]
      simp [Fmt.cat]
    · rw [dmg_off p at' k c i _ hy hi, ByteArray.data_append, Array.toList_append, dmg_after p at' k c xa hx i (by omega) (by omega), itS_data, mid_snoc hy (by omega), List.map_append]
      simp [Fmt.cat]
/-- The other items. -/
def othL (p : List It) (at' i : Nat) : List It := (p.take i).eraseIdx at'
theorem oth_at {p : List It} {at' i : Nat} (h : i = at') : othL p at' (i + 1) = othL p at' i := by
  subst h
  unfold othL
  rw [List.eraseIdx_eq_take_drop_succ, List.eraseIdx_eq_take_drop_succ, List.take_take, List.take_take, Nat.min_eq_left (by omega), Nat.min_self, List.drop_of_length_le (by rw [List.length_take]; omega), List.drop_of_length_le (by rw [List.length_take]; omega)]
theorem oth_off {p : List It} {at' i : Nat} {y : It} (hy : p[i]? = some y) (h : i ≠ at') : othL p at' (i + 1) = othL p at' i ++ [y] := by
  have hl : i < p.length := (List.getElem?_eq_some_iff.1 hy).1
  unfold othL
  rw [List.take_add_one, hy]
  rcases Nat.lt_or_ge at' i with h1 | h1
  · rw [List.eraseIdx_append_of_lt_length (by rw [List.length_take]; omega)]; rfl
  · rw [List.eraseIdx_of_length_le (l := p.take i) (by rw [List.length_take]; omega), List.eraseIdx_of_length_le (by rw [List.length_append, List.length_take]; simp; omega)]; rfl
theorem oth_all (p : List It) (at' : Nat) : othL p at' p.length = p.take at' ++ p.drop (at' + 1) := by
  unfold othL
  rw [List.take_length, List.eraseIdx_eq_take_drop_succ]
theorem oth_len (p : List It) (at' i : Nat) : (othL p at' i).length ≤ i := by
  unfold othL
  have := List.length_eraseIdx_le (p.take i) at'
  rw [List.length_take] at this
  omega
/-- The law for the text that the loop makes. -/
theorem dmg_law (p : List It) (hp : ∀ x ∈ p, okIt x) (at' k : Nat) (c : Int) (xa : It) (hx : p[at']? = some xa) (hk : k < 100) (hc : c ≠ (bytesOf (itS xa)).getD k 0) (h0 : 0 ≤ c) (h1 : c < 256) (h10 : c ≠ 10) (hn : ¬ artN <:+: xa.2.data.toList) :
    salvF (dmgS p at' k c p.length) = othL p at' p.length ∨ ∃ y ∈ salvF (dmgS p at' k c p.length), colB xa y = true := by
  have hal : at' < p.length := (List.getElem?_eq_some_iff.1 hx).1
  have hd := dmg_after p at' k c xa hx p.length (Nat.le_refl _) hal
  rw [turn_data, List.take_length] at hd
  have hxo := hp xa (List.mem_of_getElem? hx)
  have hl : k < (itS xa).data.toList.length := by
    have hdl := dec_len xa.2.size
    rw [data_length, itS_size hxo.1]
    unfold sizeN
    rw [numB_size]; omega
  have hh := damage_law (dmgS p at' k c p.length) (p.take at') (p.drop (at' + 1)) xa k (UInt8.ofNat c.toNat) (fun y hy => hp y (List.mem_of_mem_take hy)) (fun y hy => hp y (List.mem_of_mem_drop hy)) hxo hk (by
    rw [List.getElem?_eq_getElem hl]
    intro he
    have he' := Option.some.inj he
    apply hc
    have : ((bytesOf (itS xa)).getD k 0 : Int) = (((itS xa).data.toList[k]).toNat : Int) := by
      unfold bytesOf
      rw [List.getD_eq_getElem?_getD, List.getElem?_map, List.getElem?_eq_getElem hl]; rfl
    rw [this, he']
    simp only [UInt8.toNat_ofNat']
    omega) (by
    intro he
    apply h10
    have := congrArg UInt8.toNat he
    simp only [UInt8.toNat_ofNat'] at this
    have h2 : (10 : UInt8).toNat = 10 := rfl
    omega) hn hd
  rw [oth_all]
  rcases hh with h | ⟨y, h2, h3, h4⟩
  · exact .inl h
  · refine .inr ⟨y, h2, ?_⟩
    unfold colB
    rw [dig_half h4, decide_eq_false (fun e => h3 e.symm), beq_toListBytes, beq_self_eq_true]
    rfl
theorem BB.grown {w w1 : World} {g : Nat} {l : List Int} {row : Option Nat} (h : BB w g l) (hg : w.grownBy w1 row) (hl : 0 < l.length) (ht : ∀ k, row = some k → ∃ cells t, w.heap[k]? = some (.cells cells t (0, 0))) : BB w1 g l := by
  obtain ⟨h1, cs, t, fr, h2, h3⟩ := h
  have hne : some g ≠ row := by
    intro e
    obtain ⟨cells, t2, hc⟩ := ht g e.symm
    rw [h2] at hc
    injection hc with hc
    injection hc with _ _ hc
    have h4 : l.length ≤ 0 := by rw [hc] at h3; exact h3
    omega
  exact ⟨fun j hj => cell_grown hg (h1 j hj) hne, cs, t, fr, (hg.block g (Array.getElem?_eq_some_iff.1 h2).1 hne).trans h2, h3⟩

theorem salv_mem (s : ByteArray) : ∀ (f k : Nat) (acc : List It), (∀ x ∈ acc, okIt x) → ∀ x ∈ salvG s f k acc, okIt x
  | 0, k, acc, h, x, hx => by rw [salvG] at hx; exact h x hx
  | f + 1, k, acc, h, x, hx => by
    cases hr : readF s k with
    | inl q =>
      obtain ⟨y, nx⟩ := q
      rw [salv_ok hr] at hx
      refine salv_mem s f nx _ (fun z hz => ?_) x hx
      rcases List.mem_append.1 hz with h1 | h1
      · exact h z h1
      · rw [List.mem_singleton.1 h1]; exact (readF_inv hr).1
    | inr q =>
      obtain ⟨b, e⟩ := q
      cases hj : nl s k with
      | none => rw [salv_end hr hj] at hx; exact h x hx
      | some j => rw [salv_skip hr hj] at hx; exact salv_mem s f (j + 1) acc h x hx
theorem salvF_mem (s : ByteArray) : ∀ x ∈ salvF s, okIt x := salv_mem s _ 0 [] (fun _ h => by cases h)
theorem take_dec {o ot : List It} {k : Nat} {x y : It} (hx : o[k]? = some x) (hy : ot[k]? = some y) (h : true = decide (o.take k = ot.take k)) : decide (x = y) = decide (o.take (k + 1) = ot.take (k + 1)) := by
  rw [List.take_add_one, hx, List.take_add_one, hy, of_decide_eq_true h.symm]
  refine decide_eq_decide.2 ⟨fun e => by rw [e], fun e => ?_⟩
  have h1 := List.append_cancel_left e
  simpa using h1
theorem take_dec2 {o ot : List It} {k : Nat} (h : false = decide (o.take k = ot.take k)) : false = decide (o.take (k + 1) = ot.take (k + 1)) := by
  refine (decide_eq_false fun e => ?_).symm
  refine of_decide_eq_false h.symm ?_
  have h1 := congrArg (List.take k) e
  rwa [List.take_take, List.take_take, Nat.min_eq_left (by omega)] at h1

set_option maxHeartbeats 8000000 in
set_option maxRecDepth 100000 in
theorem batchDamage_walk (A : Option Addr) (n c : Nat) (l : List It) (hn : n ≤ 9223372036854775807) (pa pb : Int) (hpa : 0 ≤ pa ∧ pa < 256) (hpb : 0 ≤ pb ∧ pb < 256) (by_ : Int) (wb : (Lit.int .u8 by_).wf = true) (W : World) (hC : Kit.C W A n l) (he : Env W) :
    Calls Tryz.prog 9 #[.slice A n c, .agg #[.int .u8 pa, .int .u8 pb], .int .u8 by_] W fun r w' => r = .returned (.bool true) ∧ Below W.heap.size W w' := by
  obtain ⟨hb0, hb1⟩ : 0 ≤ by_ ∧ by_ < 256 := by
    simp [Lit.wf, IntKind.min, IntKind.max, IntKind.signed, IntKind.bits] at wb
    omega
  clear wb
  obtain ⟨ha0, ha1⟩ := hpa
  obtain ⟨hp0, hp1⟩ := hpb
  have hok : ∀ x ∈ toL l, okIt x := toL_ok l (Kit.ok_all hC)
  have hle := toL_le l
  have HTO := Aside0.mk (fun w h => to_any A n c l w h hn)
  obtain ⟨p, hp⟩ : ∃ p, toL l = p := ⟨_, rfl⟩
  rw [hp] at hok hle HTO
  obtain ⟨np, hnp⟩ : ∃ np, p.length = np := ⟨_, rfl⟩
  have h10 : np ≤ 10 := by omega
  have HOK := Aside0.mk hok
  have HNP := Aside0.mk hnp
  have HE := Aside0.mk he
  have HC := Aside0.mk hC
  clear hok hle hp hC hnp he
  go_enter Tryz.func9, Tryz.ntmps9
  go_wp2_with fail
  obtain ⟨gx, hgx⟩ : ∃ gx, W.heap.size = gx := ⟨_, rfl⟩
  obtain ⟨w1, hw1⟩ : ∃ w1, W.alloc (.cells #[.int .u8 pa, .int .u8 pb] 58) = w1 := ⟨_, rfl⟩
  have X1 := Aside0.mk (show Blk w1 gx #[.int .u8 pa, .int .u8 pb] 58 by rw [← hw1, ← hgx]; exact blk_new W _)
  have B1 := Aside0.mk (show Below W.heap.size W w1 by rw [← hw1]; exact below_alloc (Below.refl _ _) _)
  rw [hw1, hgx]
  clear hw1 hgx
  refine (HTO.out _ (Kd.C_below HC.out B1.out)).mono ?_
  rintro e w2 ⟨v2, rfl, hr, hb⟩
  have X2 := Aside0.mk (X1.out.below hb)
  have B2 := Aside0.mk (below_step B1.out hb)
  obtain ⟨A2, c2, rfl, _, hC2⟩ := Kd.R_reads hr
  rw [HNP.out] at hC2 ⊢
  have C2 := Aside0.mk hC2
  clear hb hr hC2 HTO X1
  go_wp2_with fail
  refine (known_any _ (HE.out.below B2.out)).mono ?_
  rintro e w3 ⟨rfl, hb⟩
  have X3 := Aside0.mk (X2.out.below hb)
  have B3 := Aside0.mk (below_step B2.out hb)
  have C3 := Aside0.mk (Kd.C_below C2.out hb)
  clear hb X2 C2
  by_cases hnz : np = 0
  · subst hnz
    go_wp2_with fail
    refine (known_any _ (HE.out.below B3.out)).mono ?_
    rintro e w4 ⟨rfl, hb⟩
    have B4 := Aside0.mk (below_step B3.out hb)
    clear hb
    go_wp2_with fail
    go_ret
    exact ⟨rfl, B4.out⟩
  · have hnz0 : ((np : Int) == 0) = false := by simp; omega
    have hnz1 : ¬ (np : Int) = 0 := by omega
    by_cases hz : by_ = 0
    · subst hz
      go_wp2_with fail
      refine (known_any _ (HE.out.below B3.out)).mono ?_
      rintro e w4 ⟨rfl, hb⟩
      have B4 := Aside0.mk (below_step B3.out hb)
      clear hb
      go_wp2_with fail
      go_ret
      exact ⟨rfl, B4.out⟩
    · have hz0 : (by_ == 0) = false := by rw [beq_eq_false_iff_ne]; exact hz
      obtain ⟨at', hat⟩ : ∃ at', pa.toNat % np = at' := ⟨_, rfl⟩
      obtain ⟨k, hk⟩ : ∃ k, pb.toNat % 100 = k := ⟨_, rfl⟩
      have hatl : at' < np := by rw [← hat]; exact Nat.mod_lt _ (by omega)
      have hk100 : k < 100 := by omega
      have hatI : pa % (np : Int) = (at' : Int) := by
        obtain ⟨m', rfl⟩ := Int.eq_ofNat_of_zero_le ha0
        rw [← hat, Int.toNat_natCast]; rfl
      have hkI : pb % 100 = (k : Int) := by omega
      have hnp1 : (1 : Int) ≤ (np : Int) := by omega
      have hby : 0 < by_ := by omega
      clear hat hk hz
      go_wp2_with fail
      have hwa1 : IntKind.i64.wrap pa = pa := by rw [i64_w]; unfold wrap64; omega
      have hwa2 : wrap64 pa = pa := by unfold wrap64; omega
      have hwb1 : IntKind.i64.wrap pb = pb := by rw [i64_w]; unfold wrap64; omega
      have hwb2 : wrap64 pb = pb := by unfold wrap64; omega
      have hta : Int.tmod pa (np : Int) = (at' : Int) := by rw [Int.tmod_eq_emod_of_nonneg ha0]; exact hatI
      have htb : Int.tmod pb 100 = (k : Int) := by rw [Int.tmod_eq_emod_of_nonneg hp0]; exact hkI
      refine start_ (n := 12) (S := fun w' => Blk w' gx #[.int .u8 pa, .int .u8 pb] 58 ∧ Below w3.heap.size w3 w') (ds := []) (fl 12 0) (by kernel_rfl) rfl rfl ⟨X3.out, below_drew (Below.refl _ _)⟩ (fun hHeld => ?_)
      refine with_tabW r9_4.tab r9_4.bits (fun HT_ HW_ => ?_)
      generalize w3.drew = wd at hHeld ⊢
      have HH := Aside0.mk hHeld
      clear hHeld
      refine pure_ (i := 0) (N := some 32) (v := ?_) (a' := ?_) (fl 12 1) rfl rfl (any_of HT_.out (by kernel_rfl)) (fun _ _ _ h => h) (Or.inl ⟨by rfl, ?_⟩) ?_ ?_
      rotate_left
      · intro w'
        go_simp
        with_reducible rfl
      rotate_left
      · simp only [Act.put, List.setIfInBounds_toArray, List.set_cons_zero, List.set_cons_succ, i64_w, i32_w]
        rfl
      refine pure_ (i := 3) (N := some 35) (v := ?_) (a' := ?_) (fl 12 9) rfl rfl (any_of HT_.out (by kernel_rfl)) (fun _ _ _ h => h) (Or.inl ⟨by rfl, ?_⟩) ?_ ?_
      rotate_left
      · intro w'
        go_simp
        with_reducible rfl
      rotate_left
      · simp only [Act.put, List.setIfInBounds_toArray, List.set_cons_zero, List.set_cons_succ, i64_w, i32_w]
        rfl
      refine pure_ (i := 4) (N := some 36) (v := ?_) (a' := ?_) (fl 12 25) rfl rfl (any_of HT_.out (by kernel_rfl)) (fun _ _ _ h => h) (Or.inl ⟨by rfl, ?_⟩) ?_ ?_
      rotate_left
      · intro w'
        go_simp
        with_reducible rfl
      rotate_left
      · simp only [Act.put, List.setIfInBounds_toArray, List.set_cons_zero, List.set_cons_succ, i64_w, i32_w]
        rfl
      refine pure_ (i := 6) (N := some 38) (v := ?_) (a' := ?_) (fl 12 89) rfl rfl (any_of HT_.out (by kernel_rfl)) (fun _ _ _ h => h) (Or.inl ⟨by rfl, ?_⟩) ?_ ?_
      rotate_left
      · intro w'
        go_simp
        with_reducible rfl
      rotate_left
      · simp only [Act.put, List.setIfInBounds_toArray, List.set_cons_zero, List.set_cons_succ, i64_w, i32_w]
        rfl
      refine take_ (i := 1) (N := some 33) (v := ?_) (a' := ?_) (fl 12 91) rfl rfl (take_ofW HT_.out HW_.out (by kernel_rfl)) (fun _ _ _ h => h) (Or.inl ⟨by rfl, ?_⟩) HH.out ?_ ?_
      rotate_left
      · intro w' hS'
        have hc : w'.cell? ⟨gx, 0, none⟩ = some (.int .u8 pa) := by rw [Lib.cell_of_heap hS'.1]; rfl
        go_simp
        with_reducible rfl
      rotate_left
      · simp only [Act.put, List.setIfInBounds_toArray, List.set_cons_zero, List.set_cons_succ, i64_w, i32_w]
        rfl
      refine pure_ (i := 2) (N := some 34) (v := ?_) (a' := ?_) (fl 12 95) rfl rfl (any_of HT_.out (by kernel_rfl)) (fun _ _ _ h => h) (Or.inl ⟨by rfl, ?_⟩) ?_ ?_
      rotate_left
      · intro w'
        go_simp
        with_reducible rfl
      rotate_left
      · simp only [Act.put, List.setIfInBounds_toArray, List.set_cons_zero, List.set_cons_succ, i64_w, i32_w]
        rfl
      refine pure_ (i := 5) (N := some 37) (v := ?_) (a' := ?_) (fl 12 127) rfl rfl (any_of HT_.out (by kernel_rfl)) (fun _ _ _ h => h) (Or.inl ⟨by rfl, ?_⟩) ?_ ?_
      rotate_left
      · intro w'
        go_simp
        with_reducible rfl
      rotate_left
      · simp only [Act.put, List.setIfInBounds_toArray, List.set_cons_zero, List.set_cons_succ, i64_w, i32_w]
        rfl
      refine pure_ (i := 10) (N := some 8) (v := ?_) (a' := ?_) (fl 12 1151) rfl rfl (any_of HT_.out (by kernel_rfl)) (fun _ _ _ h => h) (Or.inl ⟨by rfl, ?_⟩) ?_ ?_
      rotate_left
      · intro w'
        go_simp
        with_reducible rfl
      rotate_left
      · simp only [Act.put, List.setIfInBounds_toArray, List.set_cons_zero, List.set_cons_succ, i64_w, i32_w]
        rfl
      refine take_ (i := 7) (N := some 39) (v := ?_) (a' := ?_) (fl 12 1279) rfl rfl (take_ofW HT_.out HW_.out (by kernel_rfl)) (fun _ _ _ h => h) (Or.inl ⟨by rfl, ?_⟩) HH.out ?_ ?_
      rotate_left
      · intro w' hS'
        have hc : w'.cell? ⟨gx, 1, none⟩ = some (.int .u8 pb) := by rw [Lib.cell_of_heap hS'.1]; rfl
        go_simp
        with_reducible rfl
      rotate_left
      · simp only [Act.put, List.setIfInBounds_toArray, List.set_cons_zero, List.set_cons_succ, i64_w, i32_w]
        rfl
      refine pure_ (i := 8) (N := some 40) (v := ?_) (a' := ?_) (fl 12 1535) rfl rfl (any_of HT_.out (by kernel_rfl)) (fun _ _ _ h => h) (Or.inl ⟨by rfl, ?_⟩) ?_ ?_
      rotate_left
      · intro w'
        go_simp
        with_reducible rfl
      rotate_left
      · simp only [Act.put, List.setIfInBounds_toArray, List.set_cons_zero, List.set_cons_succ, i64_w, i32_w]
        rfl
      refine pure_ (i := 9) (N := some 41) (v := ?_) (a' := ?_) (fl 12 2047) rfl rfl (any_of HT_.out (by kernel_rfl)) (fun _ _ _ h => h) (Or.inl ⟨by rfl, ?_⟩) ?_ ?_
      rotate_left
      · intro w'
        go_simp
        with_reducible rfl
      rotate_left
      · simp only [Act.put, List.setIfInBounds_toArray, List.set_cons_zero, List.set_cons_succ, i64_w, i32_w]
        rfl
      refine pure_ (i := 11) (N := some 9) (v := ?_) (a' := ?_) (fl 12 4095) rfl rfl (any_of HT_.out (by kernel_rfl)) (fun _ _ _ h => h) (Or.inl ⟨by rfl, ?_⟩) ?_ ?_
      rotate_left
      · intro w'
        go_simp
        with_reducible rfl
      rotate_left
      · simp only [Act.put, List.setIfInBounds_toArray, List.set_cons_zero, List.set_cons_succ, i64_w, i32_w]
        rfl
      refine done_ (done_of HT_.out (by kernel_rfl)) ?_
      clear hwa1 hwa2 hwb1 hwb2 hta htb hatI hkI hnp1 hnz hnz0 hnz1 hz0
      have B4 := Aside0.mk (below_step B3.out HH.out.2)
      have C4 := Aside0.mk (Kd.C_below C3.out HH.out.2)
      clear HH X3 B3 C3
      obtain ⟨xa, hxa⟩ : ∃ xa, p[at']? = some xa := ⟨_, List.getElem?_eq_getElem (by rw [HNP.out]; exact hatl)⟩
      have hxo := HOK.out xa (List.mem_of_getElem? hxa)
      have HXA := Aside0.mk hxa
      have HXO := Aside0.mk hxo
      have hkit : k < (itS xa).size := by
        have hdl := dec_len xa.2.size
        rw [itS_size hxo.1]
        unfold sizeN
        rw [numB_size]; omega
      obtain ⟨v0, hv0⟩ : ∃ v0, (bytesOf (itS xa)).getD k 0 = v0 := ⟨_, rfl⟩
      have hv1 : 0 ≤ v0 ∧ v0 ≤ 255 := by
        rw [← hv0, List.getD_eq_getElem?_getD]
        have hl : k < (bytesOf (itS xa)).length := by rw [bytesOf_length]; exact hkit
        rw [List.getElem?_eq_getElem hl]
        exact bytesOf_range _ _ (List.getElem_mem hl)
      obtain ⟨hx1, hx2, hx3⟩ := xor_u8 v0 by_ (by omega) (by omega) (by omega) hb1
      obtain ⟨xv, hxv⟩ : ∃ xv, bits .xor .u8 v0 by_ = xv := ⟨_, rfl⟩
      rw [hxv] at hx1 hx2 hx3
      have HXV := Aside0.mk hxv
      have HV0 := Aside0.mk hv0
      have HLAW := Aside0.mk (fun h10 hn => dmg_law p HOK.out at' k xv xa hxa hk100 (by rw [hv0]; exact hx1) hx2 hx3 h10 hn)
      have HD0 := Aside0.mk (show dmgS p at' k xv 0 = (⟨#[98, 97, 116, 99, 104, 32, 48, 10]⟩ : ByteArray) by rw [dmgS])
      have HDA := Aside0.mk (fun i y (hy : p[i]? = some y) (hi : i = at') => dmg_at p at' k xv i y hy hi)
      have HDO := Aside0.mk (fun i y (hy : p[i]? = some y) (hi : i ≠ at') => dmg_off p at' k xv i y hy hi)
      have HDS := Aside0.mk (fun i => dmg_size p at' k xv HOK.out i)
      rw [HNP.out] at HLAW
      obtain ⟨D, hD⟩ : ∃ D, dmgS p at' k xv = D := ⟨_, rfl⟩
      rw [hD] at HLAW HD0 HDA HDO HDS
      obtain ⟨b4, hb4⟩ : ∃ b4, wd.heap.size = b4 := ⟨_, rfl⟩
      have HB4 := Aside0.mk hb4
      have HWB := Aside0.mk (show W.heap.size ≤ b4 by have := B4.out.size; omega)
      obtain ⟨w4, hw4⟩ : ∃ w4, wd = w4 := ⟨_, rfl⟩
      subst hw4
      clear hD hb4 hxa hxo hv0 hxv hkit hv1
      go_wp2_with fail
      rw [← HD0.out]
      go_loopg [10, 11, 12] np (fun gf x10 x11 x12 wx => ∃ i : Nat, i ≤ np ∧ x12 = .int .i64 i ∧ x10 = .string (D i) ∧ Hid (np ≤ i + gf) ∧ Aside0 (Kit.R 36 wx b4 (fun _ => True) x11 (othL p at' i)) ∧ Aside0 (Below b4 wd wx) ∧ Aside0 (at' < i → xv ≠ 10 ∧ ¬ artN <:+: xa.2.data.toList))
      case atStart => exact ⟨0, Nat.zero_le _, rfl, rfl, by unfold Hid; omega, ⟨by unfold othL; rw [List.take_zero]; exact Kd.R_nil _ _ _ _ _⟩, ⟨Below.refl _ _⟩, ⟨fun h => absurd h (Nat.not_lt_zero _)⟩⟩
      case round =>
        obtain ⟨i, hi, rfl, rfl, HG, HR, L, HQ⟩ := hrel
        have B := Aside0.mk (B4.out.trans (L.out.mono HWB.out))
        by_cases hlt : i < np
        · obtain ⟨ad, y, hA, hy, hyo, hcell⟩ := Kit.at_ (Kd.C_below C4.out (by rw [HB4.out]; exact L.out)) i hlt
          have HY := Aside0.mk hy
          have HYO := Aside0.mk (HOK.out y (mem_at hy))
          have HIT := Aside0.mk (show ItAt wr (ad.add (i * 33)) y from hcell)
          have hit := ItAt.str hcell hyo
          obtain ⟨b, hbn, hcall⟩ := named_any y.2 (by have := HYO.out.2; omega)
          have HBN := Aside0.mk hbn
          have HNM := Aside0.mk hcall
          subst hA
          clear hy hyo hcell hbn hcall
          go_wp2_with fail
          refine (HNM.out _).mono ?_
          rintro e w5 ⟨rfl, m5, rfl⟩
          have B5 := Aside0.mk (pw_below_drewN B.out m5)
          have L5 := Aside0.mk (pw_below_drewN L.out m5)
          have R5 := Aside0.mk (show Kit.R 36 (wr.drewN m5) b4 (fun _ => True) u11 (othL p at' i) from Kd.R_drewN HR.out m5)
          have HIT5 := Aside0.mk (show ItAt (wr.drewN m5) (ad.add (i * 33)) y from HIT.out)
          generalize wr.drewN m5 = w5 at B5 L5 R5 HIT5 ⊢
          clear hit B L HR HIT
          cases b
          · have HNN := Aside0.mk (HBN.out rfl)
            clear HBN
            have hyl := HYO.out.2
            have HRI := Aside0.mk (fun w => ritem_any y w HYO.out.1 (by omega))
            obtain ⟨it, hit⟩ : ∃ it, itS y = it := ⟨_, rfl⟩
            have hits : it.size ≤ 80000 := by rw [← hit, itS_size HYO.out.1]; exact sizeN_le y hyl
            have hit1 : 0 < it.size := by rw [← hit, itS_size HYO.out.1]; unfold sizeN; omega
            rw [hit] at HRI
            have HITS := Aside0.mk hit
            clear hit
            go_wp2_with (first
              | ((with_reducible refine gate_dst (N := 57) rfl ?_); refine load_it rfl rfl rfl HIT5.out HYO.out.1 Tryz.underlying36 rfl size36 ?_))
            refine (HRI.out _).mono ?_
            rintro e w6 ⟨rfl, hb⟩
            have B6 := Aside0.mk (below_step B5.out hb)
            have L6 := Aside0.mk (below_then L5.out (by have := L5.out.size; have := HB4.out; omega) hb)
            have R6 := Aside0.mk (Kd.R_below R5.out hb)
            have HIT6 := Aside0.mk (HIT5.out.below hb)
            clear hb B5 L5 R5 HIT5
            go_upto_region 13 with (first
              | ((with_reducible refine gate_dst (N := 59) rfl ?_); refine event_run_g rfl (exec_conv rfl rfl (print_bytes 9 26 5 Tryz.underlying9 Tryz.underlying26 Tryz.underlying5 it _)) ?_
                 obtain ⟨g, hg⟩ : ∃ g, w6.heap.size = g := ⟨_, rfl⟩
                 have Q7 := Aside0.mk (show BB (Lib.bytesWorld w6 5 it) g (bytesOf it) from by rw [← hg]; exact BB.new w6 it)
                 have E7 := Aside0.mk (bytes_below (Below.refl w6.heap.size w6) (Nat.le_refl _) 5 it)
                 have G7 := Aside0.mk (show b4 ≤ g by have := L6.out.size; have := HB4.out; omega)
                 obtain ⟨c7, hc7⟩ : ∃ c7, grownCap w6 it.size 0 5 = c7 := ⟨_, rfl⟩
                 obtain ⟨w7, hw7⟩ : ∃ w7, Lib.bytesWorld w6 5 it = w7 := ⟨_, rfl⟩
                 rw [hw7] at Q7 E7
                 rw [hg, hc7, hw7]
                 have B7 := Aside0.mk (below_step B6.out E7.out)
                 have L7 := Aside0.mk (below_then L6.out (by have := L6.out.size; have := HB4.out; omega) E7.out)
                 have R7 := Aside0.mk (Kd.R_below R6.out E7.out)
                 have HIT7 := Aside0.mk (HIT6.out.below E7.out)
                 clear hg hc7 hw7))
            clear B6 L6 R6 HIT6 E7
            by_cases hia : i = at'
            · have hya : y = xa := by
                have h := HY.out
                rw [hia, HXA.out] at h
                exact (Option.some.inj h).symm
              have HDI := Aside0.mk (HDA.out i y HY.out hia)
              have HOI := Aside0.mk (oth_at (p := p) hia)
              have HIA := Aside0.mk hia
              have HNX := Aside0.mk (show ¬ artN <:+: xa.2.data.toList by rw [← hya]; exact HNN.out)
              have hkI2 : (k : Int) < (it.size : Int) := by
                have h1 := HITS.out
                have hdl := dec_len y.2.size
                rw [← h1, itS_size HYO.out.1]
                unfold sizeN
                rw [numB_size]; omega
              have hk2 : k < it.size := by omega
              have hcell : w7.cell? ⟨g, k, none⟩ = some (.int .u8 v0) := by
                have h2 := Q7.out.1 k (by rw [bytesOf_length]; exact hk2)
                have h3 : (bytesOf it).getD k 0 = v0 := by rw [← HV0.out, ← hya, HITS.out]
                rw [h3] at h2
                exact h2
              have hfree : w7.frozen? ⟨g, k, none⟩ = false := Q7.out.free k (by rw [bytesOf_length]; exact hk2)
              have hxv := HXV.out
              have hiI : (i : Int) = (at' : Int) := by omega
              have hiB : ((i : Int) == (at' : Int)) = true := by simp; omega
              have hk0 : (0 : Int) ≤ (k : Int) := by omega
              clear hya hia HNN
              by_cases h10v : xv = 10
              · have h10b : (xv == 10) = true := by simp [h10v]
                go_wp2_with fail
                go_ret
                exact ⟨rfl, B7.out⟩
              · have h10b : (xv == 10) = false := by simp [h10v]
                go_upto_region 18 with fail
                obtain ⟨w8, hw8⟩ : ∃ w8, w7.setCell ⟨g, k, none⟩ (.int .u8 xv) = w8 := ⟨_, rfl⟩
                have Q8 := Aside0.mk (show ReadsInt w8 .u8 (some ⟨g, 0, none⟩) it.size ((bytesOf it).set k xv) from by
                  have h1 := Q7.out.set (by rw [bytesOf_length]; omega) k (by rw [bytesOf_length]; exact hk2) xv
                  rw [← hw8]
                  rw [bytesOf_length] at h1
                  exact h1)
                have B8 := Aside0.mk (show Below W.heap.size W w8 from by rw [← hw8]; exact B7.out.setCell (p := ⟨g, k, none⟩) (by have := G7.out; have := HWB.out; show _ ≤ g; omega) _)
                have L8 := Aside0.mk (show Below b4 wd w8 from by rw [← hw8]; exact L7.out.setCell (p := ⟨g, k, none⟩) G7.out _)
                have R8 := Aside0.mk (show Kit.R 36 w8 b4 (fun _ => True) u11 (othL p at' i) from by
                  rw [← hw8]
                  refine Kd.R_mono (Kd.R_far (p := ⟨g, k, none⟩) (Kd.R_bound R7.out) (fun j hj e => ?_) _) (fun j hj => hj.1)
                  obtain ⟨_, _, _, q, hq, cells, hc⟩ := hj
                  obtain ⟨_, cs, t, fr, h2, h3⟩ := Q7.out
                  rw [e, h2] at hc
                  injection hc with hc
                  injection hc with _ _ hc
                  have h4 : (bytesOf it).length ≤ 0 := by rw [hc] at h3; exact h3
                  rw [bytesOf_length] at h4
                  omega)
                rw [hw8]
                clear hw8 Q7 B7 L7 R7 hcell hfree
                have htz : (turn it k xv).size ≤ 80000 := by rw [turn_size]; exact hits
                have HTN := Aside0.mk (show strOfNums ((bytesOf it).set k xv) = turn it k xv from rfl)
                have hDs := HDS.out i
                have hDs2 : (D i).size ≤ 1000000 := by omega
                clear hxv hDs
                go_wp2_with (first
                  | ((with_reducible refine gate_dst (N := 86) rfl ?_); refine event_run_g rfl (exec_conv rfl rfl (string_of_reads Tryz.underlying26 Tryz.underlying5 Tryz.underlying9 Q8.out)) ?_; rw [HTN.out])
                  | ((with_reducible refine gate_dst (N := 87) rfl ?_); refine add_l rfl rfl rfl rfl Tryz.underlying9 (by omega) ?_))
                rw [← HITS.out]
                rw [← HDI.out]
                go_roundg (gk - 1)
                case measure => have := HG.out; omega
                case rel => exact ⟨i + 1, by omega, by go_num, rfl, by have := HG.out; unfold Hid; omega, ⟨by rw [HOI.out]; exact R8.out⟩, L8, ⟨fun _ => ⟨h10v, HNX.out⟩⟩⟩
            · have HDI := Aside0.mk (HDO.out i y HY.out hia)
              have HOI := Aside0.mk (oth_off HY.out hia)
              have hiI : ¬ (i : Int) = (at' : Int) := by omega
              have hiB : ((i : Int) == (at' : Int)) = false := by simp; omega
              have hDs := HDS.out i
              have hDs2 : (D i).size ≤ 1000000 := by omega
              have hol := oth_len p at' i
              have HST := Aside0.mk (show strOfNums (bytesOf it) = it from str_bytes it)
              have HLT := Aside0.mk (show at' < i + 1 → at' < i by omega)
              clear hDs hia HNN
              go_upto_region 18 with (first
                | ((with_reducible refine gate_dst (N := 81) rfl ?_); refine load_it rfl rfl rfl HIT7.out HYO.out.1 Tryz.underlying36 rfl size36 ?_)
                | ((with_reducible refine gate_dst (N := 82) rfl ?_); refine slice_one (cs := itV y) rfl rfl rfl Tryz.underlying24 zero36 (itV_size okId_z) (itV_size HYO.out.1) (by omega) (by omega) ?_; intro g31 w8 hg31 hz hb; have Y8 := Aside0.mk (Kit.of_blk hz HYO.out.1); have Q8 := Aside0.mk (Q7.out.below hb); have L8 := Aside0.mk (below_then L7.out (by have := L7.out.size; have := HB4.out; omega) hb); have R8 := Aside0.mk (Kd.R_below R7.out hb); clear hg31 hz hb)
                | ((with_reducible refine gate_builtin (b := .append) (xs := #[.tmp 77, .tmp 82]) rfl ?_); refine Kd.R_append_rows Kit (Rr := Kit.K w8) (w0 := w8) b4 rfl (.tmp 77) (.tmp 82) 24 36 (.agg (itV zIt)) 48 rfl Tryz.underlying24 info36 (itV_size okId_z) (by decide) (by omega) u11 (othL p at' i) [y] (some ⟨g31, 0, none⟩) 1 1 (fun _ => True) (fun _ => False) rfl rfl R8.out Y8.out (fun _ _ h => h) (fun _ h => h.elim) (fun _ _ => trivial) (Below.refl _ _) (by have := L8.out.size; have := HB4.out; omega) (by omega) ?_; intro v9 w9 ho hb hgr _; have R9 := Aside0.mk ho; have L9 := Aside0.mk (L8.out.trans hb); have Q9 := Aside0.mk (Q8.out.grown hgr (by rw [bytesOf_length]; exact hit1) (fun j hj => by obtain ⟨cells, hc⟩ := Kd.R_typed R8.out j hj; exact ⟨cells, 36, hc⟩)); clear ho hb hgr))
              have Q10 := Aside0.mk (Q9.out.reads (by rw [bytesOf_length]; omega))
              have hbl := bytesOf_length it
              have HBL := Aside0.mk hbl
              clear hbl
              go_wp2_with (first
                | ((with_reducible refine gate_dst (N := 86) rfl ?_); refine event_run_g rfl (exec_conv rfl rfl (string_of_reads Tryz.underlying26 Tryz.underlying5 Tryz.underlying9 (by have h := Q10.out; rw [HBL.out] at h; exact h))) ?_; rw [HST.out])
                | ((with_reducible refine gate_dst (N := 87) rfl ?_); refine add_l rfl rfl rfl rfl Tryz.underlying9 (by omega) ?_))
              rw [← HITS.out]
              rw [← HDI.out]
              go_roundg (gk - 1)
              case measure => have := HG.out; omega
              case rel => exact ⟨i + 1, by omega, by go_num, rfl, by have := HG.out; unfold Hid; omega, ⟨by rw [HOI.out]; exact R9.out⟩, L9, ⟨fun h => HQ.out (HLT.out h)⟩⟩
          · go_wp2_with fail
            go_ret
            exact ⟨rfl, B5.out⟩
        · have hin : i = np := by omega
          have HQN := Aside0.mk (HQ.out (by rw [hin]; exact hatl))
          have hLW := HLAW.out HQN.out.1 HQN.out.2
          have hT0 := HDS.out np
          have hT1 : (D np).size ≤ 1000000 := by omega
          obtain ⟨T, hT⟩ : ∃ T, D np = T := ⟨_, rfl⟩
          have hotl := oth_len p at' np
          obtain ⟨ot, hot⟩ : ∃ ot, othL p at' np = ot := ⟨_, rfl⟩
          rw [hin] at HR ⊢
          clear hT0
          rw [hT] at hLW hT1 ⊢
          rw [hot] at hLW hotl HR
          obtain ⟨At, ct, rfl, _, hCt⟩ := Kd.R_reads HR.out
          have RT := Aside0.mk (fun w => rsalv_any T w hT1)
          have ST := Aside0.mk (fun w he => salv_any T w he hT1)
          have hsl := salvF_len T
          have hso := salvF_mem T
          obtain ⟨o, ho⟩ : ∃ o, salvF T = o := ⟨_, rfl⟩
          rw [ho] at hLW RT ST hsl hso
          have HSO := Aside0.mk hso
          obtain ⟨nt, hnt⟩ : ∃ nt, ot.length = nt := ⟨_, rfl⟩
          obtain ⟨no, hno⟩ : ∃ no, o.length = no := ⟨_, rfl⟩
          rw [hnt] at hCt hotl ⊢
          rw [hno] at hsl
          have HNT := Aside0.mk hnt
          have HNO := Aside0.mk hno
          have CT := Aside0.mk hCt
          have hnos : no ≤ 1000000 := by omega
          have HSM := Aside0.mk (fun A c A2 c2 w h h2 => same_any A no c o A2 no c2 o w h h2 hnos hnos)
          rw [decide_eq_true (rfl : o = o)] at HSM
          have HSN := Aside0.mk (fun A c A2 c2 w h h2 => same_any A no c o A2 nt c2 ot w h h2 hnos (by omega))
          have HLW := Aside0.mk hLW
          clear hlt hi hCt hso hLW hT ho hot hnt hno HR HQ HG HLAW HDA HDO HDS HD0 HXV HV0 HQN
          go_wp2_with fail
          refine (RT.out _).mono ?_
          rintro e wz ⟨v5, rfl, hr, hb⟩
          obtain ⟨Ao, co, rfl, _, hCo⟩ := Kd.R_reads hr
          rw [HNO.out] at hCo ⊢
          have OZ := Aside0.mk hCo
          have TZ := Aside0.mk (Kd.C_below CT.out hb)
          have BZ := Aside0.mk (below_step B.out hb)
          have LZ := Aside0.mk (below_then L.out (by have := L.out.size; have := HB4.out; omega) hb)
          have CZ := Aside0.mk (Kd.C_below C4.out (by rw [HB4.out]; exact LZ.out))
          have EZ := Aside0.mk (HE.out.below BZ.out)
          clear hb hr hCo L B CT
          by_cases hne : nt = no
          · subst hne
            go_wp2_with fail
            go_loopg [15, 16] nt (fun gf x15 x16 wx => ∃ (k : Nat) (b : Bool), k ≤ nt ∧ x15 = .bool b ∧ x16 = .int .i64 k ∧ Hid (nt ≤ k + gf) ∧ Aside0 (b = decide (o.take k = ot.take k)) ∧ Aside0 (Below wz.heap.size wz wx))
            case atStart => exact ⟨0, true, Nat.zero_le _, rfl, rfl, by unfold Hid; omega, ⟨by simp⟩, ⟨Below.refl _ _⟩⟩
            case round =>
              obtain ⟨k2, b2, hk2, rfl, rfl, HG, HBQ, HB⟩ := hrel
              by_cases hlt : k2 < nt
              · obtain ⟨ad, x, hA, hx, hok1, hcell1⟩ := Kit.at_ OZ.out k2 hlt
                subst hA
                obtain ⟨ad2, y, hA2, hy, hok2, hcell2⟩ := Kit.at_ TZ.out k2 hlt
                subst hA2
                have HIT := Aside0.mk (show ItAt wz (ad.add (k2 * 33)) x from hcell1)
                have HIT2 := Aside0.mk (show ItAt wz (ad2.add (k2 * 33)) y from hcell2)
                have HX := Aside0.mk hok1
                have HY := Aside0.mk hok2
                have k0 : (0 : Int) ≤ (k2 : Int) := by omega
                have k1 : (k2 : Int) < (nt : Int) := by omega
                cases b2
                · have HBN := Aside0.mk (take_dec2 HBQ.out)
                  clear hok1 hok2 hcell1 hcell2 hx hy HBQ
                  go_wp2_with fail
                  refine start_ (n := 13) (S := fun w' => Below wz.heap.size wz w') (ds := []) (fl 13 0) (by kernel_rfl) rfl rfl (below_drew HB.out) (fun hHeld => ?_)
                  refine with_tabW r9_25.tab r9_25.bits (fun HT_ HW_ => ?_)
                  generalize wr.drew = wd at hHeld ⊢
                  have HH := Aside0.mk hHeld
                  clear hHeld
                  refine pure_ (i := 0) (N := some 101) (v := ?_) (a' := ?_) (fl 13 1) rfl rfl (any_of HT_.out (by kernel_rfl)) (fun _ _ _ h => h) (Or.inl ⟨by rfl, ?_⟩) ?_ ?_
                  rotate_left
                  · intro w'
                    go_simp
                    with_reducible rfl
                  rotate_left
                  · simp only [Act.put, List.setIfInBounds_toArray, List.set_cons_zero, List.set_cons_succ, i64_w, i32_w]
                    rfl
                  refine pure_ (i := 1) (N := some 102) (v := ?_) (a' := ?_) (fl 13 3) rfl rfl (any_of HT_.out (by kernel_rfl)) (fun _ _ _ h => h) (Or.inl ⟨by rfl, ?_⟩) ?_ ?_
                  rotate_left
                  · intro w'
                    go_simp
                    with_reducible rfl
                  rotate_left
                  · simp only [Act.put, List.setIfInBounds_toArray, List.set_cons_zero, List.set_cons_succ, i64_w, i32_w]
                    rfl
                  refine pure_ (i := 2) (N := some 103) (v := undef) (a' := ?_) (fl 13 7) rfl rfl (any_of HT_.out (by kernel_rfl)) (fun _ _ _ h => h) (Or.inr ⟨by rfl, rfl⟩) ?_ ?_
                  rotate_left
                  · simp only [Act.put, List.setIfInBounds_toArray, List.set_cons_zero, List.set_cons_succ, i64_w, i32_w]
                    rfl
                  refine pure_ (i := 3) (N := some 104) (v := undef) (a' := ?_) (fl 13 15) rfl rfl (any_of HT_.out (by kernel_rfl)) (fun _ _ _ h => h) (Or.inr ⟨by rfl, rfl⟩) ?_ ?_
                  rotate_left
                  · simp only [Act.put, List.setIfInBounds_toArray, List.set_cons_zero, List.set_cons_succ, i64_w, i32_w]
                    rfl
                  refine pure_ (i := 4) (N := some 105) (v := undef) (a' := ?_) (fl 13 31) rfl rfl (any_of HT_.out (by kernel_rfl)) (fun _ _ _ h => h) (Or.inr ⟨by rfl, rfl⟩) ?_ ?_
                  rotate_left
                  · simp only [Act.put, List.setIfInBounds_toArray, List.set_cons_zero, List.set_cons_succ, i64_w, i32_w]
                    rfl
                  refine pure_ (i := 6) (N := some 107) (v := undef) (a' := ?_) (fl 13 95) rfl rfl (any_of HT_.out (by kernel_rfl)) (fun _ _ _ h => h) (Or.inr ⟨by rfl, rfl⟩) ?_ ?_
                  rotate_left
                  · simp only [Act.put, List.setIfInBounds_toArray, List.set_cons_zero, List.set_cons_succ, i64_w, i32_w]
                    rfl
                  refine pure_ (i := 7) (N := some 108) (v := undef) (a' := ?_) (fl 13 223) rfl rfl (any_of HT_.out (by kernel_rfl)) (fun _ _ _ h => h) (Or.inr ⟨by rfl, rfl⟩) ?_ ?_
                  rotate_left
                  · simp only [Act.put, List.setIfInBounds_toArray, List.set_cons_zero, List.set_cons_succ, i64_w, i32_w]
                    rfl
                  refine pure_ (i := 8) (N := some 109) (v := undef) (a' := ?_) (fl 13 479) rfl rfl (any_of HT_.out (by kernel_rfl)) (fun _ _ _ h => h) (Or.inr ⟨by rfl, rfl⟩) ?_ ?_
                  rotate_left
                  · simp only [Act.put, List.setIfInBounds_toArray, List.set_cons_zero, List.set_cons_succ, i64_w, i32_w]
                    rfl
                  refine take_ (i := 5) (N := some 106) (v := undef) (a' := ?_) (fl 13 511) rfl rfl (take_ofW HT_.out HW_.out (by kernel_rfl)) (fun _ _ _ h => h) ?_ HH.out ?_ ?_
                  · exact Or.inr ⟨by rfl, rfl⟩
                  rotate_left
                  · simp only [Act.put, List.setIfInBounds_toArray, List.set_cons_zero, List.set_cons_succ, i64_w, i32_w]
                    rfl
                  refine take_ (i := 9) (N := some 110) (v := undef) (a' := ?_) (fl 13 1023) rfl rfl (take_ofW HT_.out HW_.out (by kernel_rfl)) (fun _ _ _ h => h) ?_ HH.out ?_ ?_
                  · exact Or.inr ⟨by rfl, rfl⟩
                  rotate_left
                  · simp only [Act.put, List.setIfInBounds_toArray, List.set_cons_zero, List.set_cons_succ, i64_w, i32_w]
                    rfl
                  refine pure_ (i := 10) (N := some 111) (v := undef) (a' := ?_) (fl 13 2047) rfl rfl (any_of HT_.out (by kernel_rfl)) (fun _ _ _ h => h) (Or.inr ⟨by rfl, rfl⟩) ?_ ?_
                  rotate_left
                  · simp only [Act.put, List.setIfInBounds_toArray, List.set_cons_zero, List.set_cons_succ, i64_w, i32_w]
                    rfl
                  refine pure_ (i := 11) (N := some 112) (v := ?_) (a' := ?_) (fl 13 4095) rfl rfl (any_of HT_.out (by kernel_rfl)) (fun _ _ _ h => h) (Or.inl ⟨by rfl, ?_⟩) ?_ ?_
                  rotate_left
                  · intro w'
                    go_simp
                    with_reducible rfl
                  rotate_left
                  · simp only [Act.put, List.setIfInBounds_toArray, List.set_cons_zero, List.set_cons_succ, i64_w, i32_w]
                    rfl
                  refine pure_ (i := 12) (N := some 15) (v := ?_) (a' := ?_) (fl 13 8191) rfl rfl (any_of HT_.out (by kernel_rfl)) (fun _ _ _ h => h) (Or.inl ⟨by rfl, ?_⟩) ?_ ?_
                  rotate_left
                  · intro w'
                    go_simp
                    with_reducible rfl
                  rotate_left
                  · simp only [Act.put, List.setIfInBounds_toArray, List.set_cons_zero, List.set_cons_succ, i64_w, i32_w]
                    rfl
                  refine done_ (done_of HT_.out (by kernel_rfl)) ?_
                  go_wp2_with fail
                  go_roundg (gk - 1)
                  case measure => have := HG.out; omega
                  case rel => exact ⟨k2 + 1, false, by omega, by rfl, by go_num, by have := HG.out; unfold Hid; omega, HBN, ⟨HH.out⟩⟩
                · have HBN := Aside0.mk (take_dec hx hy HBQ.out)
                  obtain ⟨e, he⟩ : ∃ e, decide (x = y) = e := ⟨_, rfl⟩
                  have HEQ := Aside0.mk he
                  rw [he] at HBN
                  clear hok1 hok2 hcell1 hcell2 hx hy he HBQ
                  go_wp2_with fail
                  refine start_ (n := 13) (S := fun w' => Below wz.heap.size wz w') (ds := []) (fl 13 0) (by kernel_rfl) rfl rfl (below_drew HB.out) (fun hHeld => ?_)
                  refine with_tabW r9_25.tab r9_25.bits (fun HT_ HW_ => ?_)
                  generalize wr.drew = wd at hHeld ⊢
                  have HH := Aside0.mk hHeld
                  clear hHeld
                  refine pure_ (i := 0) (N := some 101) (v := ?_) (a' := ?_) (fl 13 1) rfl rfl (any_of HT_.out (by kernel_rfl)) (fun _ _ _ h => h) (Or.inl ⟨by rfl, ?_⟩) ?_ ?_
                  rotate_left
                  · intro w'
                    go_simp
                    with_reducible rfl
                  rotate_left
                  · simp only [Act.put, List.setIfInBounds_toArray, List.set_cons_zero, List.set_cons_succ, i64_w, i32_w]
                    rfl
                  refine pure_ (i := 1) (N := some 102) (v := ?_) (a' := ?_) (fl 13 3) rfl rfl (any_of HT_.out (by kernel_rfl)) (fun _ _ _ h => h) (Or.inl ⟨by rfl, ?_⟩) ?_ ?_
                  rotate_left
                  · intro w'
                    go_simp
                    with_reducible rfl
                  rotate_left
                  · simp only [Act.put, List.setIfInBounds_toArray, List.set_cons_zero, List.set_cons_succ, i64_w, i32_w]
                    rfl
                  refine pure_ (i := 2) (N := some 103) (v := ?_) (a' := ?_) (fl 13 7) rfl rfl (any_of HT_.out (by kernel_rfl)) (fun _ _ _ h => h) (Or.inl ⟨by rfl, ?_⟩) ?_ ?_
                  rotate_left
                  · intro w'
                    go_simp
                    with_reducible rfl
                  rotate_left
                  · simp only [Act.put, List.setIfInBounds_toArray, List.set_cons_zero, List.set_cons_succ, i64_w, i32_w]
                    rfl
                  refine pure_ (i := 3) (N := some 104) (v := ?_) (a' := ?_) (fl 13 15) rfl rfl (any_of HT_.out (by kernel_rfl)) (fun _ _ _ h => h) (Or.inl ⟨by rfl, ?_⟩) ?_ ?_
                  rotate_left
                  · intro w'
                    go_simp
                    with_reducible rfl
                  rotate_left
                  · simp only [Act.put, List.setIfInBounds_toArray, List.set_cons_zero, List.set_cons_succ, i64_w, i32_w]
                    rfl
                  refine pure_ (i := 4) (N := some 105) (v := ?_) (a' := ?_) (fl 13 31) rfl rfl (any_of HT_.out (by kernel_rfl)) (fun _ _ _ h => h) (Or.inl ⟨by rfl, ?_⟩) ?_ ?_
                  rotate_left
                  · intro w'
                    go_simp
                    with_reducible rfl
                  rotate_left
                  · simp only [Act.put, List.setIfInBounds_toArray, List.set_cons_zero, List.set_cons_succ, i64_w, i32_w]
                    rfl
                  refine pure_ (i := 6) (N := some 107) (v := ?_) (a' := ?_) (fl 13 95) rfl rfl (any_of HT_.out (by kernel_rfl)) (fun _ _ _ h => h) (Or.inl ⟨by rfl, ?_⟩) ?_ ?_
                  rotate_left
                  · intro w'
                    go_simp
                    with_reducible rfl
                  rotate_left
                  · simp only [Act.put, List.setIfInBounds_toArray, List.set_cons_zero, List.set_cons_succ, i64_w, i32_w]
                    rfl
                  refine pure_ (i := 7) (N := some 108) (v := ?_) (a' := ?_) (fl 13 223) rfl rfl (any_of HT_.out (by kernel_rfl)) (fun _ _ _ h => h) (Or.inl ⟨by rfl, ?_⟩) ?_ ?_
                  rotate_left
                  · intro w'
                    go_simp
                    with_reducible rfl
                  rotate_left
                  · simp only [Act.put, List.setIfInBounds_toArray, List.set_cons_zero, List.set_cons_succ, i64_w, i32_w]
                    rfl
                  refine pure_ (i := 8) (N := some 109) (v := ?_) (a' := ?_) (fl 13 479) rfl rfl (any_of HT_.out (by kernel_rfl)) (fun _ _ _ h => h) (Or.inl ⟨by rfl, ?_⟩) ?_ ?_
                  rotate_left
                  · intro w'
                    go_simp
                    with_reducible rfl
                  rotate_left
                  · simp only [Act.put, List.setIfInBounds_toArray, List.set_cons_zero, List.set_cons_succ, i64_w, i32_w]
                    rfl
                  refine take_ (i := 5) (N := some 106) (v := .agg (itV x)) (a' := ?_) (fl 13 511) rfl rfl (take_ofW HT_.out HW_.out (by kernel_rfl)) (fun _ _ _ h => h) ?_ HH.out ?_ ?_
                  · exact yields_at (by rfl) rfl rfl (fun w h => HIT.out.below h) HX.out Tryz.underlying36 rfl size36
                  rotate_left
                  · simp only [Act.put, List.setIfInBounds_toArray, List.set_cons_zero, List.set_cons_succ, i64_w, i32_w]
                    rfl
                  refine take_ (i := 9) (N := some 110) (v := .agg (itV y)) (a' := ?_) (fl 13 1023) rfl rfl (take_ofW HT_.out HW_.out (by kernel_rfl)) (fun _ _ _ h => h) ?_ HH.out ?_ ?_
                  · exact yields_at (by rfl) rfl rfl (fun w h => HIT2.out.below h) HY.out Tryz.underlying36 rfl size36
                  rotate_left
                  · simp only [Act.put, List.setIfInBounds_toArray, List.set_cons_zero, List.set_cons_succ, i64_w, i32_w]
                    rfl
                  refine pure_ (i := 10) (N := some 111) (v := ?_) (a' := ?_) (fl 13 2047) rfl rfl (any_of HT_.out (by kernel_rfl)) (fun _ _ _ h => h) (Or.inl ⟨by rfl, ?_⟩) ?_ ?_
                  rotate_left
                  · intro w'
                    refine (exec_eql (x := x) (y := y) rfl rfl rfl Tryz.eqGuardType36 (run_eq36 x y HX.out HY.out) w').trans ?_
                    rw [HEQ.out]
                  rotate_left
                  · simp only [Act.put, List.setIfInBounds_toArray, List.set_cons_zero, List.set_cons_succ, i64_w, i32_w]
                    rfl
                  refine pure_ (i := 11) (N := some 112) (v := ?_) (a' := ?_) (fl 13 4095) rfl rfl (any_of HT_.out (by kernel_rfl)) (fun _ _ _ h => h) (Or.inl ⟨by rfl, ?_⟩) ?_ ?_
                  rotate_left
                  · intro w'
                    go_simp
                    with_reducible rfl
                  rotate_left
                  · simp only [Act.put, List.setIfInBounds_toArray, List.set_cons_zero, List.set_cons_succ, i64_w, i32_w]
                    rfl
                  refine pure_ (i := 12) (N := some 15) (v := ?_) (a' := ?_) (fl 13 8191) rfl rfl (any_of HT_.out (by kernel_rfl)) (fun _ _ _ h => h) (Or.inl ⟨by rfl, ?_⟩) ?_ ?_
                  rotate_left
                  · intro w'
                    go_simp
                    with_reducible rfl
                  rotate_left
                  · simp only [Act.put, List.setIfInBounds_toArray, List.set_cons_zero, List.set_cons_succ, i64_w, i32_w]
                    rfl
                  refine done_ (done_of HT_.out (by kernel_rfl)) ?_
                  go_wp2_with fail
                  go_roundg (gk - 1)
                  case measure => have := HG.out; omega
                  case rel => exact ⟨k2 + 1, e, by omega, by rfl, by go_num, by have := HG.out; unfold Hid; omega, HBN, ⟨HH.out⟩⟩
              · have hkn : k2 = nt := by omega
                have hbq := HBQ.out
                have hz1 : ot.length = nt := HNT.out
                have hz2 : o.length = nt := HNO.out
                rw [hkn, List.take_of_length_le (by omega), List.take_of_length_le (by omega)] at hbq
                have BY := Aside0.mk (BZ.out.trans (HB.out.mono BZ.out.size))
                have OY := Aside0.mk (Kd.C_below OZ.out HB.out)
                have TY := Aside0.mk (Kd.C_below TZ.out HB.out)
                have CY := Aside0.mk (Kd.C_below CZ.out HB.out)
                rw [hkn]
                clear hkn hlt hk2 HBQ HG HB hz1 hz2 BZ OZ TZ CZ EZ LZ
                have BZ := BY
                have OZ := OY
                have TZ := TY
                have CZ := CY
                have EZ := Aside0.mk (HE.out.below BZ.out)
                clear BY OY TY CY
                generalize wr = wz at BZ OZ TZ CZ EZ ⊢
                cases b2
                · have hoo : ¬ o = ot := of_decide_eq_false hbq.symm
                  have hex := HLW.out.resolve_left hoo
                  clear hbq hoo
                  go_wp2_with fail
                  obtain ⟨i0, y0, hy0, hc0⟩ : ∃ i0 y0, o[i0]? = some y0 ∧ colB xa y0 = true := by
                    obtain ⟨y, hm, hc⟩ := hex
                    obtain ⟨i, hi⟩ := List.mem_iff_getElem?.1 hm
                    exact ⟨i, y, hi, hc⟩
                  have HO0 := Aside0.mk hy0
                  have HC0 := Aside0.mk hc0
                  have l0 : i0 < nt := by
                    have := (List.getElem?_eq_some_iff.1 hy0).1
                    have := OZ.out.1
                    omega
                  clear hex hy0 hc0
                  have B6 := Aside0.mk (Below.refl wz.heap.size wz)
                  go_wp2_with fail
                  go_loopg [17] nt (fun gf x17 wx => ∃ (j : Nat), j ≤ i0 ∧ x17 = .int .i64 j ∧ Hid (nt ≤ j + gf) ∧ Aside0 (Below wz.heap.size wz wx) ∧ Aside0 (Below W.heap.size W wx))
                  case atStart => exact ⟨0, Nat.zero_le _, rfl, by unfold Hid; omega, B6, BZ⟩
                  case round =>
                    obtain ⟨j, hj, rfl, HG, HB, HW⟩ := hrel
                    obtain ⟨ad, x, hA, hx, _, hcell1⟩ := Kit.at_ CZ.out at' hatl
                    subst hA
                    obtain ⟨ad2, y, hA2, hy, hok2, hcell2⟩ := Kit.at_ OZ.out j (by omega)
                    subst hA2
                    have hxe : x = xa := by
                      have h := HXA.out
                      rw [hx] at h
                      exact Option.some.inj h
                    rw [hxe] at hcell1
                    have HIT := Aside0.mk (show ItAt wz (ad.add (at' * 33)) xa from hcell1)
                    have HIT2 := Aside0.mk (show ItAt wz (ad2.add (j * 33)) y from hcell2)
                    have HY := Aside0.mk hok2
                    obtain ⟨b, hbq⟩ : ∃ b, colB xa y = b := ⟨_, rfl⟩
                    have hnext : b = false → j + 1 ≤ i0 := by
                      intro hb2
                      rcases Nat.lt_or_ge j i0 with h | h
                      · exact h
                      · exfalso
                        have hji : j = i0 := by omega
                        rw [hji, HO0.out] at hy
                        have e2 := Option.some.inj hy
                        rw [← e2, HC0.out, hb2] at hbq
                        cases hbq
                    have HNX := Aside0.mk hnext
                    have lx := HXO.out.2
                    have ly := (HSO.out y (mem_at hy)).2
                    have HCO := Aside0.mk (fun w => hbq ▸ collide_any xa y w HXO.out.1 HY.out (by omega) (by omega))
                    have k0 : (0 : Int) ≤ (j : Int) := by omega
                    have k1 : (0 : Int) ≤ (at' : Int) := by omega
                    have k2 : (at' : Int) < (np : Int) := by omega
                    have k3 : (j : Int) < (nt : Int) := by omega
                    clear hok2 hcell1 hcell2 hx hy hbq hnext hxe
                    go_wp2_with fail
                    refine start_ (n := 9) (S := fun w' => Below wz.heap.size wz w' ∧ Below W.heap.size W w') (ds := []) (fl 9 0) (by kernel_rfl) rfl rfl ⟨below_drew HB.out, below_drew HW.out⟩ (fun hHeld => ?_)
                    refine with_tabW r9_31.tab r9_31.bits (fun HT_ HW_ => ?_)
                    generalize wr.drew = wd at hHeld ⊢
                    have HH := Aside0.mk hHeld
                    clear hHeld
                    refine pure_ (i := 0) (N := some 124) (v := ?_) (a' := ?_) (fl 9 1) rfl rfl (any_of HT_.out (by kernel_rfl)) (fun _ _ _ h => h) (Or.inl ⟨by rfl, ?_⟩) ?_ ?_
                    rotate_left
                    · intro w'
                      go_simp
                      with_reducible rfl
                    rotate_left
                    · simp only [Act.put, List.setIfInBounds_toArray, List.set_cons_zero, List.set_cons_succ, i64_w, i32_w]
                      rfl
                    refine pure_ (i := 1) (N := some 125) (v := ?_) (a' := ?_) (fl 9 3) rfl rfl (any_of HT_.out (by kernel_rfl)) (fun _ _ _ h => h) (Or.inl ⟨by rfl, ?_⟩) ?_ ?_
                    rotate_left
                    · intro w'
                      go_simp
                      with_reducible rfl
                    rotate_left
                    · simp only [Act.put, List.setIfInBounds_toArray, List.set_cons_zero, List.set_cons_succ, i64_w, i32_w]
                      rfl
                    refine pure_ (i := 2) (N := some 126) (v := ?_) (a' := ?_) (fl 9 7) rfl rfl (any_of HT_.out (by kernel_rfl)) (fun _ _ _ h => h) (Or.inl ⟨by rfl, ?_⟩) ?_ ?_
                    rotate_left
                    · intro w'
                      go_simp
                      with_reducible rfl
                    rotate_left
                    · simp only [Act.put, List.setIfInBounds_toArray, List.set_cons_zero, List.set_cons_succ, i64_w, i32_w]
                      rfl
                    refine pure_ (i := 4) (N := some 128) (v := ?_) (a' := ?_) (fl 9 23) rfl rfl (any_of HT_.out (by kernel_rfl)) (fun _ _ _ h => h) (Or.inl ⟨by rfl, ?_⟩) ?_ ?_
                    rotate_left
                    · intro w'
                      go_simp
                      with_reducible rfl
                    rotate_left
                    · simp only [Act.put, List.setIfInBounds_toArray, List.set_cons_zero, List.set_cons_succ, i64_w, i32_w]
                      rfl
                    refine pure_ (i := 5) (N := some 129) (v := ?_) (a' := ?_) (fl 9 55) rfl rfl (any_of HT_.out (by kernel_rfl)) (fun _ _ _ h => h) (Or.inl ⟨by rfl, ?_⟩) ?_ ?_
                    rotate_left
                    · intro w'
                      go_simp
                      with_reducible rfl
                    rotate_left
                    · simp only [Act.put, List.setIfInBounds_toArray, List.set_cons_zero, List.set_cons_succ, i64_w, i32_w]
                      rfl
                    refine pure_ (i := 6) (N := some 130) (v := ?_) (a' := ?_) (fl 9 119) rfl rfl (any_of HT_.out (by kernel_rfl)) (fun _ _ _ h => h) (Or.inl ⟨by rfl, ?_⟩) ?_ ?_
                    rotate_left
                    · intro w'
                      go_simp
                      with_reducible rfl
                    rotate_left
                    · simp only [Act.put, List.setIfInBounds_toArray, List.set_cons_zero, List.set_cons_succ, i64_w, i32_w]
                      rfl
                    refine take_ (i := 3) (N := some 127) (v := .agg (itV xa)) (a' := ?_) (fl 9 127) rfl rfl (take_ofW HT_.out HW_.out (by kernel_rfl)) (fun _ _ _ h => h) ?_ HH.out ?_ ?_
                    · exact yields_at (by rfl) rfl rfl (fun w h => HIT.out.below h.1) HXO.out.1 Tryz.underlying36 rfl size36
                    rotate_left
                    · simp only [Act.put, List.setIfInBounds_toArray, List.set_cons_zero, List.set_cons_succ, i64_w, i32_w]
                      rfl
                    refine take_ (i := 7) (N := some 131) (v := .agg (itV y)) (a' := ?_) (fl 9 255) rfl rfl (take_ofW HT_.out HW_.out (by kernel_rfl)) (fun _ _ _ h => h) ?_ HH.out ?_ ?_
                    · exact yields_at (by rfl) rfl rfl (fun w h => HIT2.out.below h.1) HY.out Tryz.underlying36 rfl size36
                    rotate_left
                    · simp only [Act.put, List.setIfInBounds_toArray, List.set_cons_zero, List.set_cons_succ, i64_w, i32_w]
                      rfl
                    refine one_ (i := 8) (N := some 132) (fl 9 511) rfl rfl (one_of HT_.out (by kernel_rfl)) (by decide) (fun K hK => ?_)
                    refine goes_ Tryz.func16 (by kernel_rfl) rfl #[.agg (itV xa), .agg (itV y)] (by rfl) rfl rfl (by simp only [List.map_toArray, List.map_cons, List.map_nil]; rfl) ?_
                    refine (HCO.out _).mono ?_
                    rintro e w' ⟨rfl, hb⟩
                    refine ⟨_, rfl, hK.out _ _ ⟨below_step HH.out.1 hb, below_step HH.out.2 hb⟩ (fun hHeld => ?_)⟩
                    have HH2 := Aside0.mk hHeld
                    clear hHeld HH
                    have HH := HH2
                    clear HH2
                    try clear hb
                    try clear hK K
                    refine norm_ (a' := ?_) ?_ ?_
                    rotate_left
                    · show Act.put _ (some 132) _ = _
                      simp only [Act.put, List.setIfInBounds_toArray, List.set_cons_zero, List.set_cons_succ, i64_w, i32_w]
                      rfl
                    refine done_ (done_of HT_.out (by kernel_rfl)) ?_
                    try clear hb
                    cases b
                    · go_wp2_with fail
                      go_roundg (gk - 1)
                      case measure => have := HG.out; omega
                      case rel => exact ⟨j + 1, by first | exact HNX.out rfl | exact HNX.out trivial, by go_num, by have := HG.out; unfold Hid; omega, ⟨HH.out.1⟩, ⟨HH.out.2⟩⟩
                    · go_wp2_with fail
                      refine (ST.out _ (EZ.out.below HH.out.1)).mono ?_
                      rintro e w9 ⟨v9, rfl, hr, hb⟩
                      obtain ⟨A9, c9, rfl, _, hC9⟩ := Kd.R_reads hr
                      have hln : o.length = nt := OZ.out.1
                      rw [hln] at hC9 ⊢
                      have C9 := Aside0.mk hC9
                      have B9 := Aside0.mk (below_step HH.out.2 hb)
                      have O9 := Aside0.mk (Kd.C_below OZ.out (below_step HH.out.1 hb))
                      clear hC9 hr hb hln HH
                      go_wp2_with fail
                      refine (HSM.out _ _ _ _ _ C9.out O9.out).mono ?_
                      rintro e w10 ⟨rfl, hb⟩
                      have B10 := Aside0.mk (below_step B9.out hb)
                      clear hb
                      go_wp2_with fail
                      go_ret
                      exact ⟨rfl, B10.out⟩
                · have hoo : o = ot := of_decide_eq_true hbq.symm
                  rw [decide_eq_true hoo] at HSN
                  clear hbq hoo
                  go_wp2_with fail
                  refine (ST.out _ EZ.out).mono ?_
                  rintro e w9 ⟨v9, rfl, hr, hb⟩
                  obtain ⟨A9, c9, rfl, _, hC9⟩ := Kd.R_reads hr
                  rw [HNO.out] at hC9 ⊢
                  have C9 := Aside0.mk hC9
                  have B9 := Aside0.mk (below_step BZ.out hb)
                  have O9 := Aside0.mk (Kd.C_below TZ.out hb)
                  clear hC9 hr hb
                  go_wp2_with fail
                  refine (HSN.out _ _ _ _ _ C9.out O9.out).mono ?_
                  rintro e w10 ⟨rfl, hb⟩
                  have B10 := Aside0.mk (below_step B9.out hb)
                  clear hb
                  go_wp2_with fail
                  go_ret
                  exact ⟨rfl, B10.out⟩
          · have hne1 : ((no : Int) == (nt : Int)) = false := by simp; omega
            have hne2 : ¬ (no : Int) = (nt : Int) := by omega
            have hoo : ¬ o = ot := by
              intro e
              have h1 := HNT.out
              have h2 := HNO.out
              rw [e] at h2
              exact hne (h1.symm.trans h2)
            have hex := HLW.out.resolve_left hoo
            clear hne hoo
            go_wp2_with fail
            obtain ⟨i0, y0, hy0, hc0⟩ : ∃ i0 y0, o[i0]? = some y0 ∧ colB xa y0 = true := by
              obtain ⟨y, hm, hc⟩ := hex
              obtain ⟨i, hi⟩ := List.mem_iff_getElem?.1 hm
              exact ⟨i, y, hi, hc⟩
            have HO0 := Aside0.mk hy0
            have HC0 := Aside0.mk hc0
            have l0 : i0 < no := by
              have := (List.getElem?_eq_some_iff.1 hy0).1
              have := OZ.out.1
              omega
            clear hex hy0 hc0
            have B6 := Aside0.mk (Below.refl wz.heap.size wz)
            go_wp2_with fail
            go_loopg [17] no (fun gf x17 wx => ∃ (j : Nat), j ≤ i0 ∧ x17 = .int .i64 j ∧ Hid (no ≤ j + gf) ∧ Aside0 (Below wz.heap.size wz wx) ∧ Aside0 (Below W.heap.size W wx))
            case atStart => exact ⟨0, Nat.zero_le _, rfl, by unfold Hid; omega, B6, BZ⟩
            case round =>
              obtain ⟨j, hj, rfl, HG, HB, HW⟩ := hrel
              obtain ⟨ad, x, hA, hx, _, hcell1⟩ := Kit.at_ CZ.out at' hatl
              subst hA
              obtain ⟨ad2, y, hA2, hy, hok2, hcell2⟩ := Kit.at_ OZ.out j (by omega)
              subst hA2
              have hxe : x = xa := by
                have h := HXA.out
                rw [hx] at h
                exact Option.some.inj h
              rw [hxe] at hcell1
              have HIT := Aside0.mk (show ItAt wz (ad.add (at' * 33)) xa from hcell1)
              have HIT2 := Aside0.mk (show ItAt wz (ad2.add (j * 33)) y from hcell2)
              have HY := Aside0.mk hok2
              obtain ⟨b, hbq⟩ : ∃ b, colB xa y = b := ⟨_, rfl⟩
              have hnext : b = false → j + 1 ≤ i0 := by
                intro hb2
                rcases Nat.lt_or_ge j i0 with h | h
                · exact h
                · exfalso
                  have hji : j = i0 := by omega
                  rw [hji, HO0.out] at hy
                  have e2 := Option.some.inj hy
                  rw [← e2, HC0.out, hb2] at hbq
                  cases hbq
              have HNX := Aside0.mk hnext
              have lx := HXO.out.2
              have ly := (HSO.out y (mem_at hy)).2
              have HCO := Aside0.mk (fun w => hbq ▸ collide_any xa y w HXO.out.1 HY.out (by omega) (by omega))
              have k0 : (0 : Int) ≤ (j : Int) := by omega
              have k1 : (0 : Int) ≤ (at' : Int) := by omega
              have k2 : (at' : Int) < (np : Int) := by omega
              have k3 : (j : Int) < (no : Int) := by omega
              clear hok2 hcell1 hcell2 hx hy hbq hnext hxe
              go_wp2_with fail
              refine start_ (n := 9) (S := fun w' => Below wz.heap.size wz w' ∧ Below W.heap.size W w') (ds := []) (fl 9 0) (by kernel_rfl) rfl rfl ⟨below_drew HB.out, below_drew HW.out⟩ (fun hHeld => ?_)
              refine with_tabW r9_31.tab r9_31.bits (fun HT_ HW_ => ?_)
              generalize wr.drew = wd at hHeld ⊢
              have HH := Aside0.mk hHeld
              clear hHeld
              refine pure_ (i := 0) (N := some 124) (v := ?_) (a' := ?_) (fl 9 1) rfl rfl (any_of HT_.out (by kernel_rfl)) (fun _ _ _ h => h) (Or.inl ⟨by rfl, ?_⟩) ?_ ?_
              rotate_left
              · intro w'
                go_simp
                with_reducible rfl
              rotate_left
              · simp only [Act.put, List.setIfInBounds_toArray, List.set_cons_zero, List.set_cons_succ, i64_w, i32_w]
                rfl
              refine pure_ (i := 1) (N := some 125) (v := ?_) (a' := ?_) (fl 9 3) rfl rfl (any_of HT_.out (by kernel_rfl)) (fun _ _ _ h => h) (Or.inl ⟨by rfl, ?_⟩) ?_ ?_
              rotate_left
              · intro w'
                go_simp
                with_reducible rfl
              rotate_left
              · simp only [Act.put, List.setIfInBounds_toArray, List.set_cons_zero, List.set_cons_succ, i64_w, i32_w]
                rfl
              refine pure_ (i := 2) (N := some 126) (v := ?_) (a' := ?_) (fl 9 7) rfl rfl (any_of HT_.out (by kernel_rfl)) (fun _ _ _ h => h) (Or.inl ⟨by rfl, ?_⟩) ?_ ?_
              rotate_left
              · intro w'
                go_simp
                with_reducible rfl
              rotate_left
              · simp only [Act.put, List.setIfInBounds_toArray, List.set_cons_zero, List.set_cons_succ, i64_w, i32_w]
                rfl
              refine pure_ (i := 4) (N := some 128) (v := ?_) (a' := ?_) (fl 9 23) rfl rfl (any_of HT_.out (by kernel_rfl)) (fun _ _ _ h => h) (Or.inl ⟨by rfl, ?_⟩) ?_ ?_
              rotate_left
              · intro w'
                go_simp
                with_reducible rfl
              rotate_left
              · simp only [Act.put, List.setIfInBounds_toArray, List.set_cons_zero, List.set_cons_succ, i64_w, i32_w]
                rfl
              refine pure_ (i := 5) (N := some 129) (v := ?_) (a' := ?_) (fl 9 55) rfl rfl (any_of HT_.out (by kernel_rfl)) (fun _ _ _ h => h) (Or.inl ⟨by rfl, ?_⟩) ?_ ?_
              rotate_left
              · intro w'
                go_simp
                with_reducible rfl
              rotate_left
              · simp only [Act.put, List.setIfInBounds_toArray, List.set_cons_zero, List.set_cons_succ, i64_w, i32_w]
                rfl
              refine pure_ (i := 6) (N := some 130) (v := ?_) (a' := ?_) (fl 9 119) rfl rfl (any_of HT_.out (by kernel_rfl)) (fun _ _ _ h => h) (Or.inl ⟨by rfl, ?_⟩) ?_ ?_
              rotate_left
              · intro w'
                go_simp
                with_reducible rfl
              rotate_left
              · simp only [Act.put, List.setIfInBounds_toArray, List.set_cons_zero, List.set_cons_succ, i64_w, i32_w]
                rfl
              refine take_ (i := 3) (N := some 127) (v := .agg (itV xa)) (a' := ?_) (fl 9 127) rfl rfl (take_ofW HT_.out HW_.out (by kernel_rfl)) (fun _ _ _ h => h) ?_ HH.out ?_ ?_
              · exact yields_at (by rfl) rfl rfl (fun w h => HIT.out.below h.1) HXO.out.1 Tryz.underlying36 rfl size36
              rotate_left
              · simp only [Act.put, List.setIfInBounds_toArray, List.set_cons_zero, List.set_cons_succ, i64_w, i32_w]
                rfl
              refine take_ (i := 7) (N := some 131) (v := .agg (itV y)) (a' := ?_) (fl 9 255) rfl rfl (take_ofW HT_.out HW_.out (by kernel_rfl)) (fun _ _ _ h => h) ?_ HH.out ?_ ?_
              · exact yields_at (by rfl) rfl rfl (fun w h => HIT2.out.below h.1) HY.out Tryz.underlying36 rfl size36
              rotate_left
              · simp only [Act.put, List.setIfInBounds_toArray, List.set_cons_zero, List.set_cons_succ, i64_w, i32_w]
                rfl
              refine one_ (i := 8) (N := some 132) (fl 9 511) rfl rfl (one_of HT_.out (by kernel_rfl)) (by decide) (fun K hK => ?_)
              refine goes_ Tryz.func16 (by kernel_rfl) rfl #[.agg (itV xa), .agg (itV y)] (by rfl) rfl rfl (by simp only [List.map_toArray, List.map_cons, List.map_nil]; rfl) ?_
              refine (HCO.out _).mono ?_
              rintro e w' ⟨rfl, hb⟩
              refine ⟨_, rfl, hK.out _ _ ⟨below_step HH.out.1 hb, below_step HH.out.2 hb⟩ (fun hHeld => ?_)⟩
              have HH2 := Aside0.mk hHeld
              clear hHeld HH
              have HH := HH2
              clear HH2
              try clear hb
              try clear hK K
              refine norm_ (a' := ?_) ?_ ?_
              rotate_left
              · show Act.put _ (some 132) _ = _
                simp only [Act.put, List.setIfInBounds_toArray, List.set_cons_zero, List.set_cons_succ, i64_w, i32_w]
                rfl
              refine done_ (done_of HT_.out (by kernel_rfl)) ?_
              try clear hb
              cases b
              · go_wp2_with fail
                go_roundg (gk - 1)
                case measure => have := HG.out; omega
                case rel => exact ⟨j + 1, by first | exact HNX.out rfl | exact HNX.out trivial, by go_num, by have := HG.out; unfold Hid; omega, ⟨HH.out.1⟩, ⟨HH.out.2⟩⟩
              · go_wp2_with fail
                refine (ST.out _ (EZ.out.below HH.out.1)).mono ?_
                rintro e w9 ⟨v9, rfl, hr, hb⟩
                obtain ⟨A9, c9, rfl, _, hC9⟩ := Kd.R_reads hr
                have hln : o.length = no := OZ.out.1
                rw [hln] at hC9 ⊢
                have C9 := Aside0.mk hC9
                have B9 := Aside0.mk (below_step HH.out.2 hb)
                have O9 := Aside0.mk (Kd.C_below OZ.out (below_step HH.out.1 hb))
                clear hC9 hr hb hln HH
                go_wp2_with fail
                refine (HSM.out _ _ _ _ _ C9.out O9.out).mono ?_
                rintro e w10 ⟨rfl, hb⟩
                have B10 := Aside0.mk (below_step B9.out hb)
                clear hb
                go_wp2_with fail
                go_ret
                exact ⟨rfl, B10.out⟩

end Go.Proofs.YtceopllngemnnaaGreatDoor

