/-
  Sizes, digests, Pack, and the reader of one line: what they return.
-/
import Derived.Test.YtceopllngemnnaaGreatDoorMC
import Derived.Test.YtceopllngemnnaaGreatDoorVTab
import Derived.Lib.Join
set_option linter.unusedVariables false
set_option linter.unusedSimpArgs false
/-
  Sizes of batches and items, and the digest of an item: what they return. For texts of up to 70000 bytes.
-/
namespace Go.Proofs.YtceopllngemnnaaGreatDoor
open Go.RowKit Go.Proofs.YtceopllngemnnaaGreatDoorW.PrintWords Go.Proofs.YtceopllngemnnaaGreatDoorW.PrintLast Go.Proofs.YtceopllngemnnaaGreatDoorW.PrintMore Go.Proofs.YtceopllngemnnaaGreatDoor.PRef

theorem dec_len (u : Nat) : 1 ≤ (Lib.decDigits u).length ∧ (Lib.decDigits u).length ≤ u / 10 + 2 := by
  fun_induction Lib.decDigits u with
  | case1 u h => simp
  | case2 u h ih => rw [List.length_append]; simp; omega
theorem itoa_nat (n : Nat) : Lib.itoa (n : Int) = Lib.decDigits n := by
  unfold Lib.itoa
  rw [if_neg (by omega)]; rfl

def numB (n : Nat) : ByteArray := mkB (Lib.decDigits n)
theorem numB_size (n : Nat) : (numB n).size = (Lib.decDigits n).length := mkB_size _
theorem digits_nat (n : Nat) (w : World) (he : Env w) (h1 : n ≤ 1000000000) :
    Calls Tryz.prog 41 #[.int .i64 n] w fun e w' => e = .returned (.string (numB n)) ∧ Below w.heap.size w w' := by
  have := digits_any (n : Int) w he (by omega) (by omega)
  rw [itoa_nat] at this
  exact this

def frameN (n : Nat) : Nat := (numB n).size + 11
set_option maxHeartbeats 1000000 in
theorem frame_any (n : Nat) (w : World) (he : Env w) (h1 : n ≤ 1000000) :
    Calls Tryz.prog 53 #[.int .i64 n] w fun e w' => e = .returned (.int .i64 (frameN n)) ∧ Below w.heap.size w w' := by
  obtain ⟨s, hs⟩ : ∃ s, numB n = s := ⟨_, rfl⟩
  have hl := dec_len n
  rw [← numB_size, hs] at hl
  have hf : frameN n = s.size + 11 := by rw [← hs]; rfl
  have HF := Aside0.mk hf
  have HD := Aside0.mk (fun w he => hs ▸ digits_nat n w he (by omega))
  have HE := Aside0.mk he
  clear hs hf he
  go_enter Tryz.func53, Tryz.ntmps53
  go_wp2_with fail
  refine (HD.out _ HE.out).mono ?_
  rintro e w1 ⟨rfl, hb⟩
  have HB := Aside0.mk hb
  clear hb
  go_wp2_with fail
  go_ret
  exact ⟨by rw [HF.out]; go_num, HB.out⟩

theorem it_str_cell {W : World} {g t : Nat} {x : It} (h : Blk W g (itV x) t) (hx : okId x.1) : W.cell? ⟨g, 32, none⟩ = some (.string x.2) := by
  rw [Lib.cell_of_heap h]; exact itV_str hx

section
variable {P : Program} {ops : Array Oper} {o : Oper} {a : Act} {Q : Exit → Act → World → Prop} {Kc : Act → World → Prop}
/-- []byte of a string. -/
theorem bytes_step {W : World} {src dst e : Nat} {x : Operand} {s : ByteArray} {u : TypeDesc} (hw : Region.wanted o (yielded ops a.tmps) = true) (ho : o.op = .convert src dst x) (hx : a.eval x = .string s)
    (h1 : P.underlying src = some u) (h2 : P.underlying dst = some (.slice e)) (h3 : P.underlying e = some (.int .u8)) (hs : s.size ≤ 9223372036854775807)
    (hk : ∀ A c w1, s.size ≤ c → Kd.C (Kd.int .u8) w1 A s.size (bytesOf s) → Below W.heap.size W w1 → Kc (a.put o.dst (.slice A s.size c)) w1) : if Region.wanted o (yielded ops a.tmps) = true then Oper.wp P o a W Kc Q else Kc (a.put o.dst undef) W := by
  refine event_step hw (v := .slice (some ⟨W.heap.size, 0, none⟩) s.size (grownCap W s.size 0 e)) (w1 := Lib.bytesWorld W e s) ?_ (hk _ _ _ (grownCap_ge _ _ _ _) (Kd.C_of_reads (d := (0 : Int)) (h1 := fun _ => rfl) (readsInt_of.mp (bytes_reads W e s hs))) (bytes_below (Below.refl _ _) (Nat.le_refl _) e s))
  have hr := print_bytes src dst e h1 h2 h3 s W
  simp only [execOp, ho, Sem.run_bind, hx, hr, Result.andThen_ok]
  rfl
theorem alloc_blk_step {W : World} {t n : Nat} {N : Tmp} {cs : Array Value} (hw : Region.wanted o (yielded ops a.tmps) = true) (ho : o.op = .alloc t) (hd : o.dst = some N) (hz : (P.info? t).map (fun i => (i.zero, i.size)) = some (some (.agg cs), n))
    (hk : ∀ g w1, g = W.heap.size → Blk w1 g cs t → Below W.heap.size W w1 → Kc (a.put (some N) (.pointer (some ⟨g, 0, none⟩))) w1) : if Region.wanted o (yielded ops a.tmps) = true then Oper.wp P o a W Kc Q else Kc (a.put (some N) undef) W := by
  rw [← hd]
  refine event_step hw (v := .pointer (some ⟨W.heap.size, 0, none⟩)) (w1 := W.alloc (.cells cs t (0, 0))) ?_ (by rw [hd]; exact hk _ _ rfl (blk_new W _) (below_alloc (Below.refl _ _) _))
  have h0 := (zero_of_info hz).1 W
  simp [go_sem, execOp, ho, h0, Instr.alloc, Value.cells, newVar]
theorem store_blk_l_step {W : World} {g t t' : Nat} {old cs : Array Value} (hw : Region.wanted o (yielded ops a.tmps) = true) {p : Tmp} {x : Operand} (ho : o.op = .store t (.tmp p) x) (hN : o.dst = none) (haddr : a.eval (.tmp p) = .pointer (some ⟨g, 0, none⟩)) (hv : a.eval x = .agg cs) (h : Blk W g old t')
    (hi : (P.info? t).map (·.size) = some cs.size) (hs : old.size = cs.size) (h1 : cs.all (·.oneCell') = true)
    (hk : ∀ w1, Blk w1 g cs t' → (∀ w0 base, base ≤ g → Below base w0 W → Below base w0 w1) → (∀ g' c' ty, Blk W g' c' ty → g' ≠ g → Blk w1 g' c' ty) → Kc (a.put none undef) w1) : if Region.wanted o (yielded ops a.tmps) = true then Oper.wp P o a W Kc Q else Kc (a.put none undef) W :=
  store_blk_step hw ho hN haddr hv h hi hs h1 (hk _ (h.setRow cs) (fun w0 base hb hw => below_setRow hw hb cs) (fun g' c' ty hB hne => hB.setRow_ne cs hne))
end

/-! Region tables, printed by rg2.py. -/
def r54_1.T : Bool × List (List Nat × List Nat) := (true, [([], []), ([0], [0]), ([1], [1]), ([2], [2]), ([3], [3]), ([4], [4]), ([5], [5]), ([6], [6]), ([7], [7]), ([8], [8]), ([9], [9]), ([], []), ([11], [11]), ([12], [12]), ([10, 13], [10, 13]), ([14], [14]), ([15, 3, 0, 1, 2, 3, 4, 5, 6, 7, 8, 9, 10, 11, 12, 13, 14, 15], [15])])
def r54_1.B : List Nat := [0, 1, 3, 7, 15, 31, 63, 127, 255, 511, 1023, 0, 2048, 6144, 16383, 32767, 65535]
theorem r54_1.tab : rtab .any (opsOf Tryz.f54 1) = r54_1.T := by kernel_rfl
theorem r54_1.bits : waitsOk r54_1.T.2 r54_1.B = true := by kernel_rfl
def r61_1.T : Bool × List (List Nat × List Nat) := (true, [([], []), ([0], [0]), ([1], [1]), ([2], [2]), ([], []), ([4], [4]), ([3, 5], [3, 5]), ([6], [6]), ([7, 2], [7]), ([], []), ([9, 8, 8, 0, 1, 2, 3, 4, 5, 6, 7, 8, 9], [8, 9])])
def r61_1.B : List Nat := [0, 1, 3, 7, 0, 16, 63, 127, 255, 0, 1023]
theorem r61_1.tab : rtab .any (opsOf Tryz.f61 1) = r61_1.T := by kernel_rfl
theorem r61_1.bits : waitsOk r61_1.T.2 r61_1.B = true := by kernel_rfl

theorem sz_wrap (a b : Nat) (ha : a ≤ 100000000) (hb : b ≤ 100000000) : wrap64 (wrap64 (wrap64 (wrap64 (wrap64 (wrap64 (wrap64 (wrap64 (8 + (a : Int)) + 1) + 32) + 1) + 71) + 1) + (b : Int)) + 1) = ((a + b + 115 : Nat) : Int) := by
  have w : ∀ n : Int, 0 ≤ n → n ≤ 1000000000 → wrap64 n = n := by intro n h0 h1; unfold wrap64; omega
  rw [w (8 + (a : Int)) (by omega) (by omega), w (8 + (a : Int) + 1) (by omega) (by omega), w (8 + (a : Int) + 1 + 32) (by omega) (by omega), w (8 + (a : Int) + 1 + 32 + 1) (by omega) (by omega), w (8 + (a : Int) + 1 + 32 + 1 + 71) (by omega) (by omega), w (8 + (a : Int) + 1 + 32 + 1 + 71 + 1) (by omega) (by omega), w (8 + (a : Int) + 1 + 32 + 1 + 71 + 1 + (b : Int)) (by omega) (by omega), w (8 + (a : Int) + 1 + 32 + 1 + 71 + 1 + (b : Int) + 1) (by omega) (by omega)]
  omega
def sizeN (x : It) : Nat := (numB x.2.size).size + x.2.size + 115
set_option maxHeartbeats 2000000 in
set_option maxRecDepth 100000 in
theorem size_any (x : It) (W : World) (he : Env W) (hx : okId x.1) (hl : x.2.size ≤ 100000000) :
    Calls Tryz.prog 54 #[.agg (itV x)] W fun e w' => e = .returned (.int .i64 (sizeN x)) ∧ Below W.heap.size W w' := by
  obtain ⟨s, hs⟩ : ∃ s, numB x.2.size = s := ⟨_, rfl⟩
  have hdl := dec_len x.2.size
  rw [← numB_size, hs] at hdl
  have HF := Aside0.mk (show sizeN x = s.size + x.2.size + 115 by rw [← hs]; rfl)
  have HD := Aside0.mk (fun w he => hs ▸ digits_nat x.2.size w he (by omega))
  have HE := Aside0.mk he
  have HX := Aside0.mk hx
  have hvs : Aside0 ((itV x).size = 33) := ⟨itV_size hx⟩
  have hv1 : Aside0 ((itV x).all (·.oneCell') = true) := ⟨itV_one x⟩
  clear hs he hx
  go_enter Tryz.func54, Tryz.ntmps54
  go_wp2_with (first
    | ((with_reducible refine gate_dst (N := 1) rfl ?_); refine box_blk rfl rfl rfl rfl (by rw [hvs.out]; exact size39) hv1.out ?_; intro g w1 hg hz hb'; have Z1 := Aside0.mk hz; have B1 := Aside0.mk hb'; clear hg hz hb'))
  refine start_ (n := 17) (S := fun w' => Blk w' g (itV x) 39 ∧ Below W.heap.size W w') (ds := []) #[false, false, false, false, false, false, false, false, false, false, false, false, false, false, false, false, false] (by kernel_rfl) rfl rfl ⟨Z1.out, below_drew B1.out⟩ (fun hHeld => ?_)
  refine with_tabW r54_1.tab r54_1.bits (fun HT_ HW_ => ?_)
  generalize w1.drew = wd at hHeld ⊢
  have HH := Aside0.mk hHeld
  clear hHeld
  refine pure_ (i := 0) (N := some 3) (v := ?_) (a' := ?_) #[true, false, false, false, false, false, false, false, false, false, false, false, false, false, false, false, false] rfl rfl (any_of HT_.out (by kernel_rfl)) (fun _ _ _ h => h) (Or.inl ⟨by rfl, ?_⟩) ?_ ?_
  rotate_left
  · intro w'
    go_simp
    with_reducible rfl
  rotate_left
  · simp only [Act.put, List.setIfInBounds_toArray, List.set_cons_zero, List.set_cons_succ, i64_w, i32_w]
    rfl
  refine pure_ (i := 11) (N := some 14) (v := ?_) (a' := ?_) #[true, false, false, false, false, false, false, false, false, false, false, true, false, false, false, false, false] rfl rfl (any_of HT_.out (by kernel_rfl)) (fun _ _ _ h => h) (Or.inl ⟨by rfl, ?_⟩) ?_ ?_
  rotate_left
  · intro w'
    go_simp
    with_reducible rfl
  rotate_left
  · simp only [Act.put, List.setIfInBounds_toArray, List.set_cons_zero, List.set_cons_succ, i64_w, i32_w]
    rfl
  refine take_ (i := 1) (N := some 4) (v := ?_) (a' := ?_) #[true, true, false, false, false, false, false, false, false, false, false, true, false, false, false, false, false] rfl rfl (take_ofW HT_.out HW_.out (by kernel_rfl)) (fun _ _ _ h => h) (Or.inl ⟨by rfl, ?_⟩) HH.out ?_ ?_
  rotate_left
  · intro w' hS'
    have hc32 := it_str_cell hS'.1 HX.out
    go_simp
    with_reducible rfl
  rotate_left
  · simp only [Act.put, List.setIfInBounds_toArray, List.set_cons_zero, List.set_cons_succ, i64_w, i32_w]
    rfl
  refine pure_ (i := 2) (N := some 5) (v := ?_) (a' := ?_) #[true, true, true, false, false, false, false, false, false, false, false, true, false, false, false, false, false] rfl rfl (any_of HT_.out (by kernel_rfl)) (fun _ _ _ h => h) (Or.inl ⟨by rfl, ?_⟩) ?_ ?_
  rotate_left
  · intro w'
    go_simp
    with_reducible rfl
  rotate_left
  · simp only [Act.put, List.setIfInBounds_toArray, List.set_cons_zero, List.set_cons_succ, i64_w, i32_w]
    rfl
  refine take_ (i := 12) (N := some 15) (v := ?_) (a' := ?_) #[true, true, true, false, false, false, false, false, false, false, false, true, true, false, false, false, false] rfl rfl (take_ofW HT_.out HW_.out (by kernel_rfl)) (fun _ _ _ h => h) (Or.inl ⟨by rfl, ?_⟩) HH.out ?_ ?_
  rotate_left
  · intro w' hS'
    have hc32 := it_str_cell hS'.1 HX.out
    go_simp
    with_reducible rfl
  rotate_left
  · simp only [Act.put, List.setIfInBounds_toArray, List.set_cons_zero, List.set_cons_succ, i64_w, i32_w]
    rfl
  refine pure_ (i := 13) (N := some 16) (v := ?_) (a' := ?_) #[true, true, true, false, false, false, false, false, false, false, false, true, true, true, false, false, false] rfl rfl (any_of HT_.out (by kernel_rfl)) (fun _ _ _ h => h) (Or.inl ⟨by rfl, ?_⟩) ?_ ?_
  rotate_left
  · intro w'
    go_simp
    with_reducible rfl
  rotate_left
  · simp only [Act.put, List.setIfInBounds_toArray, List.set_cons_zero, List.set_cons_succ, i64_w, i32_w]
    rfl
  refine one_ (i := 3) (N := some 6) #[true, true, true, true, false, false, false, false, false, false, false, true, true, true, false, false, false] rfl rfl (one_of HT_.out (by kernel_rfl)) (by decide) (fun K hK => ?_)
  refine goes_ Tryz.func41 (by kernel_rfl) rfl #[.int .i64 x.2.size] (by rfl) rfl rfl (by simp only [List.map_toArray, List.map_cons, List.map_nil]; rfl) ?_
  refine (HD.out _ (HE.out.below HH.out.2)).mono ?_
  rintro e w' ⟨rfl, hb⟩
  refine ⟨_, rfl, hK.out _ _ ⟨HH.out.1.below hb, below_step HH.out.2 hb⟩ (fun hHeld => ?_)⟩
  have HH2 := Aside0.mk hHeld
  clear hHeld HH
  have HH := HH2
  clear HH2
  try clear hb
  try clear hK K
  refine norm_ (a' := ?_) ?_ ?_
  rotate_left
  · show Act.put _ (some 6) _ = _
    simp only [Act.put, List.setIfInBounds_toArray, List.set_cons_zero, List.set_cons_succ, i64_w, i32_w]
    rfl
  refine pure_ (i := 4) (N := some 7) (v := ?_) (a' := ?_) #[true, true, true, true, true, false, false, false, false, false, false, true, true, true, false, false, false] rfl rfl (any_of HT_.out (by kernel_rfl)) (fun _ _ _ h => h) (Or.inl ⟨by rfl, ?_⟩) ?_ ?_
  rotate_left
  · intro w'
    go_simp
    with_reducible rfl
  rotate_left
  · simp only [Act.put, List.setIfInBounds_toArray, List.set_cons_zero, List.set_cons_succ, i64_w, i32_w]
    rfl
  refine pure_ (i := 5) (N := some 8) (v := ?_) (a' := ?_) #[true, true, true, true, true, true, false, false, false, false, false, true, true, true, false, false, false] rfl rfl (any_of HT_.out (by kernel_rfl)) (fun _ _ _ h => h) (Or.inl ⟨by rfl, ?_⟩) ?_ ?_
  rotate_left
  · intro w'
    go_simp
    with_reducible rfl
  rotate_left
  · simp only [Act.put, List.setIfInBounds_toArray, List.set_cons_zero, List.set_cons_succ, i64_w, i32_w]
    rfl
  refine pure_ (i := 6) (N := some 9) (v := ?_) (a' := ?_) #[true, true, true, true, true, true, true, false, false, false, false, true, true, true, false, false, false] rfl rfl (any_of HT_.out (by kernel_rfl)) (fun _ _ _ h => h) (Or.inl ⟨by rfl, ?_⟩) ?_ ?_
  rotate_left
  · intro w'
    go_simp
    with_reducible rfl
  rotate_left
  · simp only [Act.put, List.setIfInBounds_toArray, List.set_cons_zero, List.set_cons_succ, i64_w, i32_w]
    rfl
  refine pure_ (i := 7) (N := some 10) (v := ?_) (a' := ?_) #[true, true, true, true, true, true, true, true, false, false, false, true, true, true, false, false, false] rfl rfl (any_of HT_.out (by kernel_rfl)) (fun _ _ _ h => h) (Or.inl ⟨by rfl, ?_⟩) ?_ ?_
  rotate_left
  · intro w'
    go_simp
    with_reducible rfl
  rotate_left
  · simp only [Act.put, List.setIfInBounds_toArray, List.set_cons_zero, List.set_cons_succ, i64_w, i32_w]
    rfl
  refine pure_ (i := 8) (N := some 11) (v := ?_) (a' := ?_) #[true, true, true, true, true, true, true, true, true, false, false, true, true, true, false, false, false] rfl rfl (any_of HT_.out (by kernel_rfl)) (fun _ _ _ h => h) (Or.inl ⟨by rfl, ?_⟩) ?_ ?_
  rotate_left
  · intro w'
    go_simp
    with_reducible rfl
  rotate_left
  · simp only [Act.put, List.setIfInBounds_toArray, List.set_cons_zero, List.set_cons_succ, i64_w, i32_w]
    rfl
  refine pure_ (i := 9) (N := some 12) (v := ?_) (a' := ?_) #[true, true, true, true, true, true, true, true, true, true, false, true, true, true, false, false, false] rfl rfl (any_of HT_.out (by kernel_rfl)) (fun _ _ _ h => h) (Or.inl ⟨by rfl, ?_⟩) ?_ ?_
  rotate_left
  · intro w'
    go_simp
    with_reducible rfl
  rotate_left
  · simp only [Act.put, List.setIfInBounds_toArray, List.set_cons_zero, List.set_cons_succ, i64_w, i32_w]
    rfl
  refine pure_ (i := 10) (N := some 13) (v := ?_) (a' := ?_) #[true, true, true, true, true, true, true, true, true, true, true, true, true, true, false, false, false] rfl rfl (any_of HT_.out (by kernel_rfl)) (fun _ _ _ h => h) (Or.inl ⟨by rfl, ?_⟩) ?_ ?_
  rotate_left
  · intro w'
    go_simp
    with_reducible rfl
  rotate_left
  · simp only [Act.put, List.setIfInBounds_toArray, List.set_cons_zero, List.set_cons_succ, i64_w, i32_w]
    rfl
  refine pure_ (i := 14) (N := some 17) (v := ?_) (a' := ?_) #[true, true, true, true, true, true, true, true, true, true, true, true, true, true, true, false, false] rfl rfl (any_of HT_.out (by kernel_rfl)) (fun _ _ _ h => h) (Or.inl ⟨by rfl, ?_⟩) ?_ ?_
  rotate_left
  · intro w'
    go_simp
    with_reducible rfl
  rotate_left
  · simp only [Act.put, List.setIfInBounds_toArray, List.set_cons_zero, List.set_cons_succ, i64_w, i32_w]
    rfl
  refine pure_ (i := 15) (N := some 18) (v := ?_) (a' := ?_) #[true, true, true, true, true, true, true, true, true, true, true, true, true, true, true, true, false] rfl rfl (any_of HT_.out (by kernel_rfl)) (fun _ _ _ h => h) (Or.inl ⟨by rfl, ?_⟩) ?_ ?_
  rotate_left
  · intro w'
    go_simp
    with_reducible rfl
  rotate_left
  · simp only [Act.put, List.setIfInBounds_toArray, List.set_cons_zero, List.set_cons_succ, i64_w, i32_w]
    rfl
  refine pure_ (i := 16) (N := some 2) (v := ?_) (a' := ?_) #[true, true, true, true, true, true, true, true, true, true, true, true, true, true, true, true, true] rfl rfl (any_of HT_.out (by kernel_rfl)) (fun _ _ _ h => h) (Or.inl ⟨by rfl, ?_⟩) ?_ ?_
  rotate_left
  · intro w'
    go_simp
    with_reducible rfl
  rotate_left
  · simp only [Act.put, List.setIfInBounds_toArray, List.set_cons_zero, List.set_cons_succ, i64_w, i32_w]
    rfl
  refine done_ (done_of HT_.out (by kernel_rfl)) ?_
  go_wp2_with fail
  go_ret
  exact ⟨by rw [HF.out]; exact ret_int (sz_wrap s.size x.2.size (by omega) hl), HH.out.2⟩

def digS (x : It) : ByteArray := hexS (halfL (bytesOf (idS x.1 ++ (⟨#[10]⟩ : ByteArray) ++ x.2)))
theorem digL_range (s : St) : ∀ x ∈ digL s, 0 ≤ x ∧ x ≤ 255 := by
  intro x hx
  simp only [digL, List.mem_flatMap, bytes4, List.mem_cons, List.not_mem_nil, or_false] at hx
  obtain ⟨y, _, h⟩ := hx
  omega
theorem halfL_range (b : List Int) : ∀ x ∈ halfL b, 0 ≤ x ∧ x ≤ 255 := fun x hx => digL_range _ x (List.mem_of_mem_take hx)
theorem bytesOf_range (s : ByteArray) : ∀ x ∈ bytesOf s, 0 ≤ x ∧ x ≤ 255 := by
  intro x hx
  simp only [bytesOf, List.mem_map] at hx
  obtain ⟨b, _, rfl⟩ := hx
  have := b.toNat_lt
  omega

set_option maxHeartbeats 4000000 in
set_option maxRecDepth 100000 in
theorem digest_any (x : It) (W : World) (hx : okId x.1) (hl : x.2.size ≤ 1000000) :
    Calls Tryz.prog 61 #[.agg (itV x)] W fun e w' => e = .returned (.string (digS x)) ∧ Below W.heap.size W w' := by
  obtain ⟨sI, hsI⟩ : ∃ sI, idS x.1 = sI := ⟨_, rfl⟩
  have hss : sI.size = 71 := by
    rw [← hsI]
    unfold idS
    rw [ByteArray.size_append, ByteArray.size_append, hexS_size, hx.1]; rfl
  have HMP := Aside0.mk (show ∀ W, Calls Tryz.prog 70 #[.agg (u8s x.1)] W fun e w' => e = .returned (.string sI) ∧ Below W.heap.size W w' from fun W => hsI ▸ mprint_any x.1 W hx.1 hx.2)
  have HDG := Aside0.mk (show digS x = hexS (halfL (bytesOf (sI ++ (⟨#[10]⟩ : ByteArray) ++ x.2))) by unfold digS; rw [hsI])
  have hsz : (sI ++ (⟨#[10]⟩ : ByteArray) ++ x.2).size = x.2.size + 72 := by
    rw [ByteArray.size_append, ByteArray.size_append, hss]
    show 71 + 1 + x.2.size = _
    omega
  have HSZ : Aside0 ((sI ++ (⟨#[10]⟩ : ByteArray) ++ x.2).size ≤ 9223372036854775807) := ⟨by omega⟩
  have HLB : Aside0 ((bytesOf (sI ++ (⟨#[10]⟩ : ByteArray) ++ x.2)).length ≤ 1500000) := ⟨by rw [bytesOf_length]; omega⟩
  have HRB := Aside0.mk (bytesOf_range (sI ++ (⟨#[10]⟩ : ByteArray) ++ x.2))
  have HHR := Aside0.mk (halfL_range (bytesOf (sI ++ (⟨#[10]⟩ : ByteArray) ++ x.2)))
  have h9 : ¬ 9223372036854775807 < 72 + x.2.size := by omega
  clear hsI hsz
  have HX := Aside0.mk hx
  have hvs : Aside0 ((itV x).size = 33) := ⟨itV_size hx⟩
  have hv1 : Aside0 ((itV x).all (·.oneCell') = true) := ⟨itV_one x⟩
  clear hx
  go_enter Tryz.func61, Tryz.ntmps61
  go_wp2_with (first
    | ((with_reducible refine gate_dst (N := 1) rfl ?_); refine box_blk rfl rfl rfl rfl (by rw [hvs.out]; exact size39) hv1.out ?_; intro g w1 hg hz hb'; have Z1 := Aside0.mk hz; have B1 := Aside0.mk hb'; clear hg hz hb'))
  refine start_ (n := 11) (S := fun w' => Blk w' g (itV x) 39 ∧ Below W.heap.size W w') (ds := [10]) #[false, false, false, false, false, false, false, false, false, false, false] (by kernel_rfl) rfl rfl ⟨Z1.out, below_drew B1.out⟩ (fun hHeld => ?_)
  refine with_tabW r61_1.tab r61_1.bits (fun HT_ HW_ => ?_)
  generalize w1.drew = wd at hHeld ⊢
  have HH := Aside0.mk hHeld
  clear hHeld
  refine pure_ (i := 0) (N := some 4) (v := ?_) (a' := ?_) #[true, false, false, false, false, false, false, false, false, false, false] rfl rfl (any_of HT_.out (by kernel_rfl)) (fun _ _ _ h => h) (Or.inl ⟨by rfl, ?_⟩) ?_ ?_
  rotate_left
  · intro w'
    go_simp
    with_reducible rfl
  rotate_left
  · simp only [Act.put, List.setIfInBounds_toArray, List.set_cons_zero, List.set_cons_succ, i64_w, i32_w]
    rfl
  refine pure_ (i := 4) (N := some 8) (v := ?_) (a' := ?_) #[true, false, false, false, true, false, false, false, false, false, false] rfl rfl (any_of HT_.out (by kernel_rfl)) (fun _ _ _ h => h) (Or.inl ⟨by rfl, ?_⟩) ?_ ?_
  rotate_left
  · intro w'
    go_simp
    with_reducible rfl
  rotate_left
  · simp only [Act.put, List.setIfInBounds_toArray, List.set_cons_zero, List.set_cons_succ, i64_w, i32_w]
    rfl
  refine take_ (i := 1) (N := some 5) (v := .agg (u8s x.1)) (a' := ?_) #[true, true, false, false, true, false, false, false, false, false, false] rfl rfl (take_ofW HT_.out HW_.out (by kernel_rfl)) (fun _ _ _ h => h) ?_ HH.out ?_ ?_
  · exact yields_id (by rfl) rfl rfl (fun w h => h.1) HX.out Tryz.underlying37 rfl size37
  rotate_left
  · simp only [Act.put, List.setIfInBounds_toArray, List.set_cons_zero, List.set_cons_succ, i64_w, i32_w]
    rfl
  refine take_ (i := 5) (N := some 9) (v := ?_) (a' := ?_) #[true, true, false, false, true, true, false, false, false, false, false] rfl rfl (take_ofW HT_.out HW_.out (by kernel_rfl)) (fun _ _ _ h => h) (Or.inl ⟨by rfl, ?_⟩) HH.out ?_ ?_
  rotate_left
  · intro w' hS'
    have hc32 := it_str_cell hS'.1 HX.out
    go_simp
    with_reducible rfl
  rotate_left
  · simp only [Act.put, List.setIfInBounds_toArray, List.set_cons_zero, List.set_cons_succ, i64_w, i32_w]
    rfl
  refine two_ (i := 2) (j := 9) (Ni := some 6) (Nj := some 3) #[true, true, true, false, true, true, false, false, false, false, false] #[true, true, false, false, true, true, false, false, false, true, false] rfl rfl rfl rfl (two_of HT_.out (by kernel_rfl)) (by decide) (by decide) (fun K hK => ?_) (fun K hK => ?_)
  · refine goes_ Tryz.func70 (by kernel_rfl) rfl #[.agg (u8s x.1)] (by rfl) rfl rfl (by simp only [List.map_toArray, List.map_cons, List.map_nil]; rfl) ?_
    refine (HMP.out _).mono ?_
    rintro e w' ⟨rfl, hb⟩
    refine ⟨_, rfl, hK.out _ _ ⟨HH.out.1.below hb, below_step HH.out.2 hb⟩ (fun hHeld => ?_)⟩
    try (have HZ2 := Aside0.mk (HZ.out.below hb); clear HZ; have HZ := HZ2; clear HZ2)
    try (have HC2 := Aside0.mk (Kd.C_below HC.out hb); clear HC; have HC := HC2; clear HC2)
    have HH2 := Aside0.mk hHeld
    clear hHeld HH
    have HH := HH2
    clear HH2
    try clear hb
    try clear hK K
    refine norm_ (a' := ?_) ?_ ?_
    rotate_left
    · show Act.put _ (some 6) _ = _
      simp only [Act.put, List.setIfInBounds_toArray, List.set_cons_zero, List.set_cons_succ, i64_w, i32_w]
      rfl
    refine pure_ (i := 3) (N := some 7) (v := ?_) (a' := ?_) #[true, true, true, true, true, true, false, false, false, false, false] rfl rfl (any_of HT_.out (by kernel_rfl)) (fun _ _ _ h => h) (Or.inl ⟨by rfl, ?_⟩) ?_ ?_
    rotate_left
    · intro w'
      go_simp
      with_reducible rfl
    rotate_left
    · simp only [Act.put, List.setIfInBounds_toArray, List.set_cons_zero, List.set_cons_succ, i64_w, i32_w]
      rfl
    refine pure_ (i := 6) (N := some 10) (v := ?_) (a' := ?_) #[true, true, true, true, true, true, true, false, false, false, false] rfl rfl (any_of HT_.out (by kernel_rfl)) (fun _ _ _ h => h) (Or.inl ⟨by rfl, ?_⟩) ?_ ?_
    rotate_left
    · intro w'
      go_simp
      with_reducible rfl
    rotate_left
    · simp only [Act.put, List.setIfInBounds_toArray, List.set_cons_zero, List.set_cons_succ, i64_w, i32_w]
      rfl
    refine two_ (i := 7) (j := 9) (Ni := some 11) (Nj := some 3) #[true, true, true, true, true, true, true, true, false, false, false] #[true, true, true, true, true, true, true, false, false, true, false] rfl rfl rfl rfl (two_of HT_.out (by kernel_rfl)) (by decide) (by decide) (fun K hK => ?_) (fun K hK => ?_)
    · refine bytes_step (s := sI ++ (⟨#[10]⟩ : ByteArray) ++ x.2) (by rfl) rfl rfl Tryz.underlying9 Tryz.underlying26 Tryz.underlying5 HSZ.out ?_
      intro A7 c7 w' _ hC hb
      refine hK.out _ _ ⟨HH.out.1.below hb, below_step HH.out.2 hb⟩ (fun hHeld => ?_)
      have HC := Aside0.mk hC
      clear hC
      try (have HZ2 := Aside0.mk (HZ.out.below hb); clear HZ; have HZ := HZ2; clear HZ2)
      have HH2 := Aside0.mk hHeld
      clear hHeld HH
      have HH := HH2
      clear HH2
      try clear hb
      try clear hK K
      refine norm_ (a' := ?_) ?_ ?_
      rotate_left
      · show Act.put _ (some 11) _ = _
        simp only [Act.put, List.setIfInBounds_toArray, List.set_cons_zero, List.set_cons_succ, i64_w, i32_w]
        rfl
      refine two_ (i := 8) (j := 9) (Ni := some 12) (Nj := some 3) #[true, true, true, true, true, true, true, true, true, false, false] #[true, true, true, true, true, true, true, true, false, true, false] rfl rfl rfl rfl (two_of HT_.out (by kernel_rfl)) (by decide) (by decide) (fun K hK => ?_) (fun K hK => ?_)
      · refine goes_ Tryz.func81 (by kernel_rfl) rfl #[.slice A7 (sI ++ (⟨#[10]⟩ : ByteArray) ++ x.2).size c7] (by rfl) rfl rfl (by simp only [List.map_toArray, List.map_cons, List.map_nil]; rfl) ?_
        refine (half_any A7 _ c7 (bytesOf (sI ++ (⟨#[10]⟩ : ByteArray) ++ x.2)) _ (by rw [bytesOf_length]; exact HC.out) (bytesOf_length _).symm HLB.out HRB.out).mono ?_
        rintro e w' ⟨rfl, hb⟩
        refine ⟨_, rfl, hK.out _ _ ⟨HH.out.1.below hb, below_step HH.out.2 hb⟩ (fun hHeld => ?_)⟩
        try (have HZ2 := Aside0.mk (HZ.out.below hb); clear HZ; have HZ := HZ2; clear HZ2)
        have HH2 := Aside0.mk hHeld
        clear hHeld HH
        have HH := HH2
        clear HH2
        try clear hb
        try clear hK K
        refine norm_ (a' := ?_) ?_ ?_
        rotate_left
        · show Act.put _ (some 12) _ = _
          simp only [Act.put, List.setIfInBounds_toArray, List.set_cons_zero, List.set_cons_succ, i64_w, i32_w]
          rfl
        refine one_ (i := 9) (N := some 3) #[true, true, true, true, true, true, true, true, true, true, false] rfl rfl (one_of HT_.out (by kernel_rfl)) (by decide) (fun K hK => ?_)
        refine alloc_blk_step (by rfl) rfl rfl zero132 ?_
        intro g3 w' hg3 hz hb
        refine hK.out _ _ ⟨HH.out.1.below hb, below_step HH.out.2 hb⟩ (fun hHeld => ?_)
        have HG3 := Aside0.mk (show W.heap.size ≤ g3 by rw [hg3]; exact HH.out.2.size)
        try (have HC2 := Aside0.mk (Kd.C_below HC.out hb); clear HC; have HC := HC2; clear HC2)
        have HZ := Aside0.mk hz
        clear hz hg3
        have HH2 := Aside0.mk hHeld
        clear hHeld HH
        have HH := HH2
        clear HH2
        try clear hb
        try clear hK K
        refine norm_ (a' := ?_) ?_ ?_
        rotate_left
        · show Act.put _ (some 3) _ = _
          simp only [Act.put, List.setIfInBounds_toArray, List.set_cons_zero, List.set_cons_succ, i64_w, i32_w]
          rfl
        refine last_ (i := 10) (N := none) #[true, true, true, true, true, true, true, true, true, true, true] rfl rfl (one_of HT_.out (by kernel_rfl)) (by decide) (fun K hK => ?_)
        refine store_blk_l_step (by rfl) rfl rfl rfl rfl HZ.out (by rw [u8s_size, halfL_length]; exact size132) (by rw [u8s_size, u8s_size, halfL_length]; rfl) (u8s_one _) ?_
        intro w' hz hb _
        refine hK.out _ _ ?_
        have HB := Aside0.mk (hb _ _ HG3.out HH.out.2)
        clear HZ
        have HZ := Aside0.mk hz
        clear hz hb
        try clear hK K
        refine done_ (done_of HT_.out (by kernel_rfl)) ?_
        go_wp2_with fail
        refine (hexTo_any _ 16 16 (halfL (bytesOf (sI ++ (⟨#[10]⟩ : ByteArray) ++ x.2))) _ _ (halfL_length _).symm (C_of_blk HZ.out (by rw [halfL_length]; decide)) HHR.out (by rw [halfL_length]; decide) rfl).mono ?_
        rintro e w9 ⟨rfl, hb9⟩
        have HB9 := Aside0.mk (below_step HB.out hb9)
        clear hb9
        go_wp2_with fail
        go_ret
        exact ⟨by rw [HDG.out]; rfl, HB9.out⟩
      · refine alloc_blk_step (by rfl) rfl rfl zero132 ?_
        intro g3 w' hg3 hz hb
        refine hK.out _ _ ⟨HH.out.1.below hb, below_step HH.out.2 hb⟩ (fun hHeld => ?_)
        have HG3 := Aside0.mk (show W.heap.size ≤ g3 by rw [hg3]; exact HH.out.2.size)
        try (have HC2 := Aside0.mk (Kd.C_below HC.out hb); clear HC; have HC := HC2; clear HC2)
        have HZ := Aside0.mk hz
        clear hz hg3
        have HH2 := Aside0.mk hHeld
        clear hHeld HH
        have HH := HH2
        clear HH2
        try clear hb
        try clear hK K
        refine norm_ (a' := ?_) ?_ ?_
        rotate_left
        · show Act.put _ (some 3) _ = _
          simp only [Act.put, List.setIfInBounds_toArray, List.set_cons_zero, List.set_cons_succ, i64_w, i32_w]
          rfl
        refine one_ (i := 8) (N := some 12) #[true, true, true, true, true, true, true, true, true, true, false] rfl rfl (one_of HT_.out (by kernel_rfl)) (by decide) (fun K hK => ?_)
        refine goes_ Tryz.func81 (by kernel_rfl) rfl #[.slice A7 (sI ++ (⟨#[10]⟩ : ByteArray) ++ x.2).size c7] (by rfl) rfl rfl (by simp only [List.map_toArray, List.map_cons, List.map_nil]; rfl) ?_
        refine (half_any A7 _ c7 (bytesOf (sI ++ (⟨#[10]⟩ : ByteArray) ++ x.2)) _ (by rw [bytesOf_length]; exact HC.out) (bytesOf_length _).symm HLB.out HRB.out).mono ?_
        rintro e w' ⟨rfl, hb⟩
        refine ⟨_, rfl, hK.out _ _ ⟨HH.out.1.below hb, below_step HH.out.2 hb⟩ (fun hHeld => ?_)⟩
        try (have HZ2 := Aside0.mk (HZ.out.below hb); clear HZ; have HZ := HZ2; clear HZ2)
        have HH2 := Aside0.mk hHeld
        clear hHeld HH
        have HH := HH2
        clear HH2
        try clear hb
        try clear hK K
        refine norm_ (a' := ?_) ?_ ?_
        rotate_left
        · show Act.put _ (some 12) _ = _
          simp only [Act.put, List.setIfInBounds_toArray, List.set_cons_zero, List.set_cons_succ, i64_w, i32_w]
          rfl
        refine last_ (i := 10) (N := none) #[true, true, true, true, true, true, true, true, true, true, true] rfl rfl (one_of HT_.out (by kernel_rfl)) (by decide) (fun K hK => ?_)
        refine store_blk_l_step (by rfl) rfl rfl rfl rfl HZ.out (by rw [u8s_size, halfL_length]; exact size132) (by rw [u8s_size, u8s_size, halfL_length]; rfl) (u8s_one _) ?_
        intro w' hz hb _
        refine hK.out _ _ ?_
        have HB := Aside0.mk (hb _ _ HG3.out HH.out.2)
        clear HZ
        have HZ := Aside0.mk hz
        clear hz hb
        try clear hK K
        refine done_ (done_of HT_.out (by kernel_rfl)) ?_
        go_wp2_with fail
        refine (hexTo_any _ 16 16 (halfL (bytesOf (sI ++ (⟨#[10]⟩ : ByteArray) ++ x.2))) _ _ (halfL_length _).symm (C_of_blk HZ.out (by rw [halfL_length]; decide)) HHR.out (by rw [halfL_length]; decide) rfl).mono ?_
        rintro e w9 ⟨rfl, hb9⟩
        have HB9 := Aside0.mk (below_step HB.out hb9)
        clear hb9
        go_wp2_with fail
        go_ret
        exact ⟨by rw [HDG.out]; rfl, HB9.out⟩
    · refine alloc_blk_step (by rfl) rfl rfl zero132 ?_
      intro g3 w' hg3 hz hb
      refine hK.out _ _ ⟨HH.out.1.below hb, below_step HH.out.2 hb⟩ (fun hHeld => ?_)
      have HG3 := Aside0.mk (show W.heap.size ≤ g3 by rw [hg3]; exact HH.out.2.size)
      try (have HC2 := Aside0.mk (Kd.C_below HC.out hb); clear HC; have HC := HC2; clear HC2)
      have HZ := Aside0.mk hz
      clear hz hg3
      have HH2 := Aside0.mk hHeld
      clear hHeld HH
      have HH := HH2
      clear HH2
      try clear hb
      try clear hK K
      refine norm_ (a' := ?_) ?_ ?_
      rotate_left
      · show Act.put _ (some 3) _ = _
        simp only [Act.put, List.setIfInBounds_toArray, List.set_cons_zero, List.set_cons_succ, i64_w, i32_w]
        rfl
      refine one_ (i := 7) (N := some 11) #[true, true, true, true, true, true, true, true, false, true, false] rfl rfl (one_of HT_.out (by kernel_rfl)) (by decide) (fun K hK => ?_)
      refine bytes_step (s := sI ++ (⟨#[10]⟩ : ByteArray) ++ x.2) (by rfl) rfl rfl Tryz.underlying9 Tryz.underlying26 Tryz.underlying5 HSZ.out ?_
      intro A7 c7 w' _ hC hb
      refine hK.out _ _ ⟨HH.out.1.below hb, below_step HH.out.2 hb⟩ (fun hHeld => ?_)
      have HC := Aside0.mk hC
      clear hC
      try (have HZ2 := Aside0.mk (HZ.out.below hb); clear HZ; have HZ := HZ2; clear HZ2)
      have HH2 := Aside0.mk hHeld
      clear hHeld HH
      have HH := HH2
      clear HH2
      try clear hb
      try clear hK K
      refine norm_ (a' := ?_) ?_ ?_
      rotate_left
      · show Act.put _ (some 11) _ = _
        simp only [Act.put, List.setIfInBounds_toArray, List.set_cons_zero, List.set_cons_succ, i64_w, i32_w]
        rfl
      refine one_ (i := 8) (N := some 12) #[true, true, true, true, true, true, true, true, true, true, false] rfl rfl (one_of HT_.out (by kernel_rfl)) (by decide) (fun K hK => ?_)
      refine goes_ Tryz.func81 (by kernel_rfl) rfl #[.slice A7 (sI ++ (⟨#[10]⟩ : ByteArray) ++ x.2).size c7] (by rfl) rfl rfl (by simp only [List.map_toArray, List.map_cons, List.map_nil]; rfl) ?_
      refine (half_any A7 _ c7 (bytesOf (sI ++ (⟨#[10]⟩ : ByteArray) ++ x.2)) _ (by rw [bytesOf_length]; exact HC.out) (bytesOf_length _).symm HLB.out HRB.out).mono ?_
      rintro e w' ⟨rfl, hb⟩
      refine ⟨_, rfl, hK.out _ _ ⟨HH.out.1.below hb, below_step HH.out.2 hb⟩ (fun hHeld => ?_)⟩
      try (have HZ2 := Aside0.mk (HZ.out.below hb); clear HZ; have HZ := HZ2; clear HZ2)
      have HH2 := Aside0.mk hHeld
      clear hHeld HH
      have HH := HH2
      clear HH2
      try clear hb
      try clear hK K
      refine norm_ (a' := ?_) ?_ ?_
      rotate_left
      · show Act.put _ (some 12) _ = _
        simp only [Act.put, List.setIfInBounds_toArray, List.set_cons_zero, List.set_cons_succ, i64_w, i32_w]
        rfl
      refine last_ (i := 10) (N := none) #[true, true, true, true, true, true, true, true, true, true, true] rfl rfl (one_of HT_.out (by kernel_rfl)) (by decide) (fun K hK => ?_)
      refine store_blk_l_step (by rfl) rfl rfl rfl rfl HZ.out (by rw [u8s_size, halfL_length]; exact size132) (by rw [u8s_size, u8s_size, halfL_length]; rfl) (u8s_one _) ?_
      intro w' hz hb _
      refine hK.out _ _ ?_
      have HB := Aside0.mk (hb _ _ HG3.out HH.out.2)
      clear HZ
      have HZ := Aside0.mk hz
      clear hz hb
      try clear hK K
      refine done_ (done_of HT_.out (by kernel_rfl)) ?_
      go_wp2_with fail
      refine (hexTo_any _ 16 16 (halfL (bytesOf (sI ++ (⟨#[10]⟩ : ByteArray) ++ x.2))) _ _ (halfL_length _).symm (C_of_blk HZ.out (by rw [halfL_length]; decide)) HHR.out (by rw [halfL_length]; decide) rfl).mono ?_
      rintro e w9 ⟨rfl, hb9⟩
      have HB9 := Aside0.mk (below_step HB.out hb9)
      clear hb9
      go_wp2_with fail
      go_ret
      exact ⟨by rw [HDG.out]; rfl, HB9.out⟩
  · refine alloc_blk_step (by rfl) rfl rfl zero132 ?_
    intro g3 w' hg3 hz hb
    refine hK.out _ _ ⟨HH.out.1.below hb, below_step HH.out.2 hb⟩ (fun hHeld => ?_)
    have HG3 := Aside0.mk (show W.heap.size ≤ g3 by rw [hg3]; exact HH.out.2.size)
    try (have HC2 := Aside0.mk (Kd.C_below HC.out hb); clear HC; have HC := HC2; clear HC2)
    have HZ := Aside0.mk hz
    clear hz hg3
    have HH2 := Aside0.mk hHeld
    clear hHeld HH
    have HH := HH2
    clear HH2
    try clear hb
    try clear hK K
    refine norm_ (a' := ?_) ?_ ?_
    rotate_left
    · show Act.put _ (some 3) _ = _
      simp only [Act.put, List.setIfInBounds_toArray, List.set_cons_zero, List.set_cons_succ, i64_w, i32_w]
      rfl
    refine one_ (i := 2) (N := some 6) #[true, true, true, false, true, true, false, false, false, true, false] rfl rfl (one_of HT_.out (by kernel_rfl)) (by decide) (fun K hK => ?_)
    refine goes_ Tryz.func70 (by kernel_rfl) rfl #[.agg (u8s x.1)] (by rfl) rfl rfl (by simp only [List.map_toArray, List.map_cons, List.map_nil]; rfl) ?_
    refine (HMP.out _).mono ?_
    rintro e w' ⟨rfl, hb⟩
    refine ⟨_, rfl, hK.out _ _ ⟨HH.out.1.below hb, below_step HH.out.2 hb⟩ (fun hHeld => ?_)⟩
    try (have HZ2 := Aside0.mk (HZ.out.below hb); clear HZ; have HZ := HZ2; clear HZ2)
    try (have HC2 := Aside0.mk (Kd.C_below HC.out hb); clear HC; have HC := HC2; clear HC2)
    have HH2 := Aside0.mk hHeld
    clear hHeld HH
    have HH := HH2
    clear HH2
    try clear hb
    try clear hK K
    refine norm_ (a' := ?_) ?_ ?_
    rotate_left
    · show Act.put _ (some 6) _ = _
      simp only [Act.put, List.setIfInBounds_toArray, List.set_cons_zero, List.set_cons_succ, i64_w, i32_w]
      rfl
    refine pure_ (i := 3) (N := some 7) (v := ?_) (a' := ?_) #[true, true, true, true, true, true, false, false, false, true, false] rfl rfl (any_of HT_.out (by kernel_rfl)) (fun _ _ _ h => h) (Or.inl ⟨by rfl, ?_⟩) ?_ ?_
    rotate_left
    · intro w'
      go_simp
      with_reducible rfl
    rotate_left
    · simp only [Act.put, List.setIfInBounds_toArray, List.set_cons_zero, List.set_cons_succ, i64_w, i32_w]
      rfl
    refine pure_ (i := 6) (N := some 10) (v := ?_) (a' := ?_) #[true, true, true, true, true, true, true, false, false, true, false] rfl rfl (any_of HT_.out (by kernel_rfl)) (fun _ _ _ h => h) (Or.inl ⟨by rfl, ?_⟩) ?_ ?_
    rotate_left
    · intro w'
      go_simp
      with_reducible rfl
    rotate_left
    · simp only [Act.put, List.setIfInBounds_toArray, List.set_cons_zero, List.set_cons_succ, i64_w, i32_w]
      rfl
    refine one_ (i := 7) (N := some 11) #[true, true, true, true, true, true, true, true, false, true, false] rfl rfl (one_of HT_.out (by kernel_rfl)) (by decide) (fun K hK => ?_)
    refine bytes_step (s := sI ++ (⟨#[10]⟩ : ByteArray) ++ x.2) (by rfl) rfl rfl Tryz.underlying9 Tryz.underlying26 Tryz.underlying5 HSZ.out ?_
    intro A7 c7 w' _ hC hb
    refine hK.out _ _ ⟨HH.out.1.below hb, below_step HH.out.2 hb⟩ (fun hHeld => ?_)
    have HC := Aside0.mk hC
    clear hC
    try (have HZ2 := Aside0.mk (HZ.out.below hb); clear HZ; have HZ := HZ2; clear HZ2)
    have HH2 := Aside0.mk hHeld
    clear hHeld HH
    have HH := HH2
    clear HH2
    try clear hb
    try clear hK K
    refine norm_ (a' := ?_) ?_ ?_
    rotate_left
    · show Act.put _ (some 11) _ = _
      simp only [Act.put, List.setIfInBounds_toArray, List.set_cons_zero, List.set_cons_succ, i64_w, i32_w]
      rfl
    refine one_ (i := 8) (N := some 12) #[true, true, true, true, true, true, true, true, true, true, false] rfl rfl (one_of HT_.out (by kernel_rfl)) (by decide) (fun K hK => ?_)
    refine goes_ Tryz.func81 (by kernel_rfl) rfl #[.slice A7 (sI ++ (⟨#[10]⟩ : ByteArray) ++ x.2).size c7] (by rfl) rfl rfl (by simp only [List.map_toArray, List.map_cons, List.map_nil]; rfl) ?_
    refine (half_any A7 _ c7 (bytesOf (sI ++ (⟨#[10]⟩ : ByteArray) ++ x.2)) _ (by rw [bytesOf_length]; exact HC.out) (bytesOf_length _).symm HLB.out HRB.out).mono ?_
    rintro e w' ⟨rfl, hb⟩
    refine ⟨_, rfl, hK.out _ _ ⟨HH.out.1.below hb, below_step HH.out.2 hb⟩ (fun hHeld => ?_)⟩
    try (have HZ2 := Aside0.mk (HZ.out.below hb); clear HZ; have HZ := HZ2; clear HZ2)
    have HH2 := Aside0.mk hHeld
    clear hHeld HH
    have HH := HH2
    clear HH2
    try clear hb
    try clear hK K
    refine norm_ (a' := ?_) ?_ ?_
    rotate_left
    · show Act.put _ (some 12) _ = _
      simp only [Act.put, List.setIfInBounds_toArray, List.set_cons_zero, List.set_cons_succ, i64_w, i32_w]
      rfl
    refine last_ (i := 10) (N := none) #[true, true, true, true, true, true, true, true, true, true, true] rfl rfl (one_of HT_.out (by kernel_rfl)) (by decide) (fun K hK => ?_)
    refine store_blk_l_step (by rfl) rfl rfl rfl rfl HZ.out (by rw [u8s_size, halfL_length]; exact size132) (by rw [u8s_size, u8s_size, halfL_length]; rfl) (u8s_one _) ?_
    intro w' hz hb _
    refine hK.out _ _ ?_
    have HB := Aside0.mk (hb _ _ HG3.out HH.out.2)
    clear HZ
    have HZ := Aside0.mk hz
    clear hz hb
    try clear hK K
    refine done_ (done_of HT_.out (by kernel_rfl)) ?_
    go_wp2_with fail
    refine (hexTo_any _ 16 16 (halfL (bytesOf (sI ++ (⟨#[10]⟩ : ByteArray) ++ x.2))) _ _ (halfL_length _).symm (C_of_blk HZ.out (by rw [halfL_length]; decide)) HHR.out (by rw [halfL_length]; decide) rfl).mono ?_
    rintro e w9 ⟨rfl, hb9⟩
    have HB9 := Aside0.mk (below_step HB.out hb9)
    clear hb9
    go_wp2_with fail
    go_ret
    exact ⟨by rw [HDG.out]; rfl, HB9.out⟩

end Go.Proofs.YtceopllngemnnaaGreatDoor


/-
  Numbers and hexadecimal of the document's answer: what they return. For strings of up to 300 bytes. (Turned from the texts on package ascii.)
-/
namespace Go.Proofs.YtceopllngemnnaaGreatDoor
open Go.RowKit Go.Proofs.YtceopllngemnnaaGreatDoorW.PrintWords Go.Proofs.YtceopllngemnnaaGreatDoorW.PrintLast Go.Proofs.YtceopllngemnnaaGreatDoorW.PrintMore Go.Proofs.YtceopllngemnnaaGreatDoor.PRef

theorem wrap_succ (n : Nat) (h : n ≤ 4000000) : wrap64 ((n : Int) + 1) = ((n + 1 : Nat) : Int) := by unfold wrap64; omega

theorem u64_wrap (n : Int) (h0 : 0 ≤ n) (h1 : n < 18446744073709551616) : IntKind.u64.wrap n = n := by
  simp only [IntKind.wrap, IntKind.bits, IntKind.signed]
  simp; omega

theorem append_data' (a b : ByteArray) : (a ++ b).data.toList = a.data.toList ++ b.data.toList := by rw [ByteArray.data_append, Array.toList_append]

theorem plain_f : ∀ (u k : Nat), u < 18446744073709551616 → u < k → bulletinref01_plain.f k (u : Int) = some (mkB (Lib.decDigits u)) ∧ (Lib.decDigits u).length ≤ u / 10 + 2 := by
  intro u
  induction u using Nat.strongRecOn with
  | ind u ih =>
    intro k hu hk
    obtain ⟨k, rfl⟩ : ∃ m, k = m + 1 := ⟨k - 1, by omega⟩
    simp only [bulletinref01_plain.f]
    rw [Lib.decDigits]
    by_cases h : u < 10
    · rw [if_pos (by omega), dif_pos h, u64_wrap _ (by omega) (by omega)]
      refine ⟨?_, by simp⟩
      have e : (48 + (u : Int)) % 256 = ((48 + u : Nat) : Int) := by omega
      rw [e]; rfl
    · rw [if_neg (by omega), dif_neg h]
      have e1 : Int.tdiv (u : Int) 10 = ((u / 10 : Nat) : Int) := by rw [Int.tdiv_eq_ediv_of_nonneg (by omega)]; omega
      have e2 : Int.tmod (u : Int) 10 = ((u % 10 : Nat) : Int) := by rw [Int.tmod_eq_emod_of_nonneg (by omega)]; omega
      obtain ⟨h1, h2⟩ := ih (u / 10) (by omega) k (by omega) (by omega)
      rw [e1, e2, u64_wrap _ (by omega) (by omega), h1]
      simp only [Option.bind_some]
      rw [u64_wrap _ (by omega) (by omega)]
      have e3 : (48 + ((u % 10 : Nat) : Int)) % 256 = ((48 + u % 10 : Nat) : Int) := by omega
      rw [e3, if_pos (by rw [mkB_size, strOfNums_size]; simp; omega)]
      refine ⟨?_, by simp; omega⟩
      congr 1

theorem refDigits_f (n : Int) (h0 : -9223372036854775808 ≤ n) (h1 : n ≤ 9223372036854775807) : ∃ k, bulletinref01_Digits.f k n = some (mkB (Lib.itoa n)) := by
  unfold bulletinref01_Digits.f Lib.itoa
  by_cases h : n < 0
  · have e1 : wrap64 (n + 1) = n + 1 := by unfold wrap64; omega
    have e2 : wrap64 (-(n + 1)) = -(n + 1) := by unfold wrap64; omega
    have e3 : IntKind.u64.wrap (-(n + 1)) = -(n + 1) := u64_wrap _ (by omega) (by omega)
    have e4 : IntKind.u64.wrap (-(n + 1) + 1) = (n.natAbs : Int) := by rw [u64_wrap _ (by omega) (by omega)]; omega
    obtain ⟨h2, h3⟩ := plain_f n.natAbs (n.natAbs + 1) (by omega) (by omega)
    refine ⟨n.natAbs + 1, ?_⟩
    rw [if_pos h, if_pos h, e1, e2, e3, e4, h2]
    simp only [Option.bind_some]
    rw [if_pos (by rw [mkB_size]; omega)]
    congr 1
  · have e4 : IntKind.u64.wrap n = (n.toNat : Int) := by rw [u64_wrap _ (by omega) (by omega)]; omega
    obtain ⟨h2, h3⟩ := plain_f n.toNat (n.toNat + 1) (by omega) (by omega)
    refine ⟨n.toNat + 1, ?_⟩
    rw [if_neg h, if_neg h, e4, h2]
    rfl

theorem refDigits_any (n : Int) (w : World) (h0 : -9223372036854775808 ≤ n) (h1 : n ≤ 9223372036854775807) :
    Calls Tryz.prog 33 #[.int .i64 n] w fun e w' => e = .returned (.string (mkB (Lib.itoa n))) ∧ Below w.heap.size w w' := by
  obtain ⟨k, hk⟩ := refDigits_f n h0 h1
  exact bulletinref01_Digits.calls k n _ w hk

theorem rhex_l0 (l : List Int) (hl : l.length ≤ 300) (hb : ∀ x ∈ l, 0 ≤ x ∧ x ≤ 255) : ∀ d i k, l.length - i = d → i ≤ l.length → d < k →
    bulletinref01_Hex.l0 k l (hexL (l.take i)) (i : Int) = some (hexS l) := by
  intro d
  induction d with
  | zero =>
    intro i k h1 h2 h3
    obtain ⟨k, rfl⟩ : ∃ m, k = m + 1 := ⟨k - 1, by omega⟩
    simp only [bulletinref01_Hex.l0]
    rw [if_neg (by omega), List.take_of_length_le (by omega)]
    rfl
  | succ d ih =>
    intro i k h1 h2 h3
    obtain ⟨k, rfl⟩ : ∃ m, k = m + 1 := ⟨k - 1, by omega⟩
    have hlt : i < l.length := by omega
    have hr : rd l (i : Int) = l[i] := by simp [rd, List.getD_eq_getElem?_getD, List.getElem?_eq_getElem hlt]
    have hx := hb l[i] (List.getElem_mem hlt)
    have e0 : l.take (i + 1) = l.take i ++ [l[i]] := by rw [List.take_succ_eq_append_getElem hlt]
    have := ih (i + 1) k (by omega) (by omega) (by omega)
    rw [e0, hexL_snoc] at this
    have hlen := hexL_length (l.take i)
    rw [List.length_take] at hlen
    generalize l[i] = x at hr hx this
    have e1 : IntKind.u8.wrap (Int.tdiv x 16) = x / 16 := by rw [Int.tdiv_eq_ediv_of_nonneg hx.1]; simp only [IntKind.wrap, IntKind.bits, IntKind.signed]; simp; omega
    have e2 : Int.tmod x 16 = x % 16 := by rw [Int.tmod_eq_emod_of_nonneg hx.1]
    simp only [bulletinref01_Hex.l0]
    rw [hr, e1, e2, if_pos (by omega), if_pos (by omega), if_pos (by omega), if_pos (by omega), if_pos (by omega), if_pos (by omega), wrap_succ i (by omega)]
    simp only [Option.bind_some]
    rw [if_pos (by rw [hlen]; simp; omega), ← this]
    simp only [List.append_assoc, List.cons_append, List.nil_append]
    rfl

theorem refHex_any (A : Option Addr) (c : Nat) (l : List Int) (w : World) (hC : Kd.C (Kd.int .u8) w A l.length l) (hc : l.length ≤ c) (hb : ∀ x ∈ l, 0 ≤ x ∧ x ≤ 255) (hl : l.length ≤ 300) :
    Calls Tryz.prog 50 #[.slice A l.length c] w fun e w' => e = .returned (.string (hexS l)) ∧ Below w.heap.size w w' :=
  bulletinref01_Hex.calls (l.length + 1) A c l _ w hC hc (by
    have := rhex_l0 l hl hb l.length 0 (l.length + 1) rfl (Nat.zero_le _) (by omega)
    simpa [hexL, bulletinref01_Hex.f] using this)

theorem refHexAt_any (A : Option Addr) (c m : Nat) (l : List Int) (w : World) (hm : m = l.length) (hC : Kd.C (Kd.int .u8) w A l.length l) (hc : m ≤ c) (hb : ∀ x ∈ l, 0 ≤ x ∧ x ≤ 255) (hl : m ≤ 300) :
    Calls Tryz.prog 50 #[.slice A m c] w fun e w' => e = .returned (.string (hexS l)) ∧ Below w.heap.size w w' := by
  subst hm
  exact refHex_any A c l w hC hc hb hl

theorem nibble_f (n : Int) (h0 : 0 ≤ n) (h1 : n ≤ 255) : bulletinref01_nibble.f n = some (nib n) := by
  have w1 : wrap64 n = n := by unfold wrap64; omega
  have w2 : wrap64 (n - 48) = n - 48 := by unfold wrap64; omega
  have w3 : wrap64 (n - 87) = n - 87 := by unfold wrap64; omega
  unfold bulletinref01_nibble.f bulletinref01_Digit.f nib
  rw [w1, w2, w3]
  by_cases a : n ≥ 48
  · rw [if_pos a]
    simp only [Option.bind_some, decide_eq_true_eq]
    by_cases b : n ≤ 57
    · rw [if_pos b, if_pos ⟨a, b⟩]
    · rw [if_neg b]
      by_cases c : n ≥ 97
      · rw [if_pos c]
        by_cases d : n ≤ 102
        · rw [if_pos d, if_neg (fun h => b h.2), if_pos ⟨c, d⟩]
        · rw [if_neg d, if_neg (fun h => b h.2), if_neg (fun h => d h.2)]
      · rw [if_neg c, if_neg (fun h => b h.2), if_neg (fun h => c h.1)]
  · rw [if_neg a]
    simp only [Option.bind_some]
    rw [if_neg (by simp), if_neg (by omega), if_neg (fun h => a h.1), if_neg (by omega)]

theorem two_nib (a b : Int) (ha : 0 ≤ a) (ha2 : a < 16) (hb : 0 ≤ b) (hb2 : b < 16) : wrap64 (wrap64 (16 * a) + b) % 256 = a * 16 + b := by
  have e1 : wrap64 (16 * a) = 16 * a := by unfold wrap64; omega
  have e2 : wrap64 (16 * a + b) = 16 * a + b := by unfold wrap64; omega
  rw [e1, e2]; omega

theorem wrap_two (i : Nat) (h : i ≤ 300) : wrap64 ((i : Int) + 2) = ((i + 2 : Nat) : Int) := by unfold wrap64; omega

theorem runhex_l0 (s : ByteArray) (hs : s.size ≤ 300) (hev : s.size % 2 = 0) : ∀ n i acc k f, s.size ≤ i + 2 * n → n < k → n < f → i ≤ s.size → i % 2 = 0 → acc.length ≤ i →
    bulletinref01_Unhex.l0 k s acc (i : Int) = some (unhexG s f i acc) := by
  intro n
  induction n with
  | zero =>
    intro i acc k f h1 h2 h3 h4 h5 h6
    obtain ⟨k, rfl⟩ : ∃ m, k = m + 1 := ⟨k - 1, by omega⟩
    obtain ⟨f, rfl⟩ : ∃ m, f = m + 1 := ⟨f - 1, by omega⟩
    simp only [bulletinref01_Unhex.l0, unhexG]
    rw [if_neg (by omega), if_neg (by omega)]
  | succ n ih =>
    intro i acc k f h1 h2 h3 h4 h5 h6
    obtain ⟨k, rfl⟩ : ∃ m, k = m + 1 := ⟨k - 1, by omega⟩
    obtain ⟨f, rfl⟩ : ∃ m, f = m + 1 := ⟨f - 1, by omega⟩
    simp only [bulletinref01_Unhex.l0, unhexG]
    by_cases hlt : i < s.size
    · have hlt2 : i + 1 < s.size := by omega
      have r1 := bt_range s (i : Int)
      have r2 := bt_range s ((i + 1 : Nat) : Int)
      rw [if_pos (by omega), if_pos (by omega), if_pos hlt, wrap_succ i (by omega), wrap_two i (by omega), nibble_f _ r1.1 r1.2, nibble_f _ r2.1 r2.2, valI_nib _ r1.1 r1.2, valI_nib _ r2.1 r2.2]
      have n1 := nib_lt (bt s (i : Int))
      have n2 := nib_lt (bt s ((i + 1 : Nat) : Int))
      generalize nib (bt s (i : Int)) = a at n1 ⊢
      generalize nib (bt s ((i + 1 : Nat) : Int)) = b at n2 ⊢
      simp only [Option.bind_some]
      rw [if_pos (by omega), if_pos (by omega)]
      by_cases ha : a < 0
      · rw [if_pos ha, if_pos (Or.inl ha)]
      · rw [if_neg ha]
        by_cases hb : b < 0
        · rw [if_pos hb, if_pos (Or.inr hb)]
        · rw [if_neg hb, if_pos (by omega), if_neg (by omega), two_nib a b (by omega) n1 (by omega) n2]
          exact ih (i + 2) _ k f (by omega) (by omega) (by omega) (by omega) (by omega) (by simp; omega)
    · rw [if_neg (by omega), if_neg hlt]

theorem refUnhex_any (s : ByteArray) (l : List Int) (e0 : Int) (w : World) (hs : s.size ≤ 300) (hu : unhexF s = (l, e0)) :
    Calls Tryz.prog 71 #[.string s] w fun e w' => ∃ v, e = .returned (.tuple #[v, .int .i64 e0]) ∧ Kd.R (Kd.int .u8) 5 w' w.heap.size (fun _ => True) v l ∧ Below w.heap.size w w' := by
  refine bulletinref01_Unhex.calls (s.size + 1) s l e0 w ?_
  unfold bulletinref01_Unhex.f
  rw [← hu]
  unfold unhexF
  by_cases h : s.size % 2 = 1
  · rw [if_pos (by omega), if_pos h]
  · rw [if_neg (by omega), if_neg h]
    exact runhex_l0 s hs (by omega) s.size 0 [] (s.size + 1) (s.size + 1) (by omega) (by omega) (by omega) (Nat.zero_le _) rfl (Nat.le_refl _)

theorem unhexOf_any (s : ByteArray) (l : List Int) (e0 : Int) (w : World) (hs : s.size ≤ 1000000) (hu : unhexF s = (l, e0)) :
    Calls Tryz.prog 79 #[.string s] w fun e w' => ∃ v, e = .returned (.tuple #[v, .int .i64 e0]) ∧ Kd.R (Kd.int .u8) 5 w' w.heap.size (fun _ => True) v l ∧ Below w.heap.size w w' := by
  have := unhex_any s w hs
  rw [hu] at this
  exact this

theorem rdigits_nat (n : Nat) (w : World) (h1 : n ≤ 1000000000) :
    Calls Tryz.prog 33 #[.int .i64 n] w fun e w' => e = .returned (.string (numB n)) ∧ Below w.heap.size w w' := by
  have := refDigits_any (n : Int) w (by omega) (by omega)
  rw [itoa_nat] at this
  exact this

end Go.Proofs.YtceopllngemnnaaGreatDoor


/-
  The text of an item, of the document's answer: what it returns. For texts of up to a million bytes.
-/
namespace Go.Proofs.YtceopllngemnnaaGreatDoor
open Go.RowKit Go.Proofs.YtceopllngemnnaaGreatDoorW.PrintWords Go.Proofs.YtceopllngemnnaaGreatDoorW.PrintLast Go.Proofs.YtceopllngemnnaaGreatDoorW.PrintMore Go.Proofs.YtceopllngemnnaaGreatDoor.PRef

theorem digS_size (x : It) : (digS x).size = 32 := by unfold digS; rw [hexS_size, halfL_length]
theorem idS_size71 {l : List Int} (h : l.length = 32) : (idS l).size = 71 := by
  unfold idS
  rw [ByteArray.size_append, ByteArray.size_append, hexS_size, h]; rfl
/-- The text of an item. -/
def itS (x : It) : ByteArray := (⟨#[97, 114, 116, 105, 99, 108, 101, 32]⟩ : ByteArray) ++ numB x.2.size ++ (⟨#[32]⟩ : ByteArray) ++ digS x ++ (⟨#[32]⟩ : ByteArray) ++ idS x.1 ++ (⟨#[10]⟩ : ByteArray) ++ x.2 ++ (⟨#[10]⟩ : ByteArray)
theorem lit8 : (⟨#[97, 114, 116, 105, 99, 108, 101, 32]⟩ : ByteArray).size = 8 := rfl
theorem lit32 : (⟨#[32]⟩ : ByteArray).size = 1 := rfl
theorem lit10 : (⟨#[10]⟩ : ByteArray).size = 1 := rfl
theorem exec_add {P : Program} {o : Oper} {a : Act} {x y : Operand} {s t : ByteArray} {ty ty2 : TypeId} (ho : o.op = .binOp .add ty x y ty2) (hx : a.eval x = .string s) (hy : a.eval y = .string t) (hu : P.underlying ty = some .string)
    (h : s.size + t.size ≤ 9223372036854775807) (w : World) : (execOp a.eval o).run P w = .ok (.value (.string (s ++ t))) w := by
  have h' : ¬ 9223372036854775807 < s.size + t.size := by omega
  have e : ∀ av yv : Value, av = .string s → yv = .string t → ((do let v ← (do eqGuard .add ty x y av yv; binOp .add ty av yv); pure (Next.value v)) : Sem Next).run P w = .ok (.value (.string (s ++ t))) w := by
    rintro _ _ rfl rfl
    go_simp
  have := e _ _ hx hy
  simpa only [execOp, ho] using this

/-! Region tables, printed by rg2.py. -/
def r26_1.T : Bool × List (List Nat × List Nat) := (true, [([], []), ([0], [0]), ([1], [1]), ([2], [2]), ([], []), ([4], [4]), ([3, 5], [3, 5]), ([6], [6]), ([7, 2], [7]), ([], []), ([9, 8, 8, 0, 1, 2, 3, 4, 5, 6, 7, 8, 9], [8, 9])])
def r26_1.B : List Nat := [0, 1, 3, 7, 0, 16, 63, 127, 255, 0, 1023]
theorem r26_1.tab : rtab .any (opsOf Tryz.f26 1) = r26_1.T := by kernel_rfl
theorem r26_1.bits : waitsOk r26_1.T.2 r26_1.B = true := by kernel_rfl
def r26_2.T : Bool × List (List Nat × List Nat) := (true, [([], []), ([0], [0]), ([1], [1]), ([2], [2]), ([3], [3]), ([4], [4]), ([], []), ([6, 3], [6]), ([5, 7], [5, 7]), ([8], [8]), ([], []), ([10], [10]), ([11, 7], [11]), ([9, 12], [9, 12]), ([13], [13]), ([], []), ([15], [15]), ([14, 16], [14, 16]), ([17], [17]), ([18, 12, 0, 1, 2, 3, 4, 5, 6, 7, 8, 9, 10, 11, 12, 13, 14, 15, 16, 17, 18], [18])])
def r26_2.B : List Nat := [0, 1, 3, 7, 15, 31, 0, 79, 255, 511, 0, 1024, 3279, 8191, 16383, 0, 32768, 131071, 262143, 524287]
theorem r26_2.tab : rtab .any (opsOf Tryz.f26 2) = r26_2.T := by kernel_rfl
theorem r26_2.bits : waitsOk r26_2.T.2 r26_2.B = true := by kernel_rfl

set_option maxHeartbeats 4000000 in
set_option maxRecDepth 100000 in
theorem ritem_any (x : It) (W : World) (hx : okId x.1) (hl : x.2.size ≤ 1000000) :
    Calls Tryz.prog 26 #[.agg (itV x)] W fun e w' => e = .returned (.string (itS x)) ∧ Below W.heap.size W w' := by
  obtain ⟨sI, hsI⟩ : ∃ sI, idS x.1 = sI := ⟨_, rfl⟩
  obtain ⟨sD, hsD⟩ : ∃ sD, digS x = sD := ⟨_, rfl⟩
  obtain ⟨sN, hsN⟩ : ∃ sN, numB x.2.size = sN := ⟨_, rfl⟩
  have hss : sI.size = 71 := by rw [← hsI]; exact idS_size71 hx.1
  have hsd : sD.size = 32 := by rw [← hsD]; exact digS_size x
  have hdl := dec_len x.2.size
  rw [← numB_size, hsN] at hdl
  have HMP := Aside0.mk (show ∀ W, Calls Tryz.prog 38 #[.agg (u8s x.1)] W fun e w' => e = .returned (.string sI) ∧ Below W.heap.size W w' from fun W => hsI ▸ rprint_any x.1 W hx.1 hx.2)
  have HD := Aside0.mk (fun w => hsN ▸ rdigits_nat x.2.size w (by omega))
  have hdg : sD = hexS (halfL (bytesOf (sI ++ (⟨#[10]⟩ : ByteArray) ++ x.2))) := by rw [← hsD]; unfold digS; rw [hsI]
  have HHX : Aside0 (∀ g3 W, Blk W g3 (u8s (shaL (bytesOf (sI ++ (⟨#[10]⟩ : ByteArray) ++ x.2)))) 33 → Calls Tryz.prog 50 #[.slice (some ⟨g3, 0, none⟩) 16 32] W fun e w' => e = .returned (.string sD) ∧ Below W.heap.size W w') := ⟨fun g3 W h => by
    have h16 : Kd.C (Kd.int .u8) W (some ⟨g3, 0, none⟩) (halfL (bytesOf (sI ++ (⟨#[10]⟩ : ByteArray) ++ x.2))).length (halfL (bytesOf (sI ++ (⟨#[10]⟩ : ByteArray) ++ x.2))) :=
      Kd.C_take (C_of_blk h (by rw [shaL_length]; decide)) (by rw [shaL_length]; omega)
    rw [hdg]
    exact refHexAt_any _ 32 16 _ W (halfL_length _).symm h16 (by omega) (halfL_range _) (by omega)⟩
  have HF := Aside0.mk (show itS x = (⟨#[97, 114, 116, 105, 99, 108, 101, 32]⟩ : ByteArray) ++ sN ++ (⟨#[32]⟩ : ByteArray) ++ sD ++ (⟨#[32]⟩ : ByteArray) ++ sI ++ (⟨#[10]⟩ : ByteArray) ++ x.2 ++ (⟨#[10]⟩ : ByteArray) by unfold itS; rw [hsI, hsN, hsD])
  have hsz : (sI ++ (⟨#[10]⟩ : ByteArray) ++ x.2).size = x.2.size + 72 := by
    rw [ByteArray.size_append, ByteArray.size_append, hss]
    show 71 + 1 + x.2.size = _
    omega
  have HSZ : Aside0 ((sI ++ (⟨#[10]⟩ : ByteArray) ++ x.2).size ≤ 9223372036854775807) := ⟨by omega⟩
  have HLB : Aside0 ((bytesOf (sI ++ (⟨#[10]⟩ : ByteArray) ++ x.2)).length ≤ 1500000) := ⟨by rw [bytesOf_length]; omega⟩
  have HRB := Aside0.mk (bytesOf_range (sI ++ (⟨#[10]⟩ : ByteArray) ++ x.2))
  have h9 : ¬ 9223372036854775807 < 72 + x.2.size := by omega
  have HX := Aside0.mk hx
  have hvs : Aside0 ((itV x).size = 33) := ⟨itV_size hx⟩
  have hv1 : Aside0 ((itV x).all (·.oneCell') = true) := ⟨itV_one x⟩
  clear hx hsI hsz hsD hsN hdg
  go_enter Tryz.func26, Tryz.ntmps26
  go_upto_region 1 with (first
    | ((with_reducible refine gate_dst (N := 1) rfl ?_); refine box_blk rfl rfl rfl rfl (by rw [hvs.out]; exact size36) hv1.out ?_; intro g w1 hg hz hb'; have Z1 := Aside0.mk hz; have B1 := Aside0.mk hb'; clear hg hz hb'))
  go_cut [3] (fun v3 wx => ∃ g3, v3 = .pointer (some ⟨g3, 0, none⟩) ∧ Blk wx g3 (u8s (shaL (bytesOf (sI ++ (⟨#[10]⟩ : ByteArray) ++ x.2)))) 33 ∧ Blk wx g (itV x) 36 ∧ Below W.heap.size W wx)
  case first =>
    refine start_ (n := 11) (S := fun w' => Blk w' g (itV x) 36 ∧ Below W.heap.size W w') (ds := [10]) #[false, false, false, false, false, false, false, false, false, false, false] (by kernel_rfl) rfl rfl ⟨Z1.out, below_drew B1.out⟩ (fun hHeld => ?_)
    refine with_tabW r26_1.tab r26_1.bits (fun HT_ HW_ => ?_)
    generalize w1.drew = wd at hHeld ⊢
    have HH := Aside0.mk hHeld
    clear hHeld
    refine pure_ (i := 0) (N := some 4) (v := ?_) (a' := ?_) #[true, false, false, false, false, false, false, false, false, false, false] rfl rfl (any_of HT_.out (by kernel_rfl)) (fun _ _ _ h => h) (Or.inl ⟨by rfl, ?_⟩) ?_ ?_
    rotate_left
    · intro w'
      go_simp
      with_reducible rfl
    rotate_left
    · simp only [Act.put, List.setIfInBounds_toArray, List.set_cons_zero, List.set_cons_succ, i64_w, i32_w]
      rfl
    refine pure_ (i := 4) (N := some 8) (v := ?_) (a' := ?_) #[true, false, false, false, true, false, false, false, false, false, false] rfl rfl (any_of HT_.out (by kernel_rfl)) (fun _ _ _ h => h) (Or.inl ⟨by rfl, ?_⟩) ?_ ?_
    rotate_left
    · intro w'
      go_simp
      with_reducible rfl
    rotate_left
    · simp only [Act.put, List.setIfInBounds_toArray, List.set_cons_zero, List.set_cons_succ, i64_w, i32_w]
      rfl
    refine take_ (i := 1) (N := some 5) (v := .agg (u8s x.1)) (a' := ?_) #[true, true, false, false, true, false, false, false, false, false, false] rfl rfl (take_ofW HT_.out HW_.out (by kernel_rfl)) (fun _ _ _ h => h) ?_ HH.out ?_ ?_
    · exact yields_id (by rfl) rfl rfl (fun w h => h.1) HX.out Tryz.underlying34 rfl size34
    rotate_left
    · simp only [Act.put, List.setIfInBounds_toArray, List.set_cons_zero, List.set_cons_succ, i64_w, i32_w]
      rfl
    refine take_ (i := 5) (N := some 9) (v := ?_) (a' := ?_) #[true, true, false, false, true, true, false, false, false, false, false] rfl rfl (take_ofW HT_.out HW_.out (by kernel_rfl)) (fun _ _ _ h => h) (Or.inl ⟨by rfl, ?_⟩) HH.out ?_ ?_
    rotate_left
    · intro w' hS'
      have hc32 := it_str_cell hS'.1 HX.out
      go_simp
      with_reducible rfl
    rotate_left
    · simp only [Act.put, List.setIfInBounds_toArray, List.set_cons_zero, List.set_cons_succ, i64_w, i32_w]
      rfl
    refine two_ (i := 2) (j := 9) (Ni := some 6) (Nj := some 3) #[true, true, true, false, true, true, false, false, false, false, false] #[true, true, false, false, true, true, false, false, false, true, false] rfl rfl rfl rfl (two_of HT_.out (by kernel_rfl)) (by decide) (by decide) (fun K hK => ?_) (fun K hK => ?_)
    · refine goes_ Tryz.func38 (by kernel_rfl) rfl #[.agg (u8s x.1)] (by rfl) rfl rfl (by simp only [List.map_toArray, List.map_cons, List.map_nil]; rfl) ?_
      refine (HMP.out _).mono ?_
      rintro e w' ⟨rfl, hb⟩
      refine ⟨_, rfl, hK.out _ _ ⟨HH.out.1.below hb, below_step HH.out.2 hb⟩ (fun hHeld => ?_)⟩
      try (have HZ2 := Aside0.mk (HZ.out.below hb); clear HZ; have HZ := HZ2; clear HZ2)
      try (have HC2 := Aside0.mk (Kd.C_below HC.out hb); clear HC; have HC := HC2; clear HC2)
      have HH2 := Aside0.mk hHeld
      clear hHeld HH
      have HH := HH2
      clear HH2
      try clear hb
      try clear hK K
      refine norm_ (a' := ?_) ?_ ?_
      rotate_left
      · show Act.put _ (some 6) _ = _
        simp only [Act.put, List.setIfInBounds_toArray, List.set_cons_zero, List.set_cons_succ, i64_w, i32_w]
        rfl
      refine pure_ (i := 3) (N := some 7) (v := ?_) (a' := ?_) #[true, true, true, true, true, true, false, false, false, false, false] rfl rfl (any_of HT_.out (by kernel_rfl)) (fun _ _ _ h => h) (Or.inl ⟨by rfl, ?_⟩) ?_ ?_
      rotate_left
      · intro w'
        go_simp
        with_reducible rfl
      rotate_left
      · simp only [Act.put, List.setIfInBounds_toArray, List.set_cons_zero, List.set_cons_succ, i64_w, i32_w]
        rfl
      refine pure_ (i := 6) (N := some 10) (v := ?_) (a' := ?_) #[true, true, true, true, true, true, true, false, false, false, false] rfl rfl (any_of HT_.out (by kernel_rfl)) (fun _ _ _ h => h) (Or.inl ⟨by rfl, ?_⟩) ?_ ?_
      rotate_left
      · intro w'
        go_simp
        with_reducible rfl
      rotate_left
      · simp only [Act.put, List.setIfInBounds_toArray, List.set_cons_zero, List.set_cons_succ, i64_w, i32_w]
        rfl
      refine two_ (i := 7) (j := 9) (Ni := some 11) (Nj := some 3) #[true, true, true, true, true, true, true, true, false, false, false] #[true, true, true, true, true, true, true, false, false, true, false] rfl rfl rfl rfl (two_of HT_.out (by kernel_rfl)) (by decide) (by decide) (fun K hK => ?_) (fun K hK => ?_)
      · refine bytes_step (s := (sI ++ (⟨#[10]⟩ : ByteArray) ++ x.2)) (by rfl) rfl rfl Tryz.underlying9 Tryz.underlying26 Tryz.underlying5 HSZ.out ?_
        intro A7 c7 w' hcc hC hb
        refine hK.out _ _ ⟨HH.out.1.below hb, below_step HH.out.2 hb⟩ (fun hHeld => ?_)
        have HC := Aside0.mk hC
        have HCC := Aside0.mk hcc
        clear hC hcc
        try (have HZ2 := Aside0.mk (HZ.out.below hb); clear HZ; have HZ := HZ2; clear HZ2)
        have HH2 := Aside0.mk hHeld
        clear hHeld HH
        have HH := HH2
        clear HH2
        try clear hb
        try clear hK K
        refine norm_ (a' := ?_) ?_ ?_
        rotate_left
        · show Act.put _ (some 11) _ = _
          simp only [Act.put, List.setIfInBounds_toArray, List.set_cons_zero, List.set_cons_succ, i64_w, i32_w]
          rfl
        refine two_ (i := 8) (j := 9) (Ni := some 12) (Nj := some 3) #[true, true, true, true, true, true, true, true, true, false, false] #[true, true, true, true, true, true, true, true, false, true, false] rfl rfl rfl rfl (two_of HT_.out (by kernel_rfl)) (by decide) (by decide) (fun K hK => ?_) (fun K hK => ?_)
        · refine goes_ Tryz.func37 (by kernel_rfl) rfl #[.slice A7 (sI ++ (⟨#[10]⟩ : ByteArray) ++ x.2).size c7] (by rfl) rfl rfl (by simp only [List.map_toArray, List.map_cons, List.map_nil]; rfl) ?_
          refine (rsum_any A7 _ c7 (bytesOf (sI ++ (⟨#[10]⟩ : ByteArray) ++ x.2)) _ (by rw [bytesOf_length]; exact HC.out) (bytesOf_length _).symm (by rw [bytesOf_length]; exact HCC.out) HLB.out HRB.out).mono ?_
          rintro e w' ⟨rfl, hb⟩
          refine ⟨_, rfl, hK.out _ _ ⟨HH.out.1.below hb, below_step HH.out.2 hb⟩ (fun hHeld => ?_)⟩
          try (have HZ2 := Aside0.mk (HZ.out.below hb); clear HZ; have HZ := HZ2; clear HZ2)
          have HH2 := Aside0.mk hHeld
          clear hHeld HH
          have HH := HH2
          clear HH2
          try clear hb
          try clear hK K
          refine norm_ (a' := ?_) ?_ ?_
          rotate_left
          · show Act.put _ (some 12) _ = _
            simp only [Act.put, List.setIfInBounds_toArray, List.set_cons_zero, List.set_cons_succ, i64_w, i32_w]
            rfl
          refine one_ (i := 9) (N := some 3) #[true, true, true, true, true, true, true, true, true, true, false] rfl rfl (one_of HT_.out (by kernel_rfl)) (by decide) (fun K hK => ?_)
          refine alloc_blk_step (by rfl) rfl rfl zero33 ?_
          intro g3 w' hg3 hz hb
          refine hK.out _ _ ⟨HH.out.1.below hb, below_step HH.out.2 hb⟩ (fun hHeld => ?_)
          have HG3 := Aside0.mk (show W.heap.size ≤ g3 ∧ g < g3 by rw [hg3]; exact ⟨HH.out.2.size, blk_lt HH.out.1⟩)
          try (have HC2 := Aside0.mk (Kd.C_below HC.out hb); clear HC; have HC := HC2; clear HC2)
          have HZ := Aside0.mk hz
          clear hz hg3
          have HH2 := Aside0.mk hHeld
          clear hHeld HH
          have HH := HH2
          clear HH2
          try clear hb
          try clear hK K
          refine norm_ (a' := ?_) ?_ ?_
          rotate_left
          · show Act.put _ (some 3) _ = _
            simp only [Act.put, List.setIfInBounds_toArray, List.set_cons_zero, List.set_cons_succ, i64_w, i32_w]
            rfl
          refine last_ (i := 10) (N := none) #[true, true, true, true, true, true, true, true, true, true, true] rfl rfl (one_of HT_.out (by kernel_rfl)) (by decide) (fun K hK => ?_)
          refine store_blk_l_step (by rfl) rfl rfl rfl rfl HZ.out (by rw [u8s_size, shaL_length]; exact size33) (by rw [u8s_size, u8s_size, shaL_length]; rfl) (u8s_one _) ?_
          intro w' hz hb hn
          refine hK.out _ _ ?_
          have HB := Aside0.mk (hb _ _ HG3.out.1 HH.out.2)
          have HI := Aside0.mk (hn _ _ _ HH.out.1 (by have := HG3.out.2; omega))
          clear HZ
          have HZ := Aside0.mk hz
          clear hz hb hn
          try clear hK K
          refine done_ (done_of HT_.out (by kernel_rfl)) ?_
          go_wp2_with fail
          go_meet
          exact ⟨g3, rfl, HZ.out, HI.out, HB.out⟩
        · refine alloc_blk_step (by rfl) rfl rfl zero33 ?_
          intro g3 w' hg3 hz hb
          refine hK.out _ _ ⟨HH.out.1.below hb, below_step HH.out.2 hb⟩ (fun hHeld => ?_)
          have HG3 := Aside0.mk (show W.heap.size ≤ g3 ∧ g < g3 by rw [hg3]; exact ⟨HH.out.2.size, blk_lt HH.out.1⟩)
          try (have HC2 := Aside0.mk (Kd.C_below HC.out hb); clear HC; have HC := HC2; clear HC2)
          have HZ := Aside0.mk hz
          clear hz hg3
          have HH2 := Aside0.mk hHeld
          clear hHeld HH
          have HH := HH2
          clear HH2
          try clear hb
          try clear hK K
          refine norm_ (a' := ?_) ?_ ?_
          rotate_left
          · show Act.put _ (some 3) _ = _
            simp only [Act.put, List.setIfInBounds_toArray, List.set_cons_zero, List.set_cons_succ, i64_w, i32_w]
            rfl
          refine one_ (i := 8) (N := some 12) #[true, true, true, true, true, true, true, true, true, true, false] rfl rfl (one_of HT_.out (by kernel_rfl)) (by decide) (fun K hK => ?_)
          refine goes_ Tryz.func37 (by kernel_rfl) rfl #[.slice A7 (sI ++ (⟨#[10]⟩ : ByteArray) ++ x.2).size c7] (by rfl) rfl rfl (by simp only [List.map_toArray, List.map_cons, List.map_nil]; rfl) ?_
          refine (rsum_any A7 _ c7 (bytesOf (sI ++ (⟨#[10]⟩ : ByteArray) ++ x.2)) _ (by rw [bytesOf_length]; exact HC.out) (bytesOf_length _).symm (by rw [bytesOf_length]; exact HCC.out) HLB.out HRB.out).mono ?_
          rintro e w' ⟨rfl, hb⟩
          refine ⟨_, rfl, hK.out _ _ ⟨HH.out.1.below hb, below_step HH.out.2 hb⟩ (fun hHeld => ?_)⟩
          try (have HZ2 := Aside0.mk (HZ.out.below hb); clear HZ; have HZ := HZ2; clear HZ2)
          have HH2 := Aside0.mk hHeld
          clear hHeld HH
          have HH := HH2
          clear HH2
          try clear hb
          try clear hK K
          refine norm_ (a' := ?_) ?_ ?_
          rotate_left
          · show Act.put _ (some 12) _ = _
            simp only [Act.put, List.setIfInBounds_toArray, List.set_cons_zero, List.set_cons_succ, i64_w, i32_w]
            rfl
          refine last_ (i := 10) (N := none) #[true, true, true, true, true, true, true, true, true, true, true] rfl rfl (one_of HT_.out (by kernel_rfl)) (by decide) (fun K hK => ?_)
          refine store_blk_l_step (by rfl) rfl rfl rfl rfl HZ.out (by rw [u8s_size, shaL_length]; exact size33) (by rw [u8s_size, u8s_size, shaL_length]; rfl) (u8s_one _) ?_
          intro w' hz hb hn
          refine hK.out _ _ ?_
          have HB := Aside0.mk (hb _ _ HG3.out.1 HH.out.2)
          have HI := Aside0.mk (hn _ _ _ HH.out.1 (by have := HG3.out.2; omega))
          clear HZ
          have HZ := Aside0.mk hz
          clear hz hb hn
          try clear hK K
          refine done_ (done_of HT_.out (by kernel_rfl)) ?_
          go_wp2_with fail
          go_meet
          exact ⟨g3, rfl, HZ.out, HI.out, HB.out⟩
      · refine alloc_blk_step (by rfl) rfl rfl zero33 ?_
        intro g3 w' hg3 hz hb
        refine hK.out _ _ ⟨HH.out.1.below hb, below_step HH.out.2 hb⟩ (fun hHeld => ?_)
        have HG3 := Aside0.mk (show W.heap.size ≤ g3 ∧ g < g3 by rw [hg3]; exact ⟨HH.out.2.size, blk_lt HH.out.1⟩)
        try (have HC2 := Aside0.mk (Kd.C_below HC.out hb); clear HC; have HC := HC2; clear HC2)
        have HZ := Aside0.mk hz
        clear hz hg3
        have HH2 := Aside0.mk hHeld
        clear hHeld HH
        have HH := HH2
        clear HH2
        try clear hb
        try clear hK K
        refine norm_ (a' := ?_) ?_ ?_
        rotate_left
        · show Act.put _ (some 3) _ = _
          simp only [Act.put, List.setIfInBounds_toArray, List.set_cons_zero, List.set_cons_succ, i64_w, i32_w]
          rfl
        refine one_ (i := 7) (N := some 11) #[true, true, true, true, true, true, true, true, false, true, false] rfl rfl (one_of HT_.out (by kernel_rfl)) (by decide) (fun K hK => ?_)
        refine bytes_step (s := (sI ++ (⟨#[10]⟩ : ByteArray) ++ x.2)) (by rfl) rfl rfl Tryz.underlying9 Tryz.underlying26 Tryz.underlying5 HSZ.out ?_
        intro A7 c7 w' hcc hC hb
        refine hK.out _ _ ⟨HH.out.1.below hb, below_step HH.out.2 hb⟩ (fun hHeld => ?_)
        have HC := Aside0.mk hC
        have HCC := Aside0.mk hcc
        clear hC hcc
        try (have HZ2 := Aside0.mk (HZ.out.below hb); clear HZ; have HZ := HZ2; clear HZ2)
        have HH2 := Aside0.mk hHeld
        clear hHeld HH
        have HH := HH2
        clear HH2
        try clear hb
        try clear hK K
        refine norm_ (a' := ?_) ?_ ?_
        rotate_left
        · show Act.put _ (some 11) _ = _
          simp only [Act.put, List.setIfInBounds_toArray, List.set_cons_zero, List.set_cons_succ, i64_w, i32_w]
          rfl
        refine one_ (i := 8) (N := some 12) #[true, true, true, true, true, true, true, true, true, true, false] rfl rfl (one_of HT_.out (by kernel_rfl)) (by decide) (fun K hK => ?_)
        refine goes_ Tryz.func37 (by kernel_rfl) rfl #[.slice A7 (sI ++ (⟨#[10]⟩ : ByteArray) ++ x.2).size c7] (by rfl) rfl rfl (by simp only [List.map_toArray, List.map_cons, List.map_nil]; rfl) ?_
        refine (rsum_any A7 _ c7 (bytesOf (sI ++ (⟨#[10]⟩ : ByteArray) ++ x.2)) _ (by rw [bytesOf_length]; exact HC.out) (bytesOf_length _).symm (by rw [bytesOf_length]; exact HCC.out) HLB.out HRB.out).mono ?_
        rintro e w' ⟨rfl, hb⟩
        refine ⟨_, rfl, hK.out _ _ ⟨HH.out.1.below hb, below_step HH.out.2 hb⟩ (fun hHeld => ?_)⟩
        try (have HZ2 := Aside0.mk (HZ.out.below hb); clear HZ; have HZ := HZ2; clear HZ2)
        have HH2 := Aside0.mk hHeld
        clear hHeld HH
        have HH := HH2
        clear HH2
        try clear hb
        try clear hK K
        refine norm_ (a' := ?_) ?_ ?_
        rotate_left
        · show Act.put _ (some 12) _ = _
          simp only [Act.put, List.setIfInBounds_toArray, List.set_cons_zero, List.set_cons_succ, i64_w, i32_w]
          rfl
        refine last_ (i := 10) (N := none) #[true, true, true, true, true, true, true, true, true, true, true] rfl rfl (one_of HT_.out (by kernel_rfl)) (by decide) (fun K hK => ?_)
        refine store_blk_l_step (by rfl) rfl rfl rfl rfl HZ.out (by rw [u8s_size, shaL_length]; exact size33) (by rw [u8s_size, u8s_size, shaL_length]; rfl) (u8s_one _) ?_
        intro w' hz hb hn
        refine hK.out _ _ ?_
        have HB := Aside0.mk (hb _ _ HG3.out.1 HH.out.2)
        have HI := Aside0.mk (hn _ _ _ HH.out.1 (by have := HG3.out.2; omega))
        clear HZ
        have HZ := Aside0.mk hz
        clear hz hb hn
        try clear hK K
        refine done_ (done_of HT_.out (by kernel_rfl)) ?_
        go_wp2_with fail
        go_meet
        exact ⟨g3, rfl, HZ.out, HI.out, HB.out⟩
    · refine alloc_blk_step (by rfl) rfl rfl zero33 ?_
      intro g3 w' hg3 hz hb
      refine hK.out _ _ ⟨HH.out.1.below hb, below_step HH.out.2 hb⟩ (fun hHeld => ?_)
      have HG3 := Aside0.mk (show W.heap.size ≤ g3 ∧ g < g3 by rw [hg3]; exact ⟨HH.out.2.size, blk_lt HH.out.1⟩)
      try (have HC2 := Aside0.mk (Kd.C_below HC.out hb); clear HC; have HC := HC2; clear HC2)
      have HZ := Aside0.mk hz
      clear hz hg3
      have HH2 := Aside0.mk hHeld
      clear hHeld HH
      have HH := HH2
      clear HH2
      try clear hb
      try clear hK K
      refine norm_ (a' := ?_) ?_ ?_
      rotate_left
      · show Act.put _ (some 3) _ = _
        simp only [Act.put, List.setIfInBounds_toArray, List.set_cons_zero, List.set_cons_succ, i64_w, i32_w]
        rfl
      refine one_ (i := 2) (N := some 6) #[true, true, true, false, true, true, false, false, false, true, false] rfl rfl (one_of HT_.out (by kernel_rfl)) (by decide) (fun K hK => ?_)
      refine goes_ Tryz.func38 (by kernel_rfl) rfl #[.agg (u8s x.1)] (by rfl) rfl rfl (by simp only [List.map_toArray, List.map_cons, List.map_nil]; rfl) ?_
      refine (HMP.out _).mono ?_
      rintro e w' ⟨rfl, hb⟩
      refine ⟨_, rfl, hK.out _ _ ⟨HH.out.1.below hb, below_step HH.out.2 hb⟩ (fun hHeld => ?_)⟩
      try (have HZ2 := Aside0.mk (HZ.out.below hb); clear HZ; have HZ := HZ2; clear HZ2)
      try (have HC2 := Aside0.mk (Kd.C_below HC.out hb); clear HC; have HC := HC2; clear HC2)
      have HH2 := Aside0.mk hHeld
      clear hHeld HH
      have HH := HH2
      clear HH2
      try clear hb
      try clear hK K
      refine norm_ (a' := ?_) ?_ ?_
      rotate_left
      · show Act.put _ (some 6) _ = _
        simp only [Act.put, List.setIfInBounds_toArray, List.set_cons_zero, List.set_cons_succ, i64_w, i32_w]
        rfl
      refine pure_ (i := 3) (N := some 7) (v := ?_) (a' := ?_) #[true, true, true, true, true, true, false, false, false, true, false] rfl rfl (any_of HT_.out (by kernel_rfl)) (fun _ _ _ h => h) (Or.inl ⟨by rfl, ?_⟩) ?_ ?_
      rotate_left
      · intro w'
        go_simp
        with_reducible rfl
      rotate_left
      · simp only [Act.put, List.setIfInBounds_toArray, List.set_cons_zero, List.set_cons_succ, i64_w, i32_w]
        rfl
      refine pure_ (i := 6) (N := some 10) (v := ?_) (a' := ?_) #[true, true, true, true, true, true, true, false, false, true, false] rfl rfl (any_of HT_.out (by kernel_rfl)) (fun _ _ _ h => h) (Or.inl ⟨by rfl, ?_⟩) ?_ ?_
      rotate_left
      · intro w'
        go_simp
        with_reducible rfl
      rotate_left
      · simp only [Act.put, List.setIfInBounds_toArray, List.set_cons_zero, List.set_cons_succ, i64_w, i32_w]
        rfl
      refine one_ (i := 7) (N := some 11) #[true, true, true, true, true, true, true, true, false, true, false] rfl rfl (one_of HT_.out (by kernel_rfl)) (by decide) (fun K hK => ?_)
      refine bytes_step (s := (sI ++ (⟨#[10]⟩ : ByteArray) ++ x.2)) (by rfl) rfl rfl Tryz.underlying9 Tryz.underlying26 Tryz.underlying5 HSZ.out ?_
      intro A7 c7 w' hcc hC hb
      refine hK.out _ _ ⟨HH.out.1.below hb, below_step HH.out.2 hb⟩ (fun hHeld => ?_)
      have HC := Aside0.mk hC
      have HCC := Aside0.mk hcc
      clear hC hcc
      try (have HZ2 := Aside0.mk (HZ.out.below hb); clear HZ; have HZ := HZ2; clear HZ2)
      have HH2 := Aside0.mk hHeld
      clear hHeld HH
      have HH := HH2
      clear HH2
      try clear hb
      try clear hK K
      refine norm_ (a' := ?_) ?_ ?_
      rotate_left
      · show Act.put _ (some 11) _ = _
        simp only [Act.put, List.setIfInBounds_toArray, List.set_cons_zero, List.set_cons_succ, i64_w, i32_w]
        rfl
      refine one_ (i := 8) (N := some 12) #[true, true, true, true, true, true, true, true, true, true, false] rfl rfl (one_of HT_.out (by kernel_rfl)) (by decide) (fun K hK => ?_)
      refine goes_ Tryz.func37 (by kernel_rfl) rfl #[.slice A7 (sI ++ (⟨#[10]⟩ : ByteArray) ++ x.2).size c7] (by rfl) rfl rfl (by simp only [List.map_toArray, List.map_cons, List.map_nil]; rfl) ?_
      refine (rsum_any A7 _ c7 (bytesOf (sI ++ (⟨#[10]⟩ : ByteArray) ++ x.2)) _ (by rw [bytesOf_length]; exact HC.out) (bytesOf_length _).symm (by rw [bytesOf_length]; exact HCC.out) HLB.out HRB.out).mono ?_
      rintro e w' ⟨rfl, hb⟩
      refine ⟨_, rfl, hK.out _ _ ⟨HH.out.1.below hb, below_step HH.out.2 hb⟩ (fun hHeld => ?_)⟩
      try (have HZ2 := Aside0.mk (HZ.out.below hb); clear HZ; have HZ := HZ2; clear HZ2)
      have HH2 := Aside0.mk hHeld
      clear hHeld HH
      have HH := HH2
      clear HH2
      try clear hb
      try clear hK K
      refine norm_ (a' := ?_) ?_ ?_
      rotate_left
      · show Act.put _ (some 12) _ = _
        simp only [Act.put, List.setIfInBounds_toArray, List.set_cons_zero, List.set_cons_succ, i64_w, i32_w]
        rfl
      refine last_ (i := 10) (N := none) #[true, true, true, true, true, true, true, true, true, true, true] rfl rfl (one_of HT_.out (by kernel_rfl)) (by decide) (fun K hK => ?_)
      refine store_blk_l_step (by rfl) rfl rfl rfl rfl HZ.out (by rw [u8s_size, shaL_length]; exact size33) (by rw [u8s_size, u8s_size, shaL_length]; rfl) (u8s_one _) ?_
      intro w' hz hb hn
      refine hK.out _ _ ?_
      have HB := Aside0.mk (hb _ _ HG3.out.1 HH.out.2)
      have HI := Aside0.mk (hn _ _ _ HH.out.1 (by have := HG3.out.2; omega))
      clear HZ
      have HZ := Aside0.mk hz
      clear hz hb hn
      try clear hK K
      refine done_ (done_of HT_.out (by kernel_rfl)) ?_
      go_wp2_with fail
      go_meet
      exact ⟨g3, rfl, HZ.out, HI.out, HB.out⟩
  case rest =>
    clear Z1 B1
    obtain ⟨g3, rfl, hcut⟩ := hcut
    go_wp2_with fail
    refine start_ (n := 20) (S := fun w' => Blk w' g (itV x) 36 ∧ Blk w' g3 (u8s (shaL (bytesOf (sI ++ (⟨#[10]⟩ : ByteArray) ++ x.2)))) 33 ∧ Below W.heap.size W w') (ds := []) #[false, false, false, false, false, false, false, false, false, false, false, false, false, false, false, false, false, false, false, false] (by kernel_rfl) rfl rfl ⟨hcut.2.1, hcut.1, below_drew hcut.2.2⟩ (fun hHeld => ?_)
    refine with_tabW r26_2.tab r26_2.bits (fun HT_ HW_ => ?_)
    generalize wc.drew = wd at hHeld ⊢
    have HH := Aside0.mk hHeld
    clear hHeld
    refine pure_ (i := 0) (N := some 13) (v := ?_) (a' := ?_) #[true, false, false, false, false, false, false, false, false, false, false, false, false, false, false, false, false, false, false, false] rfl rfl (any_of HT_.out (by kernel_rfl)) (fun _ _ _ h => h) (Or.inl ⟨by rfl, ?_⟩) ?_ ?_
    rotate_left
    · intro w'
      go_simp
      with_reducible rfl
    rotate_left
    · simp only [Act.put, List.setIfInBounds_toArray, List.set_cons_zero, List.set_cons_succ, i64_w, i32_w]
      rfl
    refine pure_ (i := 6) (N := some 19) (v := ?_) (a' := ?_) #[true, false, false, false, false, false, true, false, false, false, false, false, false, false, false, false, false, false, false, false] rfl rfl (any_of HT_.out (by kernel_rfl)) (fun _ _ _ h => h) (Or.inl ⟨by rfl, ?_⟩) ?_ ?_
    rotate_left
    · intro w'
      go_simp
      with_reducible rfl
    rotate_left
    · simp only [Act.put, List.setIfInBounds_toArray, List.set_cons_zero, List.set_cons_succ, i64_w, i32_w]
      rfl
    refine pure_ (i := 10) (N := some 23) (v := ?_) (a' := ?_) #[true, false, false, false, false, false, true, false, false, false, true, false, false, false, false, false, false, false, false, false] rfl rfl (any_of HT_.out (by kernel_rfl)) (fun _ _ _ h => h) (Or.inl ⟨by rfl, ?_⟩) ?_ ?_
    rotate_left
    · intro w'
      go_simp
      with_reducible rfl
    rotate_left
    · simp only [Act.put, List.setIfInBounds_toArray, List.set_cons_zero, List.set_cons_succ, i64_w, i32_w]
      rfl
    refine pure_ (i := 15) (N := some 28) (v := ?_) (a' := ?_) #[true, false, false, false, false, false, true, false, false, false, true, false, false, false, false, true, false, false, false, false] rfl rfl (any_of HT_.out (by kernel_rfl)) (fun _ _ _ h => h) (Or.inl ⟨by rfl, ?_⟩) ?_ ?_
    rotate_left
    · intro w'
      go_simp
      with_reducible rfl
    rotate_left
    · simp only [Act.put, List.setIfInBounds_toArray, List.set_cons_zero, List.set_cons_succ, i64_w, i32_w]
      rfl
    refine take_ (i := 1) (N := some 14) (v := ?_) (a' := ?_) #[true, true, false, false, false, false, true, false, false, false, true, false, false, false, false, true, false, false, false, false] rfl rfl (take_ofW HT_.out HW_.out (by kernel_rfl)) (fun _ _ _ h => h) (Or.inl ⟨by rfl, ?_⟩) HH.out ?_ ?_
    rotate_left
    · intro w' hS'
      have hc32 := it_str_cell hS'.1 HX.out
      go_simp
      with_reducible rfl
    rotate_left
    · simp only [Act.put, List.setIfInBounds_toArray, List.set_cons_zero, List.set_cons_succ, i64_w, i32_w]
      rfl
    refine pure_ (i := 2) (N := some 15) (v := ?_) (a' := ?_) #[true, true, true, false, false, false, true, false, false, false, true, false, false, false, false, true, false, false, false, false] rfl rfl (any_of HT_.out (by kernel_rfl)) (fun _ _ _ h => h) (Or.inl ⟨by rfl, ?_⟩) ?_ ?_
    rotate_left
    · intro w'
      go_simp
      with_reducible rfl
    rotate_left
    · simp only [Act.put, List.setIfInBounds_toArray, List.set_cons_zero, List.set_cons_succ, i64_w, i32_w]
      rfl
    refine take_ (i := 11) (N := some 24) (v := .agg (u8s x.1)) (a' := ?_) #[true, true, true, false, false, false, true, false, false, false, true, true, false, false, false, true, false, false, false, false] rfl rfl (take_ofW HT_.out HW_.out (by kernel_rfl)) (fun _ _ _ h => h) ?_ HH.out ?_ ?_
    · exact yields_id (by rfl) rfl rfl (fun w h => h.1) HX.out Tryz.underlying34 rfl size34
    rotate_left
    · simp only [Act.put, List.setIfInBounds_toArray, List.set_cons_zero, List.set_cons_succ, i64_w, i32_w]
      rfl
    refine take_ (i := 16) (N := some 29) (v := ?_) (a' := ?_) #[true, true, true, false, false, false, true, false, false, false, true, true, false, false, false, true, true, false, false, false] rfl rfl (take_ofW HT_.out HW_.out (by kernel_rfl)) (fun _ _ _ h => h) (Or.inl ⟨by rfl, ?_⟩) HH.out ?_ ?_
    rotate_left
    · intro w' hS'
      have hc32 := it_str_cell hS'.1 HX.out
      go_simp
      with_reducible rfl
    rotate_left
    · simp only [Act.put, List.setIfInBounds_toArray, List.set_cons_zero, List.set_cons_succ, i64_w, i32_w]
      rfl
    refine one_ (i := 3) (N := some 16) #[true, true, true, true, false, false, true, false, false, false, true, true, false, false, false, true, true, false, false, false] rfl rfl (one_of HT_.out (by kernel_rfl)) (by decide) (fun K hK => ?_)
    refine goes_ Tryz.func33 (by kernel_rfl) rfl #[.int .i64 x.2.size] (by rfl) rfl rfl (by simp only [List.map_toArray, List.map_cons, List.map_nil]; rfl) ?_
    refine (HD.out _).mono ?_
    rintro e w' ⟨rfl, hb⟩
    refine ⟨_, rfl, hK.out _ _ ⟨HH.out.1.below hb, HH.out.2.1.below hb, below_step HH.out.2.2 hb⟩ (fun hHeld => ?_)⟩
    have HH2 := Aside0.mk hHeld
    clear hHeld HH
    have HH := HH2
    clear HH2
    try clear hb
    try clear hK K
    refine norm_ (a' := ?_) ?_ ?_
    rotate_left
    · show Act.put _ (some 16) _ = _
      simp only [Act.put, List.setIfInBounds_toArray, List.set_cons_zero, List.set_cons_succ, i64_w, i32_w]
      rfl
    refine pure_ (i := 4) (N := some 17) (v := ?_) (a' := ?_) #[true, true, true, true, true, false, true, false, false, false, true, true, false, false, false, true, true, false, false, false] rfl rfl (any_of HT_.out (by kernel_rfl)) (fun _ _ _ h => h) (Or.inl ⟨by rfl, ?_⟩) ?_ ?_
    rotate_left
    · intro w'
      refine (exec_add rfl rfl rfl Tryz.underlying9 ?_ w').trans ?_
      rotate_left
      · with_reducible rfl
      simp only [ByteArray.size_append, hss, hsd, lit8, lit32, lit10]
      omega
    rotate_left
    · simp only [Act.put, List.setIfInBounds_toArray, List.set_cons_zero, List.set_cons_succ, i64_w, i32_w]
      rfl
    refine pure_ (i := 5) (N := some 18) (v := ?_) (a' := ?_) #[true, true, true, true, true, true, true, false, false, false, true, true, false, false, false, true, true, false, false, false] rfl rfl (any_of HT_.out (by kernel_rfl)) (fun _ _ _ h => h) (Or.inl ⟨by rfl, ?_⟩) ?_ ?_
    rotate_left
    · intro w'
      refine (exec_add rfl rfl rfl Tryz.underlying9 ?_ w').trans ?_
      rotate_left
      · with_reducible rfl
      simp only [ByteArray.size_append, hss, hsd, lit8, lit32, lit10]
      omega
    rotate_left
    · simp only [Act.put, List.setIfInBounds_toArray, List.set_cons_zero, List.set_cons_succ, i64_w, i32_w]
      rfl
    refine one_ (i := 7) (N := some 20) #[true, true, true, true, true, true, true, true, false, false, true, true, false, false, false, true, true, false, false, false] rfl rfl (one_of HT_.out (by kernel_rfl)) (by decide) (fun K hK => ?_)
    refine goes_ Tryz.func50 (by kernel_rfl) rfl #[.slice (some ⟨g3, 0, none⟩) 16 32] (by rfl) rfl rfl (by simp only [List.map_toArray, List.map_cons, List.map_nil]; rfl) ?_
    refine (HHX.out g3 _ HH.out.2.1).mono ?_
    rintro e w' ⟨rfl, hb⟩
    refine ⟨_, rfl, hK.out _ _ ⟨HH.out.1.below hb, HH.out.2.1.below hb, below_step HH.out.2.2 hb⟩ (fun hHeld => ?_)⟩
    have HH2 := Aside0.mk hHeld
    clear hHeld HH
    have HH := HH2
    clear HH2
    try clear hb
    try clear hK K
    refine norm_ (a' := ?_) ?_ ?_
    rotate_left
    · show Act.put _ (some 20) _ = _
      simp only [Act.put, List.setIfInBounds_toArray, List.set_cons_zero, List.set_cons_succ, i64_w, i32_w]
      rfl
    refine pure_ (i := 8) (N := some 21) (v := ?_) (a' := ?_) #[true, true, true, true, true, true, true, true, true, false, true, true, false, false, false, true, true, false, false, false] rfl rfl (any_of HT_.out (by kernel_rfl)) (fun _ _ _ h => h) (Or.inl ⟨by rfl, ?_⟩) ?_ ?_
    rotate_left
    · intro w'
      refine (exec_add rfl rfl rfl Tryz.underlying9 ?_ w').trans ?_
      rotate_left
      · with_reducible rfl
      simp only [ByteArray.size_append, hss, hsd, lit8, lit32, lit10]
      omega
    rotate_left
    · simp only [Act.put, List.setIfInBounds_toArray, List.set_cons_zero, List.set_cons_succ, i64_w, i32_w]
      rfl
    refine pure_ (i := 9) (N := some 22) (v := ?_) (a' := ?_) #[true, true, true, true, true, true, true, true, true, true, true, true, false, false, false, true, true, false, false, false] rfl rfl (any_of HT_.out (by kernel_rfl)) (fun _ _ _ h => h) (Or.inl ⟨by rfl, ?_⟩) ?_ ?_
    rotate_left
    · intro w'
      refine (exec_add rfl rfl rfl Tryz.underlying9 ?_ w').trans ?_
      rotate_left
      · with_reducible rfl
      simp only [ByteArray.size_append, hss, hsd, lit8, lit32, lit10]
      omega
    rotate_left
    · simp only [Act.put, List.setIfInBounds_toArray, List.set_cons_zero, List.set_cons_succ, i64_w, i32_w]
      rfl
    refine one_ (i := 12) (N := some 25) #[true, true, true, true, true, true, true, true, true, true, true, true, true, false, false, true, true, false, false, false] rfl rfl (one_of HT_.out (by kernel_rfl)) (by decide) (fun K hK => ?_)
    refine goes_ Tryz.func38 (by kernel_rfl) rfl #[.agg (u8s x.1)] (by rfl) rfl rfl (by simp only [List.map_toArray, List.map_cons, List.map_nil]; rfl) ?_
    refine (HMP.out _).mono ?_
    rintro e w' ⟨rfl, hb⟩
    refine ⟨_, rfl, hK.out _ _ ⟨HH.out.1.below hb, HH.out.2.1.below hb, below_step HH.out.2.2 hb⟩ (fun hHeld => ?_)⟩
    have HH2 := Aside0.mk hHeld
    clear hHeld HH
    have HH := HH2
    clear HH2
    try clear hb
    try clear hK K
    refine norm_ (a' := ?_) ?_ ?_
    rotate_left
    · show Act.put _ (some 25) _ = _
      simp only [Act.put, List.setIfInBounds_toArray, List.set_cons_zero, List.set_cons_succ, i64_w, i32_w]
      rfl
    refine pure_ (i := 13) (N := some 26) (v := ?_) (a' := ?_) #[true, true, true, true, true, true, true, true, true, true, true, true, true, true, false, true, true, false, false, false] rfl rfl (any_of HT_.out (by kernel_rfl)) (fun _ _ _ h => h) (Or.inl ⟨by rfl, ?_⟩) ?_ ?_
    rotate_left
    · intro w'
      refine (exec_add rfl rfl rfl Tryz.underlying9 ?_ w').trans ?_
      rotate_left
      · with_reducible rfl
      simp only [ByteArray.size_append, hss, hsd, lit8, lit32, lit10]
      omega
    rotate_left
    · simp only [Act.put, List.setIfInBounds_toArray, List.set_cons_zero, List.set_cons_succ, i64_w, i32_w]
      rfl
    refine pure_ (i := 14) (N := some 27) (v := ?_) (a' := ?_) #[true, true, true, true, true, true, true, true, true, true, true, true, true, true, true, true, true, false, false, false] rfl rfl (any_of HT_.out (by kernel_rfl)) (fun _ _ _ h => h) (Or.inl ⟨by rfl, ?_⟩) ?_ ?_
    rotate_left
    · intro w'
      refine (exec_add rfl rfl rfl Tryz.underlying9 ?_ w').trans ?_
      rotate_left
      · with_reducible rfl
      simp only [ByteArray.size_append, hss, hsd, lit8, lit32, lit10]
      omega
    rotate_left
    · simp only [Act.put, List.setIfInBounds_toArray, List.set_cons_zero, List.set_cons_succ, i64_w, i32_w]
      rfl
    refine pure_ (i := 17) (N := some 30) (v := ?_) (a' := ?_) #[true, true, true, true, true, true, true, true, true, true, true, true, true, true, true, true, true, true, false, false] rfl rfl (any_of HT_.out (by kernel_rfl)) (fun _ _ _ h => h) (Or.inl ⟨by rfl, ?_⟩) ?_ ?_
    rotate_left
    · intro w'
      refine (exec_add rfl rfl rfl Tryz.underlying9 ?_ w').trans ?_
      rotate_left
      · with_reducible rfl
      simp only [ByteArray.size_append, hss, hsd, lit8, lit32, lit10]
      omega
    rotate_left
    · simp only [Act.put, List.setIfInBounds_toArray, List.set_cons_zero, List.set_cons_succ, i64_w, i32_w]
      rfl
    refine pure_ (i := 18) (N := some 31) (v := ?_) (a' := ?_) #[true, true, true, true, true, true, true, true, true, true, true, true, true, true, true, true, true, true, true, false] rfl rfl (any_of HT_.out (by kernel_rfl)) (fun _ _ _ h => h) (Or.inl ⟨by rfl, ?_⟩) ?_ ?_
    rotate_left
    · intro w'
      refine (exec_add rfl rfl rfl Tryz.underlying9 ?_ w').trans ?_
      rotate_left
      · with_reducible rfl
      simp only [ByteArray.size_append, hss, hsd, lit8, lit32, lit10]
      omega
    rotate_left
    · simp only [Act.put, List.setIfInBounds_toArray, List.set_cons_zero, List.set_cons_succ, i64_w, i32_w]
      rfl
    refine pure_ (i := 19) (N := some 2) (v := ?_) (a' := ?_) #[true, true, true, true, true, true, true, true, true, true, true, true, true, true, true, true, true, true, true, true] rfl rfl (any_of HT_.out (by kernel_rfl)) (fun _ _ _ h => h) (Or.inl ⟨by rfl, ?_⟩) ?_ ?_
    rotate_left
    · intro w'
      go_simp
      with_reducible rfl
    rotate_left
    · simp only [Act.put, List.setIfInBounds_toArray, List.set_cons_zero, List.set_cons_succ, i64_w, i32_w]
      rfl
    refine done_ (done_of HT_.out (by kernel_rfl)) ?_
    go_wp2_with fail
    go_ret
    exact ⟨by rw [HF.out]; rfl, HH.out.2.2⟩

end Go.Proofs.YtceopllngemnnaaGreatDoor


/-
  The text of an item, of the program: what it returns. For texts of up to a million bytes.
-/
namespace Go.Proofs.YtceopllngemnnaaGreatDoor
open Go.RowKit Go.Proofs.YtceopllngemnnaaGreatDoorW.PrintWords Go.Proofs.YtceopllngemnnaaGreatDoorW.PrintLast Go.Proofs.YtceopllngemnnaaGreatDoorW.PrintMore Go.Proofs.YtceopllngemnnaaGreatDoor.PRef

theorem info9 : (Tryz.prog.info? 9).map (fun i => (i.zero, i.size)) = some (some (.string ByteArray.empty), 1) := by kernel_rfl
section
variable {ops : Array Oper} {o : Oper} {a : Act} {Q : Exit → Act → World → Prop} {Kc : Act → World → Prop}
/-- A slice of four strings. -/
theorem strs4_step {W : World} {x0 x1 x2 x3 : Operand} {s0 s1 s2 s3 : ByteArray} (hw : Region.wanted o (yielded ops a.tmps) = true) (ho : o.op = .buildSlice 89 4 #[(0, x0), (1, x1), (2, x2), (3, x3)]) (h0 : a.eval x0 = .string s0) (h1 : a.eval x1 = .string s1) (h2 : a.eval x2 = .string s2) (h3 : a.eval x3 = .string s3)
    (hk : ∀ g w1, Blk w1 g #[.string s0, .string s1, .string s2, .string s3] 9 → Below W.heap.size W w1 → Kc (a.put o.dst (.slice (some ⟨g, 0, none⟩) 4 4)) w1) : if Region.wanted o (yielded ops a.tmps) = true then Oper.wp Tryz.prog o a W Kc Q else Kc (a.put o.dst undef) W := by
  obtain ⟨i, hi, hzz⟩ := Option.map_eq_some_iff.1 info9
  simp only [Prod.mk.injEq] at hzz
  obtain ⟨hz0, hz1⟩ := hzz
  refine event_step hw (v := .slice (some ⟨W.heap.size, 0, none⟩) 4 4) (w1 := W.alloc (.cells #[.string s0, .string s1, .string s2, .string s3] 9 (0, 0))) ?_ (hk _ _ (blk_new W _) (below_alloc (Below.refl _ _) _))
  have hr := run_buildSlice (P := Tryz.prog) W 89 9 4 #[(0, .string s0), (1, .string s1), (2, .string s2), (3, .string s3)] #[.string s0, .string s1, .string s2, .string s3] i (.string ByteArray.empty) Tryz.underlying89 hi hz0 (by omega) (by omega) (by rw [hz1]; exact Great.fill_flat [.string s0, .string s1, .string s2, .string s3] _ (fun v hv => by simp at hv; rcases hv with rfl | rfl | rfl | rfl <;> rfl) (by simp))
  have e : ∀ v0 v1 v2 v3 : Value, v0 = .string s0 → v1 = .string s1 → v2 = .string s2 → v3 = .string s3 → (Instr.buildSlice 89 4 #[(0, v0), (1, v1), (2, v2), (3, v3)]).run Tryz.prog W = .ok (.slice (some ⟨W.heap.size, 0, none⟩) 4 4) (W.alloc (.cells #[.string s0, .string s1, .string s2, .string s3] 9)) := by
    rintro _ _ _ _ rfl rfl rfl rfl
    exact hr
  have hm : (#[(0, x0), (1, x1), (2, x2), (3, x3)].map fun (p : Nat × Operand) => (p.1, a.eval p.2)) = #[(0, a.eval x0), (1, a.eval x1), (2, a.eval x2), (3, a.eval x3)] := by simp
  have h := e _ _ _ _ h0 h1 h2 h3
  simp only [execOp, ho, Sem.run_bind]
  have h' : (Instr.buildSlice 89 4 (#[(0, x0), (1, x1), (2, x2), (3, x3)].map fun (p : Nat × Operand) => (p.1, a.eval p.2))).run Tryz.prog W = .ok (.slice (some ⟨W.heap.size, 0, none⟩) 4 4) (W.alloc (.cells #[.string s0, .string s1, .string s2, .string s3] 9)) := by rw [hm]; exact h
  exact (congrArg (fun r => Result.andThen r _) h').trans rfl
end

def artB : ByteArray := ⟨#[97, 114, 116, 105, 99, 108, 101]⟩
theorem join_four (a b c d : ByteArray) : (⟨(Lib.join ([a, b, c, d].map (·.data.toList)) [32]).toArray⟩ : ByteArray) = a ++ (⟨#[32]⟩ : ByteArray) ++ b ++ (⟨#[32]⟩ : ByteArray) ++ c ++ (⟨#[32]⟩ : ByteArray) ++ d := by
  rw [← mkB_data (a ++ (⟨#[32]⟩ : ByteArray) ++ b ++ (⟨#[32]⟩ : ByteArray) ++ c ++ (⟨#[32]⟩ : ByteArray) ++ d)]
  unfold mkB
  congr 2
  simp only [append_data', List.map_cons, List.map_nil]
  rw [Lib.join_cons]
  simp [Lib.joinTail]

theorem join4_any (g : Nat) (a b c d : ByteArray) (W : World) (h : Blk W g #[.string a, .string b, .string c, .string d] 9) (hl : a.size + b.size + c.size + d.size ≤ 4000000) :
    Calls Tryz.prog 69 #[.slice (some ⟨g, 0, none⟩) 4 4, .string ⟨#[32]⟩] W fun e w' => e = .returned (.string (a ++ (⟨#[32]⟩ : ByteArray) ++ b ++ (⟨#[32]⟩ : ByteArray) ++ c ++ (⟨#[32]⟩ : ByteArray) ++ d)) ∧ Below W.heap.size W w' := by
  have hj := join_four a b c d
  have hlen : (Lib.join ([a, b, c, d].map (·.data.toList)) [32]).length = a.size + b.size + c.size + d.size + 3 := by
    have := congrArg ByteArray.size hj
    simp only [ByteArray.size_append, lit32] at this
    have h2 : (⟨(Lib.join ([a, b, c, d].map (·.data.toList)) [32]).toArray⟩ : ByteArray).size = (Lib.join ([a, b, c, d].map (·.data.toList)) [32]).length := mkB_size _
    omega
  have := Tryz.strings_Join g 0 4 [a, b, c, d] ⟨#[32]⟩ W (fun j x hj => by
    rw [Nat.zero_add, Lib.cell_of_heap h]
    match j, hj with
    | 0, hj => simp at hj; subst hj; rfl
    | 1, hj => simp at hj; subst hj; rfl
    | 2, hj => simp at hj; subst hj; rfl
    | 3, hj => simp at hj; subst hj; rfl
    | k + 4, hj => simp at hj) (blk_lt h) (by simp) (by simp) (by
      show (Lib.join ([a, b, c, d].map (·.data.toList)) [32]).length ≤ _
      omega)
  refine this.mono ?_
  rintro e w' ⟨rfl, hb⟩
  exact ⟨by rw [← hj], hb⟩

/-! Region tables, printed by rg2.py. -/
def r42_1.T : Bool × List (List Nat × List Nat) := (true, [([], []), ([0], [0]), ([1], [1]), ([2], [2]), ([], []), ([4, 3], [4]), ([], []), ([6], [6]), ([7, 5], [7]), ([3, 5, 8], [3, 5, 8]), ([9, 8], [9]), ([10], [10]), ([], []), ([12], [12]), ([11, 13], [11, 13]), ([14], [14]), ([15, 10, 0, 1, 2, 3, 4, 5, 6, 7, 8, 9, 10, 11, 12, 13, 14, 15], [15])])
def r42_1.B : List Nat := [0, 1, 3, 7, 0, 31, 0, 64, 255, 511, 1023, 2047, 0, 4096, 16383, 32767, 65535]
theorem r42_1.tab : rtab .any (opsOf Tryz.f42 1) = r42_1.T := by kernel_rfl
theorem r42_1.bits : waitsOk r42_1.T.2 r42_1.B = true := by kernel_rfl

set_option maxHeartbeats 4000000 in
set_option maxRecDepth 100000 in
theorem text_any (x : It) (W : World) (he : Env W) (hx : okId x.1) (hl : x.2.size ≤ 1000000) :
    Calls Tryz.prog 42 #[.agg (itV x)] W fun e w' => e = .returned (.string (itS x)) ∧ Below W.heap.size W w' := by
  obtain ⟨sI, hsI⟩ : ∃ sI, idS x.1 = sI := ⟨_, rfl⟩
  obtain ⟨sD, hsD⟩ : ∃ sD, digS x = sD := ⟨_, rfl⟩
  obtain ⟨sN, hsN⟩ : ∃ sN, numB x.2.size = sN := ⟨_, rfl⟩
  have hss : sI.size = 71 := by rw [← hsI]; exact idS_size71 hx.1
  have hsd : sD.size = 32 := by rw [← hsD]; exact digS_size x
  have hdl := dec_len x.2.size
  rw [← numB_size, hsN] at hdl
  obtain ⟨sJ, hsJ⟩ : ∃ sJ, artB ++ (⟨#[32]⟩ : ByteArray) ++ sN ++ (⟨#[32]⟩ : ByteArray) ++ sD ++ (⟨#[32]⟩ : ByteArray) ++ sI = sJ := ⟨_, rfl⟩
  have hsj : sJ.size = sN.size + 113 := by
    rw [← hsJ]
    simp only [ByteArray.size_append, lit32, hss, hsd]
    show 7 + 1 + sN.size + 1 + 32 + 1 + 71 = _
    omega
  have HMP := Aside0.mk (show ∀ W, Calls Tryz.prog 70 #[.agg (u8s x.1)] W fun e w' => e = .returned (.string sI) ∧ Below W.heap.size W w' from fun W => hsI ▸ mprint_any x.1 W hx.1 hx.2)
  have HD := Aside0.mk (fun w he => hsN ▸ digits_nat x.2.size w he (by omega))
  have HDG := Aside0.mk (show ∀ W, Calls Tryz.prog 61 #[.agg (itV x)] W fun e w' => e = .returned (.string sD) ∧ Below W.heap.size W w' from fun W => hsD ▸ digest_any x W hx hl)
  have HJ := Aside0.mk (show ∀ g W, Blk W g #[.string artB, .string sN, .string sD, .string sI] 9 → Calls Tryz.prog 69 #[.slice (some ⟨g, 0, none⟩) 4 4, .string ⟨#[32]⟩] W fun e w' => e = .returned (.string sJ) ∧ Below W.heap.size W w' from
    fun g W h => hsJ ▸ join4_any g artB sN sD sI W h (by rw [hss, hsd]; show 7 + _ + _ + _ ≤ _; omega))
  have HF := Aside0.mk (show itS x = sJ ++ (⟨#[10]⟩ : ByteArray) ++ x.2 ++ (⟨#[10]⟩ : ByteArray) by
    rw [← hsJ]
    unfold itS
    rw [hsI, hsN, hsD]
    rfl)
  have HX := Aside0.mk hx
  have HE := Aside0.mk he
  have hvs : Aside0 ((itV x).size = 33) := ⟨itV_size hx⟩
  have hv1 : Aside0 ((itV x).all (·.oneCell') = true) := ⟨itV_one x⟩
  clear hx hsI hsD hsN hsJ he
  go_enter Tryz.func42, Tryz.ntmps42
  go_wp2_with (first
    | ((with_reducible refine gate_dst (N := 1) rfl ?_); refine box_blk rfl rfl rfl rfl (by rw [hvs.out]; exact size39) hv1.out ?_; intro g w1 hg hz hb'; have Z1 := Aside0.mk hz; have B1 := Aside0.mk hb'; clear hg hz hb'))
  refine start_ (n := 17) (S := fun w' => Blk w' g (itV x) 39 ∧ Below W.heap.size W w') (ds := []) #[false, false, false, false, false, false, false, false, false, false, false, false, false, false, false, false, false] (by kernel_rfl) rfl rfl ⟨Z1.out, below_drew B1.out⟩ (fun hHeld => ?_)
  refine with_tabW r42_1.tab r42_1.bits (fun HT_ HW_ => ?_)
  generalize w1.drew = wd at hHeld ⊢
  have HH := Aside0.mk hHeld
  clear hHeld
  refine pure_ (i := 0) (N := some 3) (v := ?_) (a' := ?_) #[true, false, false, false, false, false, false, false, false, false, false, false, false, false, false, false, false] rfl rfl (any_of HT_.out (by kernel_rfl)) (fun _ _ _ h => h) (Or.inl ⟨by rfl, ?_⟩) ?_ ?_
  rotate_left
  · intro w'
    go_simp
    with_reducible rfl
  rotate_left
  · simp only [Act.put, List.setIfInBounds_toArray, List.set_cons_zero, List.set_cons_succ, i64_w, i32_w]
    rfl
  refine pure_ (i := 6) (N := some 9) (v := ?_) (a' := ?_) #[true, false, false, false, false, false, true, false, false, false, false, false, false, false, false, false, false] rfl rfl (any_of HT_.out (by kernel_rfl)) (fun _ _ _ h => h) (Or.inl ⟨by rfl, ?_⟩) ?_ ?_
  rotate_left
  · intro w'
    go_simp
    with_reducible rfl
  rotate_left
  · simp only [Act.put, List.setIfInBounds_toArray, List.set_cons_zero, List.set_cons_succ, i64_w, i32_w]
    rfl
  refine pure_ (i := 12) (N := some 15) (v := ?_) (a' := ?_) #[true, false, false, false, false, false, true, false, false, false, false, false, true, false, false, false, false] rfl rfl (any_of HT_.out (by kernel_rfl)) (fun _ _ _ h => h) (Or.inl ⟨by rfl, ?_⟩) ?_ ?_
  rotate_left
  · intro w'
    go_simp
    with_reducible rfl
  rotate_left
  · simp only [Act.put, List.setIfInBounds_toArray, List.set_cons_zero, List.set_cons_succ, i64_w, i32_w]
    rfl
  refine take_ (i := 1) (N := some 4) (v := ?_) (a' := ?_) #[true, true, false, false, false, false, true, false, false, false, false, false, true, false, false, false, false] rfl rfl (take_ofW HT_.out HW_.out (by kernel_rfl)) (fun _ _ _ h => h) (Or.inl ⟨by rfl, ?_⟩) HH.out ?_ ?_
  rotate_left
  · intro w' hS'
    have hc32 := it_str_cell hS'.1 HX.out
    go_simp
    with_reducible rfl
  rotate_left
  · simp only [Act.put, List.setIfInBounds_toArray, List.set_cons_zero, List.set_cons_succ, i64_w, i32_w]
    rfl
  refine pure_ (i := 2) (N := some 5) (v := ?_) (a' := ?_) #[true, true, true, false, false, false, true, false, false, false, false, false, true, false, false, false, false] rfl rfl (any_of HT_.out (by kernel_rfl)) (fun _ _ _ h => h) (Or.inl ⟨by rfl, ?_⟩) ?_ ?_
  rotate_left
  · intro w'
    go_simp
    with_reducible rfl
  rotate_left
  · simp only [Act.put, List.setIfInBounds_toArray, List.set_cons_zero, List.set_cons_succ, i64_w, i32_w]
    rfl
  refine take_ (i := 4) (N := some 7) (v := .agg (itV x)) (a' := ?_) #[true, true, true, false, true, false, true, false, false, false, false, false, true, false, false, false, false] rfl rfl (take_ofW HT_.out HW_.out (by kernel_rfl)) (fun _ _ _ h => h) ?_ HH.out ?_ ?_
  · exact yields_blk (by rfl) rfl rfl (fun w h => h.1) Tryz.underlying39 rfl (by rw [hvs.out]; exact size39)
  rotate_left
  · simp only [Act.put, List.setIfInBounds_toArray, List.set_cons_zero, List.set_cons_succ, i64_w, i32_w]
    rfl
  refine take_ (i := 7) (N := some 10) (v := .agg (u8s x.1)) (a' := ?_) #[true, true, true, false, true, false, true, true, false, false, false, false, true, false, false, false, false] rfl rfl (take_ofW HT_.out HW_.out (by kernel_rfl)) (fun _ _ _ h => h) ?_ HH.out ?_ ?_
  · exact yields_id (by rfl) rfl rfl (fun w h => h.1) HX.out Tryz.underlying37 rfl size37
  rotate_left
  · simp only [Act.put, List.setIfInBounds_toArray, List.set_cons_zero, List.set_cons_succ, i64_w, i32_w]
    rfl
  refine take_ (i := 13) (N := some 16) (v := ?_) (a' := ?_) #[true, true, true, false, true, false, true, true, false, false, false, false, true, true, false, false, false] rfl rfl (take_ofW HT_.out HW_.out (by kernel_rfl)) (fun _ _ _ h => h) (Or.inl ⟨by rfl, ?_⟩) HH.out ?_ ?_
  rotate_left
  · intro w' hS'
    have hc32 := it_str_cell hS'.1 HX.out
    go_simp
    with_reducible rfl
  rotate_left
  · simp only [Act.put, List.setIfInBounds_toArray, List.set_cons_zero, List.set_cons_succ, i64_w, i32_w]
    rfl
  refine one_ (i := 3) (N := some 6) #[true, true, true, true, true, false, true, true, false, false, false, false, true, true, false, false, false] rfl rfl (one_of HT_.out (by kernel_rfl)) (by decide) (fun K hK => ?_)
  refine goes_ Tryz.func41 (by kernel_rfl) rfl #[.int .i64 x.2.size] (by rfl) rfl rfl (by simp only [List.map_toArray, List.map_cons, List.map_nil]; rfl) ?_
  refine (HD.out _ (HE.out.below HH.out.2)).mono ?_
  rintro e w' ⟨rfl, hb⟩
  refine ⟨_, rfl, hK.out _ _ ⟨HH.out.1.below hb, below_step HH.out.2 hb⟩ (fun hHeld => ?_)⟩
  have HH2 := Aside0.mk hHeld
  clear hHeld HH
  have HH := HH2
  clear HH2
  try clear hb
  try clear hK K
  refine norm_ (a' := ?_) ?_ ?_
  rotate_left
  · show Act.put _ (some 6) _ = _
    simp only [Act.put, List.setIfInBounds_toArray, List.set_cons_zero, List.set_cons_succ, i64_w, i32_w]
    rfl
  refine one_ (i := 5) (N := some 8) #[true, true, true, true, true, true, true, true, false, false, false, false, true, true, false, false, false] rfl rfl (one_of HT_.out (by kernel_rfl)) (by decide) (fun K hK => ?_)
  refine goes_ Tryz.func61 (by kernel_rfl) rfl #[.agg (itV x)] (by rfl) rfl rfl (by simp only [List.map_toArray, List.map_cons, List.map_nil]; rfl) ?_
  refine (HDG.out _).mono ?_
  rintro e w' ⟨rfl, hb⟩
  refine ⟨_, rfl, hK.out _ _ ⟨HH.out.1.below hb, below_step HH.out.2 hb⟩ (fun hHeld => ?_)⟩
  have HH2 := Aside0.mk hHeld
  clear hHeld HH
  have HH := HH2
  clear HH2
  try clear hb
  try clear hK K
  refine norm_ (a' := ?_) ?_ ?_
  rotate_left
  · show Act.put _ (some 8) _ = _
    simp only [Act.put, List.setIfInBounds_toArray, List.set_cons_zero, List.set_cons_succ, i64_w, i32_w]
    rfl
  refine one_ (i := 8) (N := some 11) #[true, true, true, true, true, true, true, true, true, false, false, false, true, true, false, false, false] rfl rfl (one_of HT_.out (by kernel_rfl)) (by decide) (fun K hK => ?_)
  refine goes_ Tryz.func70 (by kernel_rfl) rfl #[.agg (u8s x.1)] (by rfl) rfl rfl (by simp only [List.map_toArray, List.map_cons, List.map_nil]; rfl) ?_
  refine (HMP.out _).mono ?_
  rintro e w' ⟨rfl, hb⟩
  refine ⟨_, rfl, hK.out _ _ ⟨HH.out.1.below hb, below_step HH.out.2 hb⟩ (fun hHeld => ?_)⟩
  have HH2 := Aside0.mk hHeld
  clear hHeld HH
  have HH := HH2
  clear HH2
  try clear hb
  try clear hK K
  refine norm_ (a' := ?_) ?_ ?_
  rotate_left
  · show Act.put _ (some 11) _ = _
    simp only [Act.put, List.setIfInBounds_toArray, List.set_cons_zero, List.set_cons_succ, i64_w, i32_w]
    rfl
  refine one_ (i := 9) (N := some 12) #[true, true, true, true, true, true, true, true, true, true, false, false, true, true, false, false, false] rfl rfl (one_of HT_.out (by kernel_rfl)) (by decide) (fun K hK => ?_)
  refine strs4_step (by rfl) rfl rfl rfl rfl rfl ?_
  intro g9 w' hz hb
  refine hK.out _ _ ⟨HH.out.1.below hb, below_step HH.out.2 hb⟩ (fun hHeld => ?_)
  have HZ := Aside0.mk hz
  clear hz
  have HH2 := Aside0.mk hHeld
  clear hHeld HH
  have HH := HH2
  clear HH2
  try clear hb
  try clear hK K
  refine norm_ (a' := ?_) ?_ ?_
  rotate_left
  · show Act.put _ (some 12) _ = _
    simp only [Act.put, List.setIfInBounds_toArray, List.set_cons_zero, List.set_cons_succ, i64_w, i32_w]
    rfl
  refine one_ (i := 10) (N := some 13) #[true, true, true, true, true, true, true, true, true, true, true, false, true, true, false, false, false] rfl rfl (one_of HT_.out (by kernel_rfl)) (by decide) (fun K hK => ?_)
  refine goes_ Tryz.func69 (by kernel_rfl) rfl #[.slice (some ⟨g9, 0, none⟩) 4 4, .string ⟨#[32]⟩] (by rfl) rfl rfl (by simp only [List.map_toArray, List.map_cons, List.map_nil]; rfl) ?_
  refine (HJ.out g9 _ HZ.out).mono ?_
  rintro e w' ⟨rfl, hb⟩
  refine ⟨_, rfl, hK.out _ _ ⟨HH.out.1.below hb, below_step HH.out.2 hb⟩ (fun hHeld => ?_)⟩
  have HH2 := Aside0.mk hHeld
  clear hHeld HH
  have HH := HH2
  clear HH2
  try clear hb
  try clear hK K
  refine norm_ (a' := ?_) ?_ ?_
  rotate_left
  · show Act.put _ (some 13) _ = _
    simp only [Act.put, List.setIfInBounds_toArray, List.set_cons_zero, List.set_cons_succ, i64_w, i32_w]
    rfl
  refine pure_ (i := 11) (N := some 14) (v := ?_) (a' := ?_) #[true, true, true, true, true, true, true, true, true, true, true, true, true, true, false, false, false] rfl rfl (any_of HT_.out (by kernel_rfl)) (fun _ _ _ h => h) (Or.inl ⟨by rfl, ?_⟩) ?_ ?_
  rotate_left
  · intro w'
    refine (exec_add rfl rfl rfl Tryz.underlying9 ?_ w').trans ?_
    rotate_left
    · with_reducible rfl
    simp only [ByteArray.size_append, hsj, lit10]
    omega
  rotate_left
  · simp only [Act.put, List.setIfInBounds_toArray, List.set_cons_zero, List.set_cons_succ, i64_w, i32_w]
    rfl
  refine pure_ (i := 14) (N := some 17) (v := ?_) (a' := ?_) #[true, true, true, true, true, true, true, true, true, true, true, true, true, true, true, false, false] rfl rfl (any_of HT_.out (by kernel_rfl)) (fun _ _ _ h => h) (Or.inl ⟨by rfl, ?_⟩) ?_ ?_
  rotate_left
  · intro w'
    refine (exec_add rfl rfl rfl Tryz.underlying9 ?_ w').trans ?_
    rotate_left
    · with_reducible rfl
    simp only [ByteArray.size_append, hsj, lit10]
    omega
  rotate_left
  · simp only [Act.put, List.setIfInBounds_toArray, List.set_cons_zero, List.set_cons_succ, i64_w, i32_w]
    rfl
  refine pure_ (i := 15) (N := some 18) (v := ?_) (a' := ?_) #[true, true, true, true, true, true, true, true, true, true, true, true, true, true, true, true, false] rfl rfl (any_of HT_.out (by kernel_rfl)) (fun _ _ _ h => h) (Or.inl ⟨by rfl, ?_⟩) ?_ ?_
  rotate_left
  · intro w'
    refine (exec_add rfl rfl rfl Tryz.underlying9 ?_ w').trans ?_
    rotate_left
    · with_reducible rfl
    simp only [ByteArray.size_append, hsj, lit10]
    omega
  rotate_left
  · simp only [Act.put, List.setIfInBounds_toArray, List.set_cons_zero, List.set_cons_succ, i64_w, i32_w]
    rfl
  refine pure_ (i := 16) (N := some 2) (v := ?_) (a' := ?_) #[true, true, true, true, true, true, true, true, true, true, true, true, true, true, true, true, true] rfl rfl (any_of HT_.out (by kernel_rfl)) (fun _ _ _ h => h) (Or.inl ⟨by rfl, ?_⟩) ?_ ?_
  rotate_left
  · intro w'
    go_simp
    with_reducible rfl
  rotate_left
  · simp only [Act.put, List.setIfInBounds_toArray, List.set_cons_zero, List.set_cons_succ, i64_w, i32_w]
    rfl
  refine done_ (done_of HT_.out (by kernel_rfl)) ?_
  go_wp2_with fail
  go_ret
  exact ⟨by rw [HF.out]; rfl, HH.out.2⟩

end Go.Proofs.YtceopllngemnnaaGreatDoor


/-
  Totals, checks and sizes of batches: what they return. For lists of up to a million items.
-/
namespace Go.Proofs.YtceopllngemnnaaGreatDoor
open Go.RowKit Go.Proofs.YtceopllngemnnaaGreatDoorW.PrintWords Go.Proofs.YtceopllngemnnaaGreatDoorW.PrintLast Go.Proofs.YtceopllngemnnaaGreatDoorW.PrintMore Go.Proofs.YtceopllngemnnaaGreatDoor.PRef

def sumN (l : List It) : Nat := (l.map sizeN).sum
def totalN (l : List It) : Nat := frameN l.length + sumN l
theorem sizeN_le (x : It) (h : x.2.size ≤ 65536) : sizeN x ≤ 80000 := by
  unfold sizeN
  have := dec_len x.2.size
  rw [numB_size]; omega
theorem frameN_le (n : Nat) (h : n ≤ 1000000) : frameN n ≤ 200000 := by
  unfold frameN
  have := dec_len n
  rw [numB_size]; omega
theorem sumN_take (l : List It) (k : Nat) (x : It) (h : l[k]? = some x) : sumN (l.take (k + 1)) = sumN (l.take k) + sizeN x := by
  unfold sumN
  rw [List.take_add_one, h]
  simp
theorem sumN_le (l : List It) (h : ∀ x ∈ l, x.2.size ≤ 65536) : sumN l ≤ 80000 * l.length := by
  unfold sumN
  induction l with
  | nil => simp
  | cons x l ih =>
    have h1 := sizeN_le x (h x List.mem_cons_self)
    have h2 := ih (fun y hy => h y (List.mem_cons_of_mem _ hy))
    simp at h2 ⊢
    omega
theorem mem_at {l : List It} {k : Nat} {x : It} (h : l[k]? = some x) : x ∈ l := List.mem_iff_getElem?.mpr ⟨k, h⟩

set_option maxHeartbeats 2000000 in
set_option maxRecDepth 100000 in
theorem total_any (A : Option Addr) (n c : Nat) (l : List It) (W : World) (he : Env W) (hC : Kit.C W A n l) (hn : n ≤ 1000000) (hl : ∀ x ∈ l, x.2.size ≤ 65536) :
    Calls Tryz.prog 44 #[.slice A n c] W fun e w' => e = .returned (.int .i64 (totalN l)) ∧ Below W.heap.size W w' := by
  have hlen : l.length = n := hC.1
  have HF := Aside0.mk (show totalN l = frameN n + sumN l by rw [← hlen]; rfl)
  have HL := Aside0.mk hlen
  have HC := Aside0.mk hC
  have HE := Aside0.mk he
  have HS := Aside0.mk hl
  have HFR := Aside0.mk (fun w he => frame_any n w he hn)
  obtain ⟨f, hf⟩ : ∃ f, frameN n = f := ⟨_, rfl⟩
  have hfl := frameN_le n hn
  rw [hf] at HFR HF hfl
  clear he hC hl hlen hf
  go_enter Tryz.func44, Tryz.ntmps44
  go_wp2_with fail
  refine (HFR.out _ HE.out).mono ?_
  rintro e w1 ⟨rfl, hb⟩
  have HB := Aside0.mk hb
  clear hb
  go_wp2_with fail
  go_loopg [3, 11] n (fun gf x3 x11 wx => ∃ k s : Nat, k ≤ n ∧ x11 = .int .i64 k ∧ x3 = .int .i64 (f + s : Nat) ∧ Hid (n ≤ k + gf) ∧ Aside0 (s = sumN (l.take k)) ∧ Aside0 (Below W.heap.size W wx))
  case atStart => exact ⟨0, 0, Nat.zero_le _, rfl, rfl, by unfold Hid; omega, ⟨rfl⟩, HB⟩
  case round =>
    clear HB
    obtain ⟨k, s, hk, rfl, rfl, HG, HSU, HB⟩ := hrel
    by_cases hlt : k < n
    · obtain ⟨ad, x, hA, hx, hok, hcell⟩ := Kit.at_ (Kd.C_below HC.out HB.out) k hlt
      subst hA
      have hxs := HS.out x (mem_at hx)
      have HT := Aside0.mk (sumN_take l k x hx)
      have HX := Aside0.mk hok
      have HCL := Aside0.mk hcell
      have hsz := sizeN_le x hxs
      have hsm := sumN_le (l.take k) (fun y hy => HS.out y (List.mem_of_mem_take hy))
      have hsl : (l.take k).length ≤ k := List.length_take_le _ _
      rw [← HSU.out] at hsm
      have hs2 : s ≤ 80000000000 := by omega
      obtain ⟨z, hz⟩ : ∃ z, sizeN x = z := ⟨_, rfl⟩
      have HSZ := Aside0.mk (fun w he => hz ▸ size_any x w he hok (by omega))
      rw [hz] at HT hsz
      clear hx hok hcell hsm hsl hz
      go_wp2_with (first
        | ((with_reducible refine gate_dst (N := 14) rfl ?_); refine load_it rfl rfl rfl HCL.out HX.out Tryz.underlying39 rfl size39 ?_)
        | ((with_reducible refine gate_dst (N := 5) rfl ?_); refine var_blk (cs := itV x) rfl rfl rfl rfl rfl rfl zero39 (itV_size okId_z) (itV_size HX.out) (itV_one x) (fun _ => rfl) (fun _ => rfl) ?_; intro g w2 hg hz hb; have HZ := Aside0.mk hz; have HB2 := Aside0.mk (below_step HB.out hb); clear hg hz hb)
        | ((with_reducible refine gate_dst (N := 16) rfl ?_); refine load_blk rfl rfl rfl HZ.out Tryz.underlying39 rfl (by rw [itV_size HX.out]; exact size39) ?_))
      refine (HSZ.out _ (HE.out.below HB2.out)).mono ?_
      rintro e w3 ⟨rfl, hb⟩
      have HB3 := Aside0.mk (below_step HB2.out hb)
      clear hb
      go_wp2_with fail
      go_roundg (gk - 1)
      case measure => have := HG.out; omega
      case rel => exact ⟨k + 1, s + z, by omega, by go_num, by go_num, by have := HG.out; unfold Hid; omega, ⟨by rw [HT.out, ← HSU.out]⟩, HB3⟩
    · obtain rfl : k = n := by omega
      have hfull : l.take k = l := List.take_of_length_le (by rw [HL.out]; exact Nat.le_refl _)
      have hs := HSU.out
      rw [hfull] at hs
      have HS2 := Aside0.mk hs
      clear hs hfull
      go_wp2_with fail
      go_ret
      exact ⟨by rw [HF.out, ← HS2.out]; rfl, HB.out⟩

end Go.Proofs.YtceopllngemnnaaGreatDoor


/-
  check, Size and Pack of the program: what they return. For lists of up to a million items.
-/
namespace Go.Proofs.YtceopllngemnnaaGreatDoor
open Go.RowKit Go.Proofs.YtceopllngemnnaaGreatDoorW.PrintWords Go.Proofs.YtceopllngemnnaaGreatDoorW.PrintLast Go.Proofs.YtceopllngemnnaaGreatDoorW.PrintMore Go.Proofs.YtceopllngemnnaaGreatDoor.PRef

/-- The error of a batch. -/
def checkN (l : List It) : Int := if 1000 < l.length then 9 else if ∀ x ∈ l, x.2.size ≤ 65536 then (if 4194304 < totalN l then 5 else 0) else 5

set_option maxHeartbeats 2000000 in
set_option maxRecDepth 100000 in
theorem check_any (A : Option Addr) (n c : Nat) (l : List It) (W : World) (he : Env W) (hC : Kit.C W A n l) :
    Calls Tryz.prog 39 #[.slice A n c] W fun e w' => e = .returned (.int .i64 (checkN l)) ∧ Below W.heap.size W w' := by
  have hlen : l.length = n := hC.1
  by_cases h1 : 1000 < n
  · have HF := Aside0.mk (show checkN l = 9 by unfold checkN; rw [if_pos (by omega)])
    clear hC hlen he
    go_enter Tryz.func39, Tryz.ntmps39
    go_wp2_with fail
    go_ret
    exact ⟨by rw [HF.out]; rfl, Below.refl _ _⟩
  · have HF := Aside0.mk (show checkN l = if ∀ x ∈ l, x.2.size ≤ 65536 then (if 4194304 < totalN l then 5 else 0) else 5 by unfold checkN; rw [if_neg (by omega)])
    have HC := Aside0.mk hC
    have HE := Aside0.mk he
    have HL := Aside0.mk hlen
    clear hC he hlen
    go_enter Tryz.func39, Tryz.ntmps39
    go_wp2_with fail
    go_loopg [10] n (fun gf x10 wx => ∃ k : Nat, k ≤ n ∧ x10 = .int .i64 k ∧ Hid (n ≤ k + gf) ∧ Aside0 (∀ x ∈ l.take k, x.2.size ≤ 65536) ∧ Aside0 (Below W.heap.size W wx))
    case atStart => exact ⟨0, Nat.zero_le _, rfl, by unfold Hid; omega, ⟨by simp⟩, ⟨Below.refl _ _⟩⟩
    case round =>
      obtain ⟨k, hk, rfl, HG, HS, HB⟩ := hrel
      by_cases hlt : k < n
      · obtain ⟨ad, x, hA, hx, hok, hcell⟩ := Kit.at_ (Kd.C_below HC.out HB.out) k hlt
        subst hA
        have HX := Aside0.mk hok
        have HCL := Aside0.mk hcell
        have HXM := Aside0.mk hx
        clear hok hcell hx
        by_cases hbig : 65536 < x.2.size
        · have HF2 := Aside0.mk (show checkN l = 5 by rw [HF.out, if_neg (fun h => by have := h x (mem_at HXM.out); omega)])
          go_wp2_with (first
            | ((with_reducible refine gate_dst (N := 13) rfl ?_); refine load_it rfl rfl rfl HCL.out HX.out Tryz.underlying39 rfl size39 ?_)
            | ((with_reducible refine gate_dst (N := 4) rfl ?_); refine var_blk (cs := itV x) rfl rfl rfl rfl rfl rfl zero39 (itV_size okId_z) (itV_size HX.out) (itV_one x) (fun _ => rfl) (fun _ => rfl) ?_; intro g w2 hg hz hb; have hc32 := it_str_cell hz HX.out; have HB2 := Aside0.mk (below_step HB.out hb); clear hg hz hb))
          go_ret
          exact ⟨by rw [HF2.out]; rfl, HB2.out⟩
        · have HT := Aside0.mk (show ∀ y ∈ l.take (k + 1), y.2.size ≤ 65536 by
            rw [List.take_add_one, HXM.out]
            intro y hy
            rcases List.mem_append.mp hy with hy | hy
            · exact HS.out y hy
            · obtain rfl : y = x := by simpa using hy
              omega)
          go_wp2_with (first
            | ((with_reducible refine gate_dst (N := 13) rfl ?_); refine load_it rfl rfl rfl HCL.out HX.out Tryz.underlying39 rfl size39 ?_)
            | ((with_reducible refine gate_dst (N := 4) rfl ?_); refine var_blk (cs := itV x) rfl rfl rfl rfl rfl rfl zero39 (itV_size okId_z) (itV_size HX.out) (itV_one x) (fun _ => rfl) (fun _ => rfl) ?_; intro g w2 hg hz hb; have hc32 := it_str_cell hz HX.out; have HB2 := Aside0.mk (below_step HB.out hb); clear hg hz hb))
          clear hc32
          go_wp2_with fail
          go_roundg (gk - 1)
          case measure => have := HG.out; omega
          case rel => exact ⟨k + 1, by omega, by go_num, by have := HG.out; unfold Hid; omega, HT, HB2⟩
      · obtain rfl : k = n := by omega
        have hall : ∀ x ∈ l, x.2.size ≤ 65536 := by have := HS.out; rwa [List.take_of_length_le (by rw [HL.out]; exact Nat.le_refl _)] at this
        obtain ⟨t, ht⟩ : ∃ t, totalN l = t := ⟨_, rfl⟩
        have HT := Aside0.mk (show ∀ w, Env w → Kit.C w A k l → Calls Tryz.prog 44 #[.slice A k c] w fun e w' => e = .returned (.int .i64 t) ∧ Below w.heap.size w w' from fun w he hc => ht ▸ total_any A k c l w he hc (by omega) hall)
        have HF2 := Aside0.mk (show checkN l = if 4194304 < t then 5 else 0 by rw [HF.out, if_pos hall, ht])
        clear hall ht
        go_wp2_with fail
        refine (HT.out _ (HE.out.below HB.out) (Kd.C_below HC.out HB.out)).mono ?_
        rintro e w2 ⟨rfl, hb⟩
        have HB2 := Aside0.mk (below_step HB.out hb)
        clear hb
        by_cases hbig : 4194304 < t
        · go_wp2_with fail
          go_ret
          exact ⟨by rw [HF2.out, if_pos hbig]; rfl, HB2.out⟩
        · go_wp2_with fail
          go_ret
          exact ⟨by rw [HF2.out, if_neg hbig]; rfl, HB2.out⟩

theorem checkN_zero {l : List It} (h : checkN l = 0) : l.length ≤ 1000 ∧ (∀ x ∈ l, x.2.size ≤ 65536) ∧ totalN l ≤ 4194304 := by
  unfold checkN at h
  split at h
  · cases h
  · split at h
    · rename_i h1 h2
      split at h
      · cases h
      · exact ⟨by omega, h2, by omega⟩
    · cases h

end Go.Proofs.YtceopllngemnnaaGreatDoor


/-
  Pack of the program: what it returns. For lists of up to a million items.
-/
namespace Go.Proofs.YtceopllngemnnaaGreatDoor
open Go.RowKit Go.Proofs.YtceopllngemnnaaGreatDoorW.PrintWords Go.Proofs.YtceopllngemnnaaGreatDoorW.PrintLast Go.Proofs.YtceopllngemnnaaGreatDoorW.PrintMore Go.Proofs.YtceopllngemnnaaGreatDoor.PRef

def catS : List It → ByteArray
  | [] => ByteArray.empty
  | x :: l => itS x ++ catS l
def hdS (n : Nat) : ByteArray := (⟨#[98, 97, 116, 99, 104, 32]⟩ : ByteArray) ++ numB n ++ (⟨#[10]⟩ : ByteArray)
def endS : ByteArray := ⟨#[101, 110, 100, 10]⟩
/-- The text of a batch. -/
def packS (l : List It) : ByteArray := hdS l.length ++ catS l ++ endS

theorem itS_size {x : It} (h : okId x.1) : (itS x).size = sizeN x := by
  unfold itS sizeN
  simp only [ByteArray.size_append, lit8, lit32, lit10, digS_size, idS_size71 h.1]
  omega
theorem catS_snoc (x : It) : ∀ l : List It, catS (l ++ [x]) = catS l ++ itS x
  | [] => by
    show itS x ++ ByteArray.empty = ByteArray.empty ++ itS x
    rw [ByteArray.append_empty, ByteArray.empty_append]
  | y :: l => by
    show itS y ++ catS (l ++ [x]) = itS y ++ catS l ++ itS x
    rw [catS_snoc x l, ByteArray.append_assoc]
theorem catS_take (l : List It) (k : Nat) (x : It) (h : l[k]? = some x) : catS (l.take (k + 1)) = catS (l.take k) ++ itS x := by
  rw [List.take_add_one, h]
  exact catS_snoc x _
theorem catS_size : ∀ l : List It, (∀ x ∈ l, okId x.1) → (catS l).size = sumN l
  | [], _ => rfl
  | x :: l, h => by
    show (itS x ++ catS l).size = _
    rw [ByteArray.size_append, itS_size (h x List.mem_cons_self), catS_size l (fun y hy => h y (List.mem_cons_of_mem _ hy))]
    simp [sumN]
theorem hdS_size (n : Nat) : (hdS n).size = (numB n).size + 7 := by
  unfold hdS
  simp only [ByteArray.size_append, lit10]
  show 6 + _ + 1 = _
  omega
theorem packS_size (l : List It) (h : ∀ x ∈ l, okId x.1) : (packS l).size = totalN l := by
  unfold packS totalN frameN
  simp only [ByteArray.size_append, catS_size l h, hdS_size]
  show _ + _ + 4 = _
  omega

theorem strCells_append (a b : ByteArray) : Lib.strCells (a ++ b) = Lib.strCells a ++ Lib.strCells b := by
  unfold Lib.strCells
  rw [append_data', List.map_append]
theorem strCells_length (a : ByteArray) : (Lib.strCells a).length = a.size := by
  unfold Lib.strCells
  rw [List.length_map, data_length]
theorem isb_below {T e : TypeId} {B b : Nat} {bs : List Value} {w w' : World} (h : Lib.IsBuilder T e B b bs w) (hb : Below w.heap.size w w') : Lib.IsBuilder T e B b bs w' := by
  rcases h with ⟨h1, v, h2, h3, h4⟩ | ⟨h1, v, h2, h3, h4⟩
  · exact Or.inl ⟨h1, v, blk_below h2 hb, pw_own_below h3 hb, h4⟩
  · exact Or.inr ⟨h1, v, blk_below h2 hb, pw_own_below h3 hb, h4⟩
theorem zero82 : (Tryz.prog.info? 82).map (fun i => (i.zero, i.size)) = some (some (.agg #[.pointer none, .slice none 0 0]), 2) := by kernel_rfl
theorem isb_new {W : World} {B g : Nat} (hB : B ≤ g) (h : Blk W g #[.pointer none, .slice none 0 0] 82) : Lib.IsBuilder 82 5 B g [] W :=
  Or.inl ⟨hB, _, h, own_nil _ _ _ _, by simp [Value.ownBlock]⟩
theorem Kit.ok_all {W : World} {A : Option Addr} {n : Nat} {l : List It} (h : Kit.C W A n l) : ∀ x ∈ l, okId x.1 := by
  intro x hx
  obtain ⟨k, hk⟩ := List.mem_iff_getElem?.mp hx
  have hlt : k < n := by rw [← h.1]; exact (List.getElem?_eq_some_iff.1 hk).1
  obtain ⟨_, y, _, h2, h3, _⟩ := Kit.at_ h k hlt
  rw [hk] at h2
  obtain rfl := Option.some.inj h2
  exact h3

def packR (l : List It) : ByteArray × Int := if checkN l = 0 then (packS l, 0) else (ByteArray.empty, checkN l)

set_option maxHeartbeats 4000000 in
set_option maxRecDepth 100000 in
theorem pack_any (A : Option Addr) (n c : Nat) (l : List It) (W : World) (he : Env W) (hC : Kit.C W A n l) :
    Calls Tryz.prog 18 #[.slice A n c] W fun e w' => e = .returned (.tuple #[.string (packR l).1, .int .i64 (packR l).2]) ∧ Below W.heap.size W w' := by
  have hlen : l.length = n := hC.1
  have hoks := Kit.ok_all hC
  obtain ⟨k, hk⟩ : ∃ k, checkN l = k := ⟨_, rfl⟩
  have HK := Aside0.mk (show ∀ w, Env w → Kit.C w A n l → Calls Tryz.prog 39 #[.slice A n c] w fun e w' => e = .returned (.int .i64 k) ∧ Below w.heap.size w w' from fun w he hc => hk ▸ check_any A n c l w he hc)
  have HC := Aside0.mk hC
  have HE := Aside0.mk he
  by_cases h0 : k = 0
  · subst h0
    obtain ⟨g1, g2, g3⟩ := checkN_zero hk
    have hps := packS_size l hoks
    have HF := Aside0.mk (show packR l = (packS l, 0) by unfold packR; rw [if_pos hk])
    have hn : n ≤ 1000 := by omega
    obtain ⟨sN, hsN⟩ : ∃ sN, numB n = sN := ⟨_, rfl⟩
    have HD := Aside0.mk (fun w he => hsN ▸ digits_nat n w he (by omega))
    have hdl := dec_len n
    rw [← numB_size, hsN] at hdl
    obtain ⟨hd, hhd⟩ : ∃ hd, (⟨#[98, 97, 116, 99, 104, 32]⟩ : ByteArray) ++ sN ++ (⟨#[10]⟩ : ByteArray) = hd := ⟨_, rfl⟩
    have HHD := Aside0.mk hhd
    have HP := Aside0.mk (show packS l = hd ++ catS l ++ endS by unfold packS hdS; rw [hlen, hsN, hhd])
    have hds : hd.size = sN.size + 7 := by
      rw [← hhd]
      simp only [ByteArray.size_append, lit10]
      show 6 + _ + 1 = _
      omega
    have HCS := Aside0.mk (show ∀ j, (catS (l.take j)).size ≤ 4194304 by
      intro j
      rw [catS_size _ (fun x hx => hoks x (List.mem_of_mem_take hx))]
      have h1 : sumN l = sumN (l.take j) + sumN (l.drop j) := by
        unfold sumN
        conv => lhs; rw [← List.take_append_drop j l]
        rw [List.map_append, List.sum_append]
      unfold totalN at g3
      omega)
    have HSM := Aside0.mk g2
    have HL := Aside0.mk hlen
    clear hC he hk hps hlen g1 g2 g3 hoks hsN hhd
    go_enter Tryz.func18, Tryz.ntmps18
    go_wp2_with fail
    refine (HK.out _ HE.out HC.out).mono ?_
    rintro e w1 ⟨rfl, hb⟩
    have HB := Aside0.mk hb
    clear hb
    go_wp2_with (first
      | ((with_reducible refine gate_dst (N := 5) rfl ?_); refine alloc_blk rfl rfl rfl zero82 ?_; intro g w2 hg hz hb; have HGE := Aside0.mk (show W.heap.size ≤ g by rw [hg]; exact HB.out.size); have HI := Aside0.mk (isb_new HGE.out hz); have HB2 := Aside0.mk (below_step HB.out hb); clear hg hz hb))
    refine (HD.out _ (HE.out.below HB2.out)).mono ?_
    rintro e w3 ⟨rfl, hb⟩
    have HI3 := Aside0.mk (isb_below HI.out hb)
    have HB3 := Aside0.mk (below_step HB2.out hb)
    clear hb HI
    go_wp2_with fail
    rw [HHD.out]
    refine (writeString_any W.heap.size g [] hd _ HI3.out (by simp; omega) HB3.out.size).mono ?_
    rintro e w4 ⟨rfl, hi, hb⟩
    rw [List.nil_append] at hi
    have HI4 := Aside0.mk hi
    have HB4 := Aside0.mk (HB3.out.trans hb)
    clear hi hb HI3
    go_wp2_with fail
    go_loopg [21] n (fun gf x21 wx => ∃ k : Nat, k ≤ n ∧ x21 = .int .i64 k ∧ Hid (n ≤ k + gf) ∧ Aside0 (Lib.IsBuilder 82 5 W.heap.size g (Lib.strCells (hd ++ catS (l.take k))) wx) ∧ Aside0 (Below W.heap.size W wx))
    case atStart => exact ⟨0, Nat.zero_le _, rfl, by unfold Hid; omega, ⟨by
      show Lib.IsBuilder 82 5 W.heap.size g (Lib.strCells (hd ++ ByteArray.empty)) _
      rw [ByteArray.append_empty]
      exact Or.inr HI4.out⟩, HB4⟩
    case round =>
      clear HI4 HB4
      obtain ⟨k, hk, rfl, HG, HI, HB⟩ := hrel
      by_cases hlt : k < n
      · obtain ⟨ad, x, hA, hx, hok, hcell⟩ := Kit.at_ (Kd.C_below HC.out HB.out) k hlt
        subst hA
        have HX := Aside0.mk hok
        have HCL := Aside0.mk hcell
        have HCT := Aside0.mk (catS_take l k x hx)
        have hxs := HSM.out x (mem_at hx)
        obtain ⟨s, hs⟩ : ∃ s, itS x = s := ⟨_, rfl⟩
        have hss : s.size ≤ 80000 := by rw [← hs, itS_size hok]; exact sizeN_le x hxs
        have HT := Aside0.mk (show ∀ w, Env w → Calls Tryz.prog 42 #[.agg (itV x)] w fun e w' => e = .returned (.string s) ∧ Below w.heap.size w w' from fun w he => hs ▸ text_any x w he hok (by omega))
        rw [hs] at HCT
        clear hok hcell hx hs
        go_wp2_with (first
          | ((with_reducible refine gate_dst (N := 24) rfl ?_); refine load_it rfl rfl rfl HCL.out HX.out Tryz.underlying39 rfl size39 ?_)
          | ((with_reducible refine gate_dst (N := 7) rfl ?_); refine var_blk (cs := itV x) rfl rfl rfl rfl rfl rfl zero39 (itV_size okId_z) (itV_size HX.out) (itV_one x) (fun _ => rfl) (fun _ => rfl) ?_; intro g7 w2 hg hz hb; have HZ := Aside0.mk hz; have HI2 := Aside0.mk (isb_below HI.out hb); have HB2 := Aside0.mk (below_step HB.out hb); clear hg hz hb)
          | ((with_reducible refine gate_dst (N := 25) rfl ?_); refine load_blk rfl rfl rfl HZ.out Tryz.underlying39 rfl (by rw [itV_size HX.out]; exact size39) ?_))
        refine (HT.out _ (HE.out.below HB2.out)).mono ?_
        rintro e w3 ⟨rfl, hb⟩
        have HI3 := Aside0.mk (isb_below HI2.out hb)
        have HB3 := Aside0.mk (below_step HB2.out hb)
        clear hb HI2 HZ
        go_wp2_with fail
        refine (writeString_any W.heap.size g _ s _ HI3.out (by rw [strCells_length, ByteArray.size_append]; have := HCS.out k; omega) HB3.out.size).mono ?_
        rintro e w4 ⟨rfl, hi, hb⟩
        have HI4 := Aside0.mk hi
        have HB4 := Aside0.mk (HB3.out.trans hb)
        clear hi hb HI3
        go_wp2_with fail
        go_roundg (gk - 1)
        case measure => have := HG.out; omega
        case rel => exact ⟨k + 1, by omega, by go_num, by have := HG.out; unfold Hid; omega, ⟨by rw [HCT.out, ← ByteArray.append_assoc, strCells_append]; exact Or.inr HI4.out⟩, HB4⟩
      · obtain rfl : k = n := by omega
        have hfull : l.take k = l := List.take_of_length_le (by rw [HL.out]; exact Nat.le_refl _)
        have hI := HI.out
        have hcs := HCS.out k
        rw [hfull] at hI hcs
        have HI1 := Aside0.mk hI
        clear hI hfull HI
        go_wp2_with fail
        refine (writeString_any W.heap.size g _ endS _ HI1.out (by rw [strCells_length, ByteArray.size_append]; show _ + 4 ≤ _; omega) HB.out.size).mono ?_
        rintro e w4 ⟨rfl, hi, hb⟩
        rw [← strCells_append, ← HP.out] at hi
        have HI4 := Aside0.mk hi
        have HB4 := Aside0.mk (HB.out.trans hb)
        clear hi hb HI1 hcs
        go_wp2_with fail
        refine (Tryz.Builder_String_any W.heap.size g (packS l).data.toList _ (Or.inr HI4.out) HB4.out.size).mono ?_
        rintro e w5 ⟨rfl, hb⟩
        have HB5 := Aside0.mk (HB4.out.trans hb)
        clear hb
        go_wp2_with fail
        go_ret2
        exact ⟨by rw [HF.out]; rfl, HB5.out⟩
  · have HF := Aside0.mk (show packR l = (ByteArray.empty, k) by unfold packR; rw [if_neg (by rw [hk]; exact h0), hk])
    clear hC he hk hlen hoks
    go_enter Tryz.func18, Tryz.ntmps18
    go_wp2_with fail
    refine (HK.out _ HE.out HC.out).mono ?_
    rintro e w1 ⟨rfl, hb⟩
    have HB := Aside0.mk hb
    clear hb
    go_wp2_with fail
    go_ret2
    exact ⟨by rw [HF.out]; rfl, HB.out⟩

end Go.Proofs.YtceopllngemnnaaGreatDoor


/-
  The cursor of package batch: fail and line: what they do. For texts of up to four billion bytes.
-/
namespace Go.Proofs.YtceopllngemnnaaGreatDoor
open Go.RowKit Go.Proofs.YtceopllngemnnaaGreatDoorW.PrintWords Go.Proofs.YtceopllngemnnaaGreatDoorW.PrintLast Go.Proofs.YtceopllngemnnaaGreatDoorW.PrintMore Go.Proofs.YtceopllngemnnaaGreatDoor.PRef

/-- Only block g (and new ones) may have been written. -/
def Mod (g : Nat) (W W' : World) : Prop := KeepBut W W' g none ∧ ∀ base, base ≤ g → base ≤ W.heap.size → Below base W W'
theorem Mod.refl (g : Nat) (W : World) : Mod g W W := ⟨KeepBut.refl _ _ _, fun _ _ _ => Below.refl _ _⟩
theorem Mod.trans {g : Nat} {W W1 W2 : World} (h : Mod g W W1) (k : Mod g W1 W2) : Mod g W W2 :=
  ⟨h.1.trans k.1 (.inl rfl), fun base h1 h2 => (h.2 base h1 h2).trans (k.2 base h1 (Nat.le_trans h2 h.1.1))⟩
theorem Mod.of_below {g : Nat} {W W1 : World} (h : Below W.heap.size W W1) : Mod g W W1 := ⟨KeepBut.of_below h g none, fun base _ h2 => h.mono h2⟩
theorem Mod.drewN (g : Nat) (W : World) (n : Nat) : Mod g W (W.drewN n) := Mod.of_below (pw_below_drewN (Below.refl _ _) n)
theorem Mod.set_ {g : Nat} {W W1 : World} (h : Mod g W W1) (j : Nat) (u : Value) : Mod g W (W1.setCell ⟨g, j, none⟩ u) :=
  ⟨h.1.set_ j u, fun base h1 h2 => (h.2 base h1 h2).setCell (p := ⟨g, j, none⟩) h1 u⟩
theorem Mod.blk {g g' : Nat} {W W1 : World} {cs : Array Value} {t : TypeId} (h : Mod g W W1) (hb : Blk W g' cs t) (hne : g' ≠ g) : Blk W1 g' cs t := h.1.blk hb hne (by simp)
theorem Mod.env {g : Nat} {W W1 : World} (h : Mod g W W1) (he : Env W) (hg : 4 ≤ g) : Env W1 := by
  obtain ⟨⟨m, hm⟩, ht, ⟨tp, p, hp⟩, ⟨tq, q, hq⟩, hbig⟩ := he
  have hb := h.2 4 hg hbig
  exact ⟨⟨m, (hb.cell (p := ⟨0, 0, none⟩) (by show 0 < _; omega)).trans hm⟩, var?_below hb tab_named (by omega) ht, ⟨tp, p, (hb.cell (p := ⟨2, 0, none⟩) (by show 2 < _; omega)).trans hp⟩, ⟨tq, q, (hb.cell (p := ⟨1, 0, none⟩) (by show 1 < _; omega)).trans hq⟩, by have := h.1.1; omega⟩
theorem Mod.size {g : Nat} {W W1 : World} (h : Mod g W W1) : W.heap.size ≤ W1.heap.size := h.1.1
theorem Mod.below {g : Nat} {W0 W W1 : World} (h : Mod g W W1) (hb : Below W0.heap.size W0 W) (hg : W0.heap.size ≤ g) : Below W0.heap.size W0 W1 := hb.trans (h.2 _ hg hb.size)

/-- The cells of a cursor. -/
def cur (s : ByteArray) (k : Nat) (e : Int) : Array Value := #[.string s, .int .i64 k, .int .i64 e]
theorem cur_cells {W : World} {g : Nat} {s : ByteArray} {k : Nat} {e : Int} (h : Blk W g (cur s k e) 75) :
    W.cell? ⟨g, 0, none⟩ = some (.string s) ∧ W.cell? ⟨g, 1, none⟩ = some (.int .i64 k) ∧ W.cell? ⟨g, 2, none⟩ = some (.int .i64 e) ∧ W.frozen? ⟨g, 1, none⟩ = false ∧ W.frozen? ⟨g, 2, none⟩ = false :=
  ⟨by rw [Lib.cell_of_heap h]; rfl, by rw [Lib.cell_of_heap h]; rfl, by rw [Lib.cell_of_heap h]; rfl, Lib.frozen_of_heap h 1, Lib.frozen_of_heap h 2⟩

set_option maxHeartbeats 1000000 in
set_option maxRecDepth 100000 in
theorem fail_any (g k k2 : Nat) (e e2 : Int) (s : ByteArray) (W : World) (h : Blk W g (cur s k e) 75) :
    Calls Tryz.prog 59 #[.pointer (some ⟨g, 0, none⟩), .int .i64 k2, .int .i64 e2] W fun r w' => r = .returned (.tuple #[]) ∧ Blk w' g (if e = 0 then cur s k2 e2 else cur s k e) 75 ∧ Mod g W w' := by
  obtain ⟨c0, c1, c2, f1, f2⟩ := cur_cells h
  have HB := Aside0.mk h
  by_cases h0 : e = 0
  · subst h0
    clear h
    go_enter Tryz.func59, Tryz.ntmps59
    go_wp2_with fail
    go_end0
    refine ⟨rfl, ?_, ((Mod.refl g W).set_ 1 _).set_ 2 _⟩
    exact blk_set (blk_set HB.out 1 _) 2 _
  · clear h
    go_enter Tryz.func59, Tryz.ntmps59
    go_wp2_with fail
    go_end0
    exact ⟨rfl, HB.out, Mod.refl _ _⟩

/-- A line is cut off. -/
theorem cut_some (s : ByteArray) (k j : Nat) (h : nl s k = some j) (m : Int) (w : World) (hs : s.size < 4294967281) (hm : w.cell? ⟨0, 0, none⟩ = some (.int .i64 m)) :
    Calls Tryz.prog 57 #[.string (s.extract k s.size), .string ⟨#[10]⟩] w fun e w' => e = .returned (.tuple #[.string (s.extract k j), .string (s.extract (j + 1) s.size), .bool true]) ∧ ∃ n, w' = w.drewN n := by
  obtain ⟨a, r, h1, h2, rfl⟩ := nl_some s k j h
  have hle := nl_le s k _ h
  have hd : (s.extract k s.size).data.toList = s.data.toList.drop k := by
    rw [extract_list, List.take_of_length_le (by rw [List.length_drop, data_length]; exact Nat.le_refl _)]
  have hi : Lib.indexB (s.extract k s.size) ⟨#[10]⟩ = (a.length : Int) := by
    show Lib.index _ [10] = _
    rw [hd, Lib.index_one, h1, indexByte_at _ _ _ h2]
  obtain ⟨e1, e2, e3⟩ := Lib.cutB_hit _ _ _ hi
  have hsz : (s.extract k s.size).size = s.size - k := by rw [← data_length, hd, List.length_drop, data_length]
  have := Tryz.strings_Cut (s.extract k s.size) ⟨#[10]⟩ m w (by omega) hm
  rw [e1, e2, e3] at this
  have q1 : (s.extract k s.size).extract 0 a.length = s.extract k (k + a.length) := by
    apply data_inj
    rw [extract_list, hd, List.drop_zero, extract_list]
    congr 1
    omega
  have q2 : (s.extract k s.size).extract (a.length + (⟨#[10]⟩ : ByteArray).size) (s.extract k s.size).size = s.extract (k + a.length + 1) s.size := by
    apply data_inj
    rw [extract_list, hd, hsz, extract_list, List.drop_drop]
    show List.take (s.size - k - (a.length + 1)) (List.drop (k + (a.length + 1)) _) = _
    rw [show k + (a.length + 1) = k + a.length + 1 by omega]
    congr 1
    omega
  rw [q1, q2] at this
  exact this
theorem cut_none (s : ByteArray) (k : Nat) (h : nl s k = none) (m : Int) (w : World) (hs : s.size < 4294967281) (hm : w.cell? ⟨0, 0, none⟩ = some (.int .i64 m)) :
    Calls Tryz.prog 57 #[.string (s.extract k s.size), .string ⟨#[10]⟩] w fun e w' => e = .returned (.tuple #[.string (s.extract k s.size), .string ByteArray.empty, .bool false]) ∧ ∃ n, w' = w.drewN n := by
  have hd : (s.extract k s.size).data.toList = s.data.toList.drop k := by
    rw [extract_list, List.take_of_length_le (by rw [List.length_drop, data_length]; exact Nat.le_refl _)]
  have hi : Lib.indexB (s.extract k s.size) ⟨#[10]⟩ = -1 := by
    show Lib.index _ [10] = _
    rw [hd, Lib.index_one, indexByte_not _ _ (nl_none s k h)]
  obtain ⟨e1, e2, e3⟩ := Lib.cutB_miss _ _ hi
  have hsz : (s.extract k s.size).size = s.size - k := by rw [← data_length, hd, List.length_drop, data_length]
  have := Tryz.strings_Cut (s.extract k s.size) ⟨#[10]⟩ m w (by omega) hm
  rw [e1, e2, e3] at this
  exact this

set_option maxHeartbeats 1000000 in
set_option maxRecDepth 100000 in
theorem line_err (g k : Nat) (e : Int) (s : ByteArray) (W : World) (h : Blk W g (cur s k e) 75) (h0 : e ≠ 0) :
    Calls Tryz.prog 56 #[.pointer (some ⟨g, 0, none⟩)] W fun r w' => r = .returned (.tuple #[.string ByteArray.empty, .int .i64 0]) ∧ w' = W := by
  obtain ⟨c0, c1, c2, f1, f2⟩ := cur_cells h
  clear h
  go_enter Tryz.func56, Tryz.ntmps56
  go_wp2_with fail
  go_ret2
  exact ⟨rfl, rfl⟩

set_option maxHeartbeats 2000000 in
set_option maxRecDepth 100000 in
theorem line_some (g k j : Nat) (s : ByteArray) (W : World) (he : Env W) (h : Blk W g (cur s k 0) 75) (hs : s.size < 4294967281) (hk : k ≤ s.size) (hj : nl s k = some j) :
    Calls Tryz.prog 56 #[.pointer (some ⟨g, 0, none⟩)] W fun r w' => r = .returned (.tuple #[.string (s.extract k j), .int .i64 k]) ∧ Blk w' g (cur s (j + 1) 0) 75 ∧ Mod g W w' := by
  obtain ⟨c0, c1, c2, f1, f2⟩ := cur_cells h
  obtain ⟨m, hm⟩ := he.len
  have HB := Aside0.mk h
  have hjl := nl_le s k j hj
  obtain ⟨ln, hln⟩ : ∃ ln, s.extract k j = ln := ⟨_, rfl⟩
  have hlns : ln.size = j - k := by rw [← hln, ← data_length, extract_list, List.length_take, List.length_drop, data_length]; omega
  obtain ⟨r, hr⟩ : ∃ r, s.extract (j + 1) s.size = r := ⟨_, rfl⟩
  have HCUT := Aside0.mk (show ∀ n, Calls Tryz.prog 57 #[.string (s.extract k s.size), .string ⟨#[10]⟩] (W.drewN n) fun e w' => e = .returned (.tuple #[.string ln, .string r, .bool true]) ∧ ∃ m, w' = (W.drewN n).drewN m from fun n => hln ▸ hr ▸ cut_some s k j hj m (W.drewN n) hs hm)
  rw [hln]
  clear h he hm hln hr hj
  go_enter Tryz.func56, Tryz.ntmps56
  go_wp2_with fail
  go_quiet ((go_at_call 57; exact Calls.quiet_of (HCUT.out _)))
  go_wp2_with fail
  go_ret2
  have e1 : (k : Int) + (((j - k : Nat) : Int) + 1) = ((j + 1 : Nat) : Int) := by omega
  refine ⟨rfl, ?_, (Mod.drewN g W _).set_ 1 _⟩
  rw [e1]
  exact blk_set (w := W.drewN nq) HB.out 1 _

set_option maxHeartbeats 2000000 in
set_option maxRecDepth 100000 in
theorem line_none (g k : Nat) (s : ByteArray) (W : World) (he : Env W) (h : Blk W g (cur s k 0) 75) (hs : s.size < 4294967281) (hk : k ≤ s.size) (hj : nl s k = none) :
    Calls Tryz.prog 56 #[.pointer (some ⟨g, 0, none⟩)] W fun r w' => r = .returned (.tuple #[.string ByteArray.empty, .int .i64 0]) ∧ Blk w' g (cur s s.size 23) 75 ∧ Mod g W w' := by
  obtain ⟨c0, c1, c2, f1, f2⟩ := cur_cells h
  obtain ⟨m, hm⟩ := he.len
  have HB := Aside0.mk h
  obtain ⟨ln, hln⟩ : ∃ ln, s.extract k s.size = ln := ⟨_, rfl⟩
  have HCUT := Aside0.mk (show ∀ n, Calls Tryz.prog 57 #[.string (s.extract k s.size), .string ⟨#[10]⟩] (W.drewN n) fun e w' => e = .returned (.tuple #[.string ln, .string ByteArray.empty, .bool false]) ∧ ∃ m, w' = (W.drewN n).drewN m from fun n => hln ▸ cut_none s k hj m (W.drewN n) hs hm)
  clear h he hm hln hj
  go_enter Tryz.func56, Tryz.ntmps56
  go_wp2_with fail
  go_quiet ((go_at_call 57; exact Calls.quiet_of (HCUT.out _)))
  go_wp2_with fail
  refine (fail_any g k s.size 0 23 s _ (show Blk (W.drewN nq) g (cur s k 0) 75 from HB.out)).mono ?_
  rintro e w1 ⟨rfl, hb, hm⟩
  rw [if_pos rfl] at hb
  have HB1 := Aside0.mk hb
  have HM1 := Aside0.mk ((Mod.drewN g W _).trans hm)
  clear hb hm
  go_wp2_with fail
  go_ret2
  exact ⟨rfl, HB1.out, HM1.out⟩

/-! ### first -/
def batB : ByteArray := ⟨#[98, 97, 116, 99, 104]⟩
def cutSp (s : ByteArray) : ByteArray × ByteArray := (mkB (Lib.cut s.data.toList [32]).1, mkB (Lib.cut s.data.toList [32]).2.1)
/-- The number of items that a first line tells. -/
def firstF (s : ByteArray) : Option Nat := if (cutSp s).1 = batB ∧ (numF (cutSp s).2 1000).2 = 0 then some (numF (cutSp s).2 1000).1.toNat else none
theorem numF_range (s : ByteArray) (most : Int) (h0 : 0 ≤ most) (hm : most < 9223372036854775808) : 0 ≤ (numF s most).1 ∧ (numF s most).1 ≤ most := by
  by_cases h : (numF s most).2 = 0
  · obtain ⟨n, h1, h2, _⟩ := num_dec s most hm h
    rw [h1]; omega
  · by_cases hbad : s.size = 0 ∨ ¬ (∀ c ∈ s.data.toList, dig c = true) ∨ (bt s 0 = 48 ∧ 1 < s.size)
    · rw [numF_bad s most hbad]; exact ⟨Int.le_refl _, h0⟩
    · have h0' : s.size ≠ 0 := fun h => hbad (Or.inl h)
      have hd : ∀ c ∈ s.data.toList, dig c = true := Classical.not_not.mp fun h => hbad (Or.inr (Or.inl h))
      have hz : ¬ (bt s 0 = 48 ∧ 1 < s.size) := fun h => hbad (Or.inr (Or.inr h))
      rw [numF_good s most h0' hd hz] at h ⊢
      split
      · rename_i hc; rw [if_pos hc] at h; exact absurd rfl h
      · exact ⟨Int.le_refl _, h0⟩

theorem cutSp_any (s : ByteArray) (m : Int) (w : World) (hs : s.size < 4294967281) (hm : w.cell? ⟨0, 0, none⟩ = some (.int .i64 m)) :
    Calls Tryz.prog 57 #[.string s, .string ⟨#[32]⟩] w fun e w' => ∃ b, e = .returned (.tuple #[.string (cutSp s).1, .string (cutSp s).2, .bool b]) ∧ ∃ n, w' = w.drewN n :=
  (Tryz.strings_Cut s ⟨#[32]⟩ m w hs hm).mono fun e w' ⟨he, hw⟩ => ⟨_, he, hw⟩
theorem cutSp_le (s : ByteArray) : (cutSp s).2.size ≤ s.size := by
  unfold cutSp
  rw [mkB_size]
  unfold Lib.cut
  split
  · rw [List.length_drop, data_length]; omega
  · simp

set_option maxHeartbeats 2000000 in
set_option maxRecDepth 100000 in
theorem first_none (g : Nat) (s : ByteArray) (W : World) (he : Env W) (hg : 4 ≤ g) (h : Blk W g (cur s 0 0) 75) (hs : s.size ≤ 4194304) (hj : nl s 0 = none) :
    Calls Tryz.prog 34 #[.pointer (some ⟨g, 0, none⟩)] W fun r w' => r = .returned (.int .i64 0) ∧ Blk w' g (cur s s.size 23) 75 ∧ Mod g W w' := by
  have HL := Aside0.mk (line_none g 0 s W he h (by omega) (Nat.zero_le _) hj)
  have HE := Aside0.mk he
  clear h he hj
  go_enter Tryz.func34, Tryz.ntmps34
  go_wp2_with fail
  refine HL.out.mono ?_
  rintro e w1 ⟨rfl, hb, hm⟩
  obtain ⟨c0, c1, c2, f1, f2⟩ := cur_cells hb
  have HB1 := Aside0.mk hb
  have HM1 := Aside0.mk hm
  have HE1 := Aside0.mk (hm.env HE.out hg)
  obtain ⟨mx, hmx⟩ := HE1.out.len
  have HMX := Aside0.mk hmx
  clear hb hm hmx
  go_wp2_with fail
  refine (cutSp_any ByteArray.empty mx _ (by decide) HMX.out).mono ?_
  rintro e w2 ⟨b, rfl, n, rfl⟩
  have hc1 : (cutSp ByteArray.empty).1 = ByteArray.empty := by decide
  have hc2 : (cutSp ByteArray.empty).2 = ByteArray.empty := by decide
  rw [hc1, hc2]
  clear hc1 hc2
  go_wp2_with fail
  refine (number_any ByteArray.empty 1000 _ (HE1.out.below (pw_below_drewN (Below.refl _ _) n)) (by decide)).mono ?_
  rintro e w3 ⟨rfl, hb⟩
  have hn1 : (numF ByteArray.empty 1000).1 = 0 := by decide
  have hn2 : (numF ByteArray.empty 1000).2 = 3 := by decide
  rw [hn1, hn2]
  clear hn1 hn2 c0 c1 c2 f1 f2
  have HB3 := Aside0.mk (Blk.below (W := w1.drewN n) HB1.out hb)
  have HM3 := Aside0.mk (HM1.out.trans ((Mod.drewN g w1 n).trans (Mod.of_below hb)))
  obtain ⟨c0, c1, c2, f1, f2⟩ := cur_cells HB3.out
  clear hb HB1 HM1
  go_wp2_with fail
  go_ret
  exact ⟨rfl, HB3.out, HM3.out⟩

set_option maxHeartbeats 2000000 in
set_option maxRecDepth 100000 in
theorem first_ok (g j n : Nat) (s : ByteArray) (W : World) (he : Env W) (hg : 4 ≤ g) (h : Blk W g (cur s 0 0) 75) (hs : s.size ≤ 1000000) (hj : nl s 0 = some j) (hf : firstF (s.extract 0 j) = some n) :
    n ≤ 1000 ∧ Calls Tryz.prog 34 #[.pointer (some ⟨g, 0, none⟩)] W fun r w' => r = .returned (.int .i64 n) ∧ Blk w' g (cur s (j + 1) 0) 75 ∧ Mod g W w' := by
  have HL := Aside0.mk (line_some g 0 j s W he h (by omega) (Nat.zero_le _) hj)
  have HE := Aside0.mk he
  have hjs := (nl_le s 0 j hj).2
  obtain ⟨ln, hln⟩ : ∃ ln, s.extract 0 j = ln := ⟨_, rfl⟩
  have hls : ln.size = j := by rw [← hln, ← data_length, extract_list, List.length_take, List.length_drop, data_length]; omega
  rw [hln] at HL hf
  clear h he hj hln
  unfold firstF at hf
  have hd := cutSp_le ln
  have HCS := Aside0.mk (fun mx w hm => cutSp_any ln mx w (by omega) hm)
  obtain ⟨wd, hwd⟩ : ∃ wd, (cutSp ln).1 = wd := ⟨_, rfl⟩
  obtain ⟨dg, hdg⟩ : ∃ dg, (cutSp ln).2 = dg := ⟨_, rfl⟩
  rw [hwd, hdg] at hf HCS
  rw [hdg] at hd
  have hnr := numF_range dg 1000 (by omega) (by omega)
  have HNA := Aside0.mk (fun w he => number_any dg 1000 w he (by omega))
  obtain ⟨v, hv⟩ : ∃ v, (numF dg 1000).1 = v := ⟨_, rfl⟩
  obtain ⟨e, hev⟩ : ∃ e, (numF dg 1000).2 = e := ⟨_, rfl⟩
  rw [hv, hev] at hf HNA
  rw [hv] at hnr
  obtain ⟨hnr1, hnr2⟩ := hnr
  clear hwd hdg hv hev hd
  by_cases hc : wd = batB ∧ e = 0
  · rw [if_pos hc] at hf
    obtain rfl := Option.some.inj hf
    obtain ⟨rfl, rfl⟩ := hc
    refine ⟨by omega, ?_⟩
    have hw : batB.toList = [98, 97, 116, 99, 104] := by rw [ByteArray.toList_eq]; rfl
    clear hf
    obtain ⟨n, rfl⟩ := Int.eq_ofNat_of_zero_le hnr1
    rw [Int.toNat_natCast]
    go_enter Tryz.func34, Tryz.ntmps34
    go_wp2_with fail
    refine HL.out.mono ?_
    rintro e' w1 ⟨rfl, hb, hm⟩
    obtain ⟨c0, c1, c2, f1, f2⟩ := cur_cells hb
    have HB1 := Aside0.mk hb
    have HM1 := Aside0.mk hm
    have HE1 := Aside0.mk (hm.env HE.out hg)
    obtain ⟨mx, hmx⟩ := HE1.out.len
    have HMX := Aside0.mk hmx
    clear hb hm hmx
    go_wp2_with fail
    refine (HCS.out mx _ HMX.out).mono ?_
    rintro e' w2 ⟨b, rfl, n', rfl⟩
    go_wp2_with fail
    refine (HNA.out _ (HE1.out.below (pw_below_drewN (Below.refl _ _) n'))).mono ?_
    rintro e' w3 ⟨rfl, hb⟩
    clear c0 c1 c2 f1 f2
    have HB3 := Aside0.mk (Blk.below (W := w1.drewN n') HB1.out hb)
    have HM3 := Aside0.mk (HM1.out.trans ((Mod.drewN g w1 n').trans (Mod.of_below hb)))
    obtain ⟨c0, c1, c2, f1, f2⟩ := cur_cells HB3.out
    clear hb HB1 HM1
    go_wp2_with fail
    go_ret
    exact ⟨rfl, HB3.out, HM3.out⟩
  · rw [if_neg hc] at hf; cases hf

theorem batB_ne {wd : ByteArray} (h : wd ≠ batB) : ¬ wd.toList = [98, 97, 116, 99, 104] := by
  intro he
  apply h
  apply data_inj
  rw [ByteArray.toList_eq] at he
  rw [he]; rfl

set_option maxHeartbeats 2000000 in
set_option maxRecDepth 100000 in
theorem first_bad (g j n : Nat) (s : ByteArray) (W : World) (he : Env W) (hg : 4 ≤ g) (h : Blk W g (cur s 0 0) 75) (hs : s.size ≤ 1000000) (hj : nl s 0 = some j) (hf : firstF (s.extract 0 j) = none) (hn : (numF (cutSp (s.extract 0 j)).2 1000).1 = (n : Int)) :
    Calls Tryz.prog 34 #[.pointer (some ⟨g, 0, none⟩)] W fun r w' => r = .returned (.int .i64 n) ∧ Blk w' g (cur s 0 3) 75 ∧ Mod g W w' := by
  have HL := Aside0.mk (line_some g 0 j s W he h (by omega) (Nat.zero_le _) hj)
  have HE := Aside0.mk he
  have hjs := (nl_le s 0 j hj).2
  obtain ⟨ln, hln⟩ : ∃ ln, s.extract 0 j = ln := ⟨_, rfl⟩
  have hls : ln.size = j := by rw [← hln, ← data_length, extract_list, List.length_take, List.length_drop, data_length]; omega
  rw [hln] at HL hf hn
  clear h he hj hln
  unfold firstF at hf
  have hd := cutSp_le ln
  have HCS := Aside0.mk (fun mx w hm => cutSp_any ln mx w (by omega) hm)
  obtain ⟨wd, hwd⟩ : ∃ wd, (cutSp ln).1 = wd := ⟨_, rfl⟩
  obtain ⟨dg, hdg⟩ : ∃ dg, (cutSp ln).2 = dg := ⟨_, rfl⟩
  rw [hwd, hdg] at hf HCS
  rw [hdg] at hn
  rw [hdg] at hd
  have hnr := numF_range dg 1000 (by omega) (by omega)
  have HNA := Aside0.mk (fun w he => number_any dg 1000 w he (by omega))
  obtain ⟨v, hv⟩ : ∃ v, (numF dg 1000).1 = v := ⟨_, rfl⟩
  obtain ⟨e, hev⟩ : ∃ e, (numF dg 1000).2 = e := ⟨_, rfl⟩
  rw [hv, hev] at hf HNA
  rw [hv] at hn
  subst hn
  rw [hv] at hnr
  obtain ⟨hnr1, hnr2⟩ := hnr
  clear hwd hdg hv hev hd
  by_cases hw' : wd = batB
  · have h0 : e ≠ 0 := fun h0 => by rw [if_pos ⟨hw', h0⟩] at hf; cases hf
    subst hw'
    have hw : batB.toList = [98, 97, 116, 99, 104] := by rw [ByteArray.toList_eq]; rfl
    clear hf
    go_enter Tryz.func34, Tryz.ntmps34
    go_wp2_with fail
    refine HL.out.mono ?_
    rintro e' w1 ⟨rfl, hb, hm⟩
    obtain ⟨c0, c1, c2, f1, f2⟩ := cur_cells hb
    have HB1 := Aside0.mk hb
    have HM1 := Aside0.mk hm
    have HE1 := Aside0.mk (hm.env HE.out hg)
    obtain ⟨mx, hmx⟩ := HE1.out.len
    have HMX := Aside0.mk hmx
    clear hb hm hmx
    go_wp2_with fail
    refine (HCS.out mx _ HMX.out).mono ?_
    rintro e' w2 ⟨b, rfl, n', rfl⟩
    go_wp2_with fail
    refine (HNA.out _ (HE1.out.below (pw_below_drewN (Below.refl _ _) n'))).mono ?_
    rintro e' w3 ⟨rfl, hb⟩
    clear c0 c1 c2 f1 f2
    have HB3 := Aside0.mk (Blk.below (W := w1.drewN n') HB1.out hb)
    have HM3 := Aside0.mk (HM1.out.trans ((Mod.drewN g w1 n').trans (Mod.of_below hb)))
    obtain ⟨c0, c1, c2, f1, f2⟩ := cur_cells HB3.out
    clear hb HB1 HM1
    go_wp2_with fail
    refine (fail_any g (j + 1) 0 0 3 s _ HB3.out).mono ?_
    rintro e' w4 ⟨rfl, hb, hm⟩
    rw [if_pos rfl] at hb
    have HB4 := Aside0.mk hb
    have HM4 := Aside0.mk (HM3.out.trans hm)
    clear hb hm
    go_wp2_with fail
    go_ret
    exact ⟨rfl, HB4.out, HM4.out⟩
  · have hw := batB_ne hw'
    clear hf hw'
    go_enter Tryz.func34, Tryz.ntmps34
    go_wp2_with fail
    refine HL.out.mono ?_
    rintro e' w1 ⟨rfl, hb, hm⟩
    obtain ⟨c0, c1, c2, f1, f2⟩ := cur_cells hb
    have HB1 := Aside0.mk hb
    have HM1 := Aside0.mk hm
    have HE1 := Aside0.mk (hm.env HE.out hg)
    obtain ⟨mx, hmx⟩ := HE1.out.len
    have HMX := Aside0.mk hmx
    clear hb hm hmx
    go_wp2_with fail
    refine (HCS.out mx _ HMX.out).mono ?_
    rintro e' w2 ⟨b, rfl, n', rfl⟩
    go_wp2_with fail
    refine (HNA.out _ (HE1.out.below (pw_below_drewN (Below.refl _ _) n'))).mono ?_
    rintro e' w3 ⟨rfl, hb⟩
    clear c0 c1 c2 f1 f2
    have HB3 := Aside0.mk (Blk.below (W := w1.drewN n') HB1.out hb)
    have HM3 := Aside0.mk (HM1.out.trans ((Mod.drewN g w1 n').trans (Mod.of_below hb)))
    obtain ⟨c0, c1, c2, f1, f2⟩ := cur_cells HB3.out
    clear hb HB1 HM1
    go_wp2_with fail
    refine (fail_any g (j + 1) 0 0 3 s _ HB3.out).mono ?_
    rintro e' w4 ⟨rfl, hb, hm⟩
    rw [if_pos rfl] at hb
    have HB4 := Aside0.mk hb
    have HM4 := Aside0.mk (HM3.out.trans hm)
    clear hb hm
    go_wp2_with fail
    go_ret
    exact ⟨rfl, HB4.out, HM4.out⟩

end Go.Proofs.YtceopllngemnnaaGreatDoor


/-
  The cursor of package batch: last: what it does. For texts of up to a million bytes.
-/
namespace Go.Proofs.YtceopllngemnnaaGreatDoor
open Go.RowKit Go.Proofs.YtceopllngemnnaaGreatDoorW.PrintWords Go.Proofs.YtceopllngemnnaaGreatDoorW.PrintLast Go.Proofs.YtceopllngemnnaaGreatDoorW.PrintMore Go.Proofs.YtceopllngemnnaaGreatDoor.PRef

def endB : ByteArray := ⟨#[101, 110, 100]⟩
/-- What the last line leaves. -/
def lastF (s : ByteArray) (k : Nat) : Nat × Int := match nl s k with
  | none => (s.size, 23)
  | some j => if s.extract k j = endB then (if j + 1 < s.size then (j + 1, 5) else (j + 1, 0)) else (k, 3)
theorem endB_ne {wd : ByteArray} (h : wd ≠ endB) : ¬ wd.toList = [101, 110, 100] := by
  intro he
  apply h
  apply data_inj
  rw [ByteArray.toList_eq] at he
  rw [he]; rfl

set_option maxHeartbeats 2000000 in
set_option maxRecDepth 100000 in
theorem last_err (g k : Nat) (e : Int) (s : ByteArray) (W : World) (h : Blk W g (cur s k e) 75) (h0 : e ≠ 0) :
    Calls Tryz.prog 36 #[.pointer (some ⟨g, 0, none⟩)] W fun r w' => r = .returned (.tuple #[]) ∧ Blk w' g (cur s k e) 75 ∧ Mod g W w' := by
  have HL := Aside0.mk (line_err g k e s W h h0)
  obtain ⟨c0, c1, c2, f1, f2⟩ := cur_cells h
  have HB := Aside0.mk h
  have hb0 : (e == 0) = false := by simp [h0]
  clear h
  go_enter Tryz.func36, Tryz.ntmps36
  go_wp2_with fail
  refine HL.out.mono ?_
  rintro e' w1 ⟨rfl, rfl⟩
  go_wp2_with fail
  go_quiet (fail)
  by_cases hk : k < s.size
  · go_wp2_with fail
    refine (fail_any g k k e 5 s _ (show Blk (w1.drewN nq) g (cur s k e) 75 from HB.out)).mono ?_
    rintro e' w2 ⟨rfl, hb, hm⟩
    rw [if_neg h0] at hb
    have HB4 := Aside0.mk hb
    have HM4 := Aside0.mk ((Mod.drewN g w1 _).trans hm)
    clear hb hm
    go_wp2_with fail
    go_end0
    exact ⟨rfl, HB4.out, HM4.out⟩
  · go_wp2_with fail
    go_end0
    exact ⟨rfl, HB.out, Mod.drewN g w1 _⟩

set_option maxHeartbeats 2000000 in
set_option maxRecDepth 100000 in
theorem last_zero (g k : Nat) (s : ByteArray) (W : World) (he : Env W) (hg : 4 ≤ g) (h : Blk W g (cur s k 0) 75) (hs : s.size ≤ 1000000) (hk : k ≤ s.size) :
    Calls Tryz.prog 36 #[.pointer (some ⟨g, 0, none⟩)] W fun r w' => r = .returned (.tuple #[]) ∧ Blk w' g (cur s (lastF s k).1 (lastF s k).2) 75 ∧ Mod g W w' := by
  cases hj : nl s k with
  | none =>
    have HF := Aside0.mk (show lastF s k = (s.size, 23) by unfold lastF; rw [hj])
    have HL := Aside0.mk (line_none g k s W he h (by omega) hk hj)
    clear h he hj
    rw [HF.out]
    clear HF
    go_enter Tryz.func36, Tryz.ntmps36
    go_wp2_with fail
    refine HL.out.mono ?_
    rintro e' w1 ⟨rfl, hb, hm⟩
    obtain ⟨c0, c1, c2, f1, f2⟩ := cur_cells hb
    have HB1 := Aside0.mk hb
    have HM1 := Aside0.mk hm
    clear hb hm
    go_wp2_with fail
    go_quiet (fail)
    go_wp2_with fail
    go_end0
    exact ⟨rfl, HB1.out, HM1.out.trans (Mod.drewN g w1 _)⟩
  | some j =>
    have hjl := nl_le s k j hj
    have HL := Aside0.mk (line_some g k j s W he h (by omega) hk hj)
    have hl : lastF s k = if s.extract k j = endB then (if j + 1 < s.size then (j + 1, 5) else (j + 1, 0)) else (k, 3) := by unfold lastF; rw [hj]
    obtain ⟨ln, hln⟩ : ∃ ln, s.extract k j = ln := ⟨_, rfl⟩
    rw [hln] at hl HL
    clear h he hj hln
    by_cases hw' : ln = endB
    · subst hw'
      have hw : endB.toList = [101, 110, 100] := by rw [ByteArray.toList_eq]; rfl
      rw [if_pos rfl] at hl
      by_cases hlt : j + 1 < s.size
      · rw [if_pos hlt] at hl
        rw [hl]
        clear hl
        go_enter Tryz.func36, Tryz.ntmps36
        go_wp2_with fail
        refine HL.out.mono ?_
        rintro e' w1 ⟨rfl, hb, hm⟩
        obtain ⟨c0, c1, c2, f1, f2⟩ := cur_cells hb
        have HB1 := Aside0.mk hb
        have HM1 := Aside0.mk hm
        clear hb hm
        go_wp2_with fail
        go_quiet (fail)
        go_wp2_with fail
        refine (fail_any g (j + 1) (j + 1) 0 5 s _ (show Blk (w1.drewN nq) g (cur s (j + 1) 0) 75 from HB1.out)).mono ?_
        rintro e' w2 ⟨rfl, hb, hm⟩
        rw [if_pos rfl] at hb
        have HB4 := Aside0.mk hb
        have HM4 := Aside0.mk (HM1.out.trans ((Mod.drewN g w1 _).trans hm))
        clear hb hm
        go_wp2_with fail
        go_end0
        exact ⟨rfl, HB4.out, HM4.out⟩
      · rw [if_neg hlt] at hl
        rw [hl]
        clear hl
        go_enter Tryz.func36, Tryz.ntmps36
        go_wp2_with fail
        refine HL.out.mono ?_
        rintro e' w1 ⟨rfl, hb, hm⟩
        obtain ⟨c0, c1, c2, f1, f2⟩ := cur_cells hb
        have HB1 := Aside0.mk hb
        have HM1 := Aside0.mk hm
        clear hb hm
        go_wp2_with fail
        go_quiet (fail)
        go_wp2_with fail
        go_end0
        exact ⟨rfl, HB1.out, HM1.out.trans (Mod.drewN g w1 _)⟩
    · have hw := endB_ne hw'
      have hwb : (ln.toList == [101, 110, 100]) = false := by simp [hw]
      rw [if_neg hw'] at hl
      rw [hl]
      clear hl hw'
      go_enter Tryz.func36, Tryz.ntmps36
      go_wp2_with fail
      refine HL.out.mono ?_
      rintro e' w1 ⟨rfl, hb, hm⟩
      obtain ⟨c0, c1, c2, f1, f2⟩ := cur_cells hb
      have HB1 := Aside0.mk hb
      have HM1 := Aside0.mk hm
      clear hb hm
      go_wp2_with fail
      refine (fail_any g (j + 1) k 0 3 s _ HB1.out).mono ?_
      rintro e' w2 ⟨rfl, hb, hm⟩
      rw [if_pos rfl] at hb
      clear c0 c1 c2 f1 f2
      obtain ⟨c0, c1, c2, f1, f2⟩ := cur_cells hb
      have HB2 := Aside0.mk hb
      have HM2 := Aside0.mk (HM1.out.trans hm)
      clear hb hm
      have hks : k < s.size := by omega
      go_wp2_with fail
      go_quiet (fail)
      go_wp2_with fail
      refine (fail_any g k k 3 5 s _ (show Blk (w2.drewN nq) g (cur s k 3) 75 from HB2.out)).mono ?_
      rintro e' w3 ⟨rfl, hb, hm⟩
      rw [if_neg (by decide)] at hb
      have HB4 := Aside0.mk hb
      have HM4 := Aside0.mk (HM2.out.trans ((Mod.drewN g w2 _).trans hm))
      clear hb hm
      go_wp2_with fail
      go_end0
      exact ⟨rfl, HB4.out, HM4.out⟩

end Go.Proofs.YtceopllngemnnaaGreatDoor


/-
  Identities, plain: which strings are read as one, byte by byte. For every string.
-/
namespace Go.Proofs.YtceopllngemnnaaGreatDoor
open Go.RowKit Go.Proofs.YtceopllngemnnaaGreatDoorW.PrintWords Go.Proofs.YtceopllngemnnaaGreatDoorW.PrintMore

def tailS : ByteArray := ⟨#[64, 104, 97, 115, 104, 62]⟩
/-- Byte k of a message identifier may stand there. -/
def goodB (s : ByteArray) (k : Nat) : Prop := if k = 0 then bt s k = 60 else if k ≤ 64 then 0 ≤ nib (bt s k) else bt s k = bt tailS ((k - 65 : Nat) : Int)
instance (s : ByteArray) (k : Nat) : Decidable (goodB s k) := by unfold goodB; infer_instance
/-- The identity that the digits tell. -/
def pidF (s : ByteArray) : List Int := (List.range 32).map fun j => nib (bt s ((2 * j + 1 : Nat) : Int)) * 16 + nib (bt s ((2 * j + 2 : Nat) : Int))

theorem bt_get (s : ByteArray) (k : Nat) (h : k < s.size) : bt s (k : Int) = (s.data.toList[k]'(by rw [data_length]; exact h)).toNat := (bt_at s (k : Int) h).symm
theorem bt_list (s : ByteArray) (k : Nat) (c : UInt8) (h : s.data.toList[k]? = some c) : bt s (k : Int) = c.toNat := by
  obtain ⟨h1, h2⟩ := List.getElem?_eq_some_iff.mp h
  rw [bt_get s k (by rw [← data_length]; exact h1), h2]
theorem u8_int {a b : UInt8} (h : (a.toNat : Int) = b.toNat) : a = b := UInt8.toNat_inj.mp (by omega)
theorem list_of_bt {s : ByteArray} {l : List UInt8} (hl : s.size = l.length) (h : ∀ (k : Nat) c, l[k]? = some c → bt s (k : Int) = c.toNat) : s.data.toList = l := by
  apply List.ext_getElem
  · rw [data_length, hl]
  · intro k h1 h2
    have hk : k < s.size := by rw [← data_length]; exact h1
    have := h k l[k] (List.getElem?_eq_getElem h2)
    rw [bt_get s k hk] at this
    exact u8_int this

theorem pairs_flat (f : Nat → Int) : ∀ n, (List.range n).flatMap (fun j => [f (2 * j), f (2 * j + 1)]) = (List.range (2 * n)).map f
  | 0 => rfl
  | n + 1 => by
    rw [List.range_succ, List.flatMap_append, pairs_flat f n, show 2 * (n + 1) = 2 * n + 1 + 1 by omega, List.range_succ, List.range_succ]
    simp
theorem hexL_pid (s : ByteArray) (h : ∀ k, k < 71 → goodB s k) : hexL (pidF s) = (List.range 64).map fun k => bt s ((k + 1 : Nat) : Int) := by
  rw [show (64 : Nat) = 2 * 32 from rfl, ← pairs_flat (fun k => bt s ((k + 1 : Nat) : Int)) 32]
  unfold hexL pidF
  rw [List.flatMap_map]
  rw [List.flatMap_def, List.flatMap_def]
  congr 1
  apply List.map_congr_left
  intro j hj
  have hj := List.mem_range.mp hj
  have g : ∀ k : Nat, 1 ≤ k → k ≤ 64 → 0 ≤ nib (bt s (k : Int)) := fun k h1 h2 => by
    have := h k (by omega)
    unfold goodB at this
    rwa [if_neg (by omega), if_pos h2] at this
  have g1 := g (2 * j + 1) (by omega) (by omega)
  have g2 := g (2 * j + 2) (by omega) (by omega)
  have l1 := nib_lt (bt s ((2 * j + 1 : Nat) : Int))
  have l2 := nib_lt (bt s ((2 * j + 2 : Nat) : Int))
  have r1 := bt_range s ((2 * j + 1 : Nat) : Int)
  have r2 := bt_range s ((2 * j + 2 : Nat) : Int)
  have c1 := hex_nib _ r1.1 r1.2 g1
  have c2 := hex_nib _ r2.1 r2.2 g2
  unfold hexD
  generalize nib (bt s ((2 * j + 1 : Nat) : Int)) = a at g1 l1 c1 ⊢
  generalize nib (bt s ((2 * j + 2 : Nat) : Int)) = b at g2 l2 c2 ⊢
  have q1 : (a * 16 + b) / 16 = a := by omega
  have q2 : (a * 16 + b) % 16 = b := by omega
  rw [q1, q2, c1, c2]
theorem pid_range (s : ByteArray) (h : ∀ k, k < 71 → goodB s k) : okId (pidF s) := by
  refine ⟨by simp [pidF], fun x hx => ?_⟩
  simp only [pidF, List.mem_map, List.mem_range] at hx
  obtain ⟨j, hj, rfl⟩ := hx
  have g : ∀ k : Nat, 1 ≤ k → k ≤ 64 → 0 ≤ nib (bt s (k : Int)) := fun k h1 h2 => by
    have := h k (by omega)
    unfold goodB at this
    rwa [if_neg (by omega), if_pos h2] at this
  have g1 := g (2 * j + 1) (by omega) (by omega)
  have g2 := g (2 * j + 2) (by omega) (by omega)
  have l1 := nib_lt (bt s ((2 * j + 1 : Nat) : Int))
  have l2 := nib_lt (bt s ((2 * j + 2 : Nat) : Int))
  omega

theorem idS_get (l : List Int) (hl : l.length = 32) (k : Nat) : (idS l).data.toList[k]? = if k = 0 then some 60 else if k ≤ 64 then (toU (hexL l))[k - 1]? else tailS.data.toList[k - 65]? := by
  rw [idS_data]
  have hu : (toU (hexL l)).length = 64 := by rw [toU_length, hexL_length, hl]
  cases k with
  | zero => rfl
  | succ k =>
    rw [List.getElem?_cons_succ, if_neg (by omega)]
    by_cases h : k + 1 ≤ 64
    · rw [if_pos h, List.getElem?_append_left (by omega)]; rfl
    · rw [if_neg h, List.getElem?_append_right (by omega), hu, show k + 1 - 65 = k - 64 by omega]; rfl

theorem pid_good (s : ByteArray) (hs : s.size = 71) (h : ∀ k, k < 71 → goodB s k) : s = idS (pidF s) := by
  have hp := pid_range s h
  apply data_inj
  apply list_of_bt
  · rw [data_length, idS_size, hp.1, hs]
  · intro k c hc
    have hk : k < 71 := by
      have := (List.getElem?_eq_some_iff.mp hc).1
      rw [data_length, idS_size, hp.1] at this
      exact this
    have hg := h k hk
    unfold goodB at hg
    rw [idS_get _ hp.1] at hc
    by_cases h0 : k = 0
    · rw [if_pos h0] at hg hc
      injection hc with hc
      rw [hg, ← hc]; rfl
    · rw [if_neg h0] at hg hc
      by_cases h1 : k ≤ 64
      · rw [if_pos h1, hexL_pid s h] at hc
        simp only [toU, List.getElem?_map, Option.map_map] at hc
        rw [List.getElem?_range (by omega)] at hc
        simp only [Option.map_some, Function.comp] at hc
        injection hc with hc
        rw [← hc]
        have r := bt_range s (((k - 1) + 1 : Nat) : Int)
        rw [u8_back _ r.1 r.2, show k - 1 + 1 = k by omega]
      · rw [if_neg h1] at hg hc
        rw [hg, bt_list tailS _ c hc]

theorem good_idS (l : List Int) (hl : okId l) (k : Nat) (hk : k < 71) : goodB (idS l) k := by
  have hlen : (idS l).data.toList.length = 71 := by rw [data_length, idS_size, hl.1]
  obtain ⟨c, hc⟩ : ∃ c, (idS l).data.toList[k]? = some c := ⟨_, List.getElem?_eq_getElem (by omega)⟩
  have hb := bt_list _ k c hc
  rw [idS_get _ hl.1] at hc
  unfold goodB
  rw [hb]
  by_cases h0 : k = 0
  · rw [if_pos h0] at hc ⊢
    injection hc with hc
    rw [← hc]; rfl
  · rw [if_neg h0] at hc ⊢
    by_cases h1 : k ≤ 64
    · rw [if_pos h1] at hc ⊢
      have hm : c ∈ toU (hexL l) := List.mem_iff_getElem?.mpr ⟨_, hc⟩
      simp only [toU, hexL, hexD, List.mem_map, List.mem_flatMap, List.mem_cons, List.not_mem_nil, or_false] at hm
      obtain ⟨y, ⟨x, hx, hy⟩, rfl⟩ := hm
      have hxb := hl.2 x hx
      have hd : ∃ d, 0 ≤ d ∧ d < 16 ∧ y = bt hexT d := by
        rcases hy with rfl | rfl
        · exact ⟨x / 16, by omega, by omega, rfl⟩
        · exact ⟨x % 16, by omega, by omega, rfl⟩
      obtain ⟨d, d0, d1, rfl⟩ := hd
      have r := bt_range hexT d
      rw [u8_back _ r.1 r.2, nib_hex d d0 d1]
      exact d0
    · rw [if_neg h1] at hc ⊢
      rw [bt_list tailS _ c hc]

/-- parseF, byte by byte. -/
theorem parseF_good (s : ByteArray) (hs : s.size = 71) (h : ∀ k, k < 71 → goodB s k) : parseF s = some (pidF s) := (parseF_some s _).mpr ⟨pid_range s h, pid_good s hs h⟩
theorem unhex_pid (s : ByteArray) (hs : s.size = 71) (h : ∀ k, k < 71 → goodB s k) : unhexF (s.extract 1 65) = (pidF s, 0) := by
  have hp := pid_range s h
  have h1 := hex_part (pidF s)
  rw [← pid_good s hs h, hp.1] at h1
  rw [show (65 : Nat) = 2 * 32 + 1 from rfl, h1, unhexF_hexS _ hp.2]

end Go.Proofs.YtceopllngemnnaaGreatDoor

