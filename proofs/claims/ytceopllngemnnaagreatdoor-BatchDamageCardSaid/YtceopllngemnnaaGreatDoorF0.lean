/-
  collide of the statements on batches: two items that differ and have the same digest. For texts of up to a million bytes.
-/
import Derived.Test.YtceopllngemnnaaGreatDoorME
set_option linter.unusedVariables false
set_option linter.unusedSimpArgs false
namespace Go.Proofs.YtceopllngemnnaaGreatDoor
open Go.RowKit Go.Proofs.YtceopllngemnnaaGreatDoorW.PrintWords Go.Proofs.YtceopllngemnnaaGreatDoorW.PrintLast Go.Proofs.YtceopllngemnnaaGreatDoorW.PrintMore Go.Proofs.YtceopllngemnnaaGreatDoor.PRef

/-! ### orders that meet -/
theorem meet2 {α β : Type} {G : Prop} {P : α → β → Prop} (S : α → β → Prop) (main : Aside0 (∀ a b, S a b → P a b) → G) (kp : ∀ a b, S a b → P a b) : G := main ⟨kp⟩
theorem meet3 {α β γ : Type} {G : Prop} {P : α → β → γ → Prop} (S : α → β → γ → Prop) (main : Aside0 (∀ a b c, S a b c → P a b c) → G) (kp : ∀ a b c, S a b c → P a b c) : G := main ⟨kp⟩
theorem meet4 {α β γ δ : Type} {G : Prop} {P : α → β → γ → δ → Prop} (S : α → β → γ → δ → Prop) (main : Aside0 (∀ a b c d, S a b c d → P a b c d) → G) (kp : ∀ a b c d, S a b c d → P a b c d) : G := main ⟨kp⟩
theorem meet5 {α β γ δ ε : Type} {G : Prop} {P : α → β → γ → δ → ε → Prop} (S : α → β → γ → δ → ε → Prop) (main : Aside0 (∀ a b c d e, S a b c d e → P a b c d e) → G) (kp : ∀ a b c d e, S a b c d e → P a b c d e) : G := main ⟨kp⟩
theorem meet6 {α β γ δ ε ζ : Type} {G : Prop} {P : α → β → γ → δ → ε → ζ → Prop} (S : α → β → γ → δ → ε → ζ → Prop) (main : Aside0 (∀ a b c d e f, S a b c d e f → P a b c d e f) → G) (kp : ∀ a b c d e f, S a b c d e f → P a b c d e f) : G := main ⟨kp⟩
theorem meet7 {α β γ δ ε ζ η : Type} {G : Prop} {P : α → β → γ → δ → ε → ζ → η → Prop} (S : α → β → γ → δ → ε → ζ → η → Prop) (main : Aside0 (∀ a b c d e f g, S a b c d e f g → P a b c d e f g) → G) (kp : ∀ a b c d e f g, S a b c d e f g → P a b c d e f g) : G := main ⟨kp⟩

/-! Region tables, printed by rg2.py. -/
def r16_1.T : Bool × List (List Nat × List Nat) := (true, [([], []), ([0], [0]), ([1], [1]), ([2], [2]), ([], []), ([4], [4]), ([3, 5], [3, 5]), ([6], [6]), ([7, 2], [7]), ([], []), ([9], [9]), ([10, 8], [10]), ([11], [11]), ([], []), ([13], [13]), ([12, 14], [12, 14]), ([15], [15]), ([16, 11], [16]), ([], []), ([], []), ([18, 8, 17, 0, 1, 2, 3, 4, 5, 6, 7, 8, 11, 17, 18, 19], [8, 18]), ([19, 17, 20, 0, 1, 2, 3, 4, 5, 6, 7, 8, 9, 10, 11, 12, 13, 14, 15, 16, 17, 18, 19, 20], [17, 19])])
def r16_1.B : List Nat := [0, 1, 3, 7, 0, 16, 63, 127, 255, 0, 512, 2047, 4095, 0, 8192, 32767, 65535, 131071, 0, 0, 1048575, 2097151]
theorem r16_1.tab : rtab .any (opsOf Tryz.f16 1) = r16_1.T := by kernel_rfl
theorem r16_1.bits : waitsOk r16_1.T.2 r16_1.B = true := by kernel_rfl
def r16_2.T : Bool × List (List Nat × List Nat) := (true, [([], []), ([], []), ([0, 1], [0, 1]), ([2], [2]), ([3], [3]), ([4, 3], [3, 4]), ([3], [3]), ([6, 3], [3, 6]), ([5, 7, 3], [3, 5, 7]), ([3, 8], [3, 8]), ([9, 3, 0, 1, 2, 3, 4, 5, 6, 7, 8, 9], [9])])
def r16_2.B : List Nat := [0, 0, 3, 7, 15, 31, 15, 79, 255, 511, 1023]
theorem r16_2.tab : rtab .any (opsOf Tryz.f16 2) = r16_2.T := by kernel_rfl
theorem r16_2.bits : waitsOk r16_2.T.2 r16_2.B = true := by kernel_rfl

theorem exec_conv {P : Program} {o : Oper} {a : Act} {src dst : TypeId} {x : Operand} {v r : Value} {w w' : World} (ho : o.op = .convert src dst x) (hx : a.eval x = v) (h : (convert src dst v).run P w = .ok r w') : (execOp a.eval o).run P w = .ok (.value r) w' := by
  simp [execOp, ho, hx, h]
theorem reads_int {w : World} {A : Option Addr} {n : Nat} {xs : List Int} (h : Kd.C (Kd.int .u8) w A n xs) : ReadsInt w .u8 A n xs := Kd.reads_of_C (d := (0 : Int)) h
theorem half_reads {w : World} {g : Nat} {l : List Int} (h : Blk w g (u8s (shaL l)) 33) : ReadsInt w .u8 (some ⟨g, 0, none⟩) 16 (halfL l) := by
  have h16 : Kd.C (Kd.int .u8) w (some ⟨g, 0, none⟩) (halfL l).length (halfL l) := Kd.C_take (C_of_blk h (by rw [shaL_length]; decide)) (by rw [shaL_length]; omega)
  rw [halfL_length] at h16
  exact reads_int h16
/-- The hashed text of an item. -/
def hashed (x : It) : ByteArray := idS x.1 ++ (⟨#[10]⟩ : ByteArray) ++ x.2
def half (x : It) : ByteArray := strOfNums (halfL (bytesOf (hashed x)))
def colB (x y : It) : Bool := !decide (x = y) && (half x == half y)
theorem dig_half {x y : It} (h : digS x = digS y) : half x = half y := by
  have h1 : halfL (bytesOf (hashed x)) = halfL (bytesOf (hashed y)) := by
    have hx := unhexF_hexS (halfL (bytesOf (hashed x))) (halfL_range _)
    have hy := unhexF_hexS (halfL (bytesOf (hashed y))) (halfL_range _)
    have : hexS (halfL (bytesOf (hashed x))) = hexS (halfL (bytesOf (hashed y))) := h
    rw [this, hy] at hx
    exact (Prod.mk.inj hx).1.symm
  unfold half
  rw [h1]
theorem hashed_size {x : It} (h : okId x.1) : (hashed x).size = x.2.size + 72 := by
  unfold hashed
  rw [ByteArray.size_append, ByteArray.size_append, idS_size71 h.1]
  show 71 + 1 + x.2.size = _
  omega

set_option maxHeartbeats 8000000 in
set_option maxRecDepth 100000 in
theorem collide_any (x y : It) (W : World) (hx : okId x.1) (hy : okId y.1) (hlx : x.2.size ≤ 1000000) (hly : y.2.size ≤ 1000000) :
    Calls Tryz.prog 16 #[.agg (itV x), .agg (itV y)] W fun e w' => e = .returned (.bool (colB x y)) ∧ Below W.heap.size W w' := by
  obtain ⟨sX, hsX⟩ : ∃ sX, idS x.1 = sX := ⟨_, rfl⟩
  obtain ⟨sY, hsY⟩ : ∃ sY, idS y.1 = sY := ⟨_, rfl⟩
  have hsx : sX.size = 71 := by rw [← hsX]; exact idS_size71 hx.1
  have hsy : sY.size = 71 := by rw [← hsY]; exact idS_size71 hy.1
  have HPX := Aside0.mk (show ∀ W, Calls Tryz.prog 38 #[.agg (u8s x.1)] W fun e w' => e = .returned (.string sX) ∧ Below W.heap.size W w' from fun W => hsX ▸ rprint_any x.1 W hx.1 hx.2)
  have HPY := Aside0.mk (show ∀ W, Calls Tryz.prog 38 #[.agg (u8s y.1)] W fun e w' => e = .returned (.string sY) ∧ Below W.heap.size W w' from fun W => hsY ▸ rprint_any y.1 W hy.1 hy.2)
  have hzx := hashed_size hx
  have hzy := hashed_size hy
  have hcol : ∀ r, (!decide (x = y) && (strOfNums (halfL (bytesOf (sX ++ (⟨#[10]⟩ : ByteArray) ++ x.2))) == strOfNums (halfL (bytesOf (sY ++ (⟨#[10]⟩ : ByteArray) ++ y.2))))) = r → colB x y = r := by
    intro r h
    unfold colB half hashed
    rw [hsX, hsY]; exact h
  have HCOL := Aside0.mk hcol
  unfold hashed at hzx hzy
  rw [hsX] at hzx
  rw [hsY] at hzy
  have HSX : Aside0 ((sX ++ (⟨#[10]⟩ : ByteArray) ++ x.2).size ≤ 9223372036854775807) := ⟨by omega⟩
  have HSY : Aside0 ((sY ++ (⟨#[10]⟩ : ByteArray) ++ y.2).size ≤ 9223372036854775807) := ⟨by omega⟩
  have HLX : Aside0 ((bytesOf (sX ++ (⟨#[10]⟩ : ByteArray) ++ x.2)).length ≤ 1500000) := ⟨by rw [bytesOf_length]; omega⟩
  have HLY : Aside0 ((bytesOf (sY ++ (⟨#[10]⟩ : ByteArray) ++ y.2)).length ≤ 1500000) := ⟨by rw [bytesOf_length]; omega⟩
  have HRX := Aside0.mk (bytesOf_range (sX ++ (⟨#[10]⟩ : ByteArray) ++ x.2))
  have HRY := Aside0.mk (bytesOf_range (sY ++ (⟨#[10]⟩ : ByteArray) ++ y.2))
  have HX := Aside0.mk hx
  have HY := Aside0.mk hy
  have hvs : Aside0 ((itV x).size = 33 ∧ (itV y).size = 33) := ⟨itV_size hx, itV_size hy⟩
  have hv1 : Aside0 ((itV x).all (·.oneCell') = true ∧ (itV y).all (·.oneCell') = true) := ⟨itV_one x, itV_one y⟩
  clear hx hy hsX hsY hzx hzy hcol
  go_enter Tryz.func16, Tryz.ntmps16
  go_upto_region 1 with (first
    | ((with_reducible refine gate_dst (N := 2) rfl ?_); refine box_blk rfl rfl rfl rfl (by rw [hvs.out.1]; exact size36) hv1.out.1 ?_; intro gx w1 hg hz hb'; have Z1 := Aside0.mk hz; have B1 := Aside0.mk hb'; clear hg hz hb')
    | ((with_reducible refine gate_dst (N := 3) rfl ?_); refine box_blk rfl rfl rfl rfl (by rw [hvs.out.2]; exact size36) hv1.out.2 ?_; intro gy w2 hg hz hb'; have Z2 := Aside0.mk hz; have B2 := Aside0.mk (below_step B1.out hb'); have Z12 := Aside0.mk (Z1.out.below hb'); clear Z1 hg hz hb'))
  go_cut [5, 6] (fun v5 v6 wx => ∃ g5 g6, v5 = .pointer (some ⟨g5, 0, none⟩) ∧ v6 = .pointer (some ⟨g6, 0, none⟩) ∧ Blk wx gx (itV x) 36 ∧ Blk wx gy (itV y) 36 ∧ Blk wx g5 (u8s (shaL (bytesOf (sX ++ (⟨#[10]⟩ : ByteArray) ++ x.2)))) 33 ∧ Blk wx g6 (u8s (shaL (bytesOf (sY ++ (⟨#[10]⟩ : ByteArray) ++ y.2)))) 33 ∧ Below W.heap.size W wx)
  case first =>
    refine start_ (n := 22) (S := fun w' => Blk w' gx (itV x) 36 ∧ Blk w' gy (itV y) 36 ∧ Below W.heap.size W w') (ds := [20, 21]) (fl 22 0) (by kernel_rfl) rfl rfl ⟨Z12.out, Z2.out, below_drew B2.out⟩ (fun hHeld => ?_)
    refine with_tabW r16_1.tab r16_1.bits (fun HT_ HW_ => ?_)
    generalize w2.drew = wd at hHeld ⊢
    revert hHeld
    refine' meet7 (fun (A7 : Option Addr) (c7 : Nat) (A16 : Option Addr) (c16 : Nat) (g5 : Nat) (g6 : Nat) (w' : World) => (Blk w' gx (itV x) 36 ∧ Blk w' gy (itV y) 36 ∧ Below W.heap.size W w') ∧ (Blk w' g5 (u8s (List.replicate 32 0)) 33 ∧ W.heap.size ≤ g5 ∧ gx < g5 ∧ gy < g5) ∧ (Blk w' g6 (u8s (List.replicate 32 0)) 33 ∧ W.heap.size ≤ g6 ∧ gx < g6 ∧ gy < g6) ∧ (g5 ≠ g6) ∧ True) (fun N18 => ?_) ?kN18; rotate_left
    refine' meet7 (fun (A7 : Option Addr) (c7 : Nat) (A16 : Option Addr) (c16 : Nat) (g5 : Nat) (g6 : Nat) (w' : World) => (Blk w' gx (itV x) 36 ∧ Blk w' gy (itV y) 36 ∧ Below W.heap.size W w') ∧ (Kd.C (Kd.int .u8) w' A16 (sY ++ (⟨#[10]⟩ : ByteArray) ++ y.2).size (bytesOf (sY ++ (⟨#[10]⟩ : ByteArray) ++ y.2)) ∧ (sY ++ (⟨#[10]⟩ : ByteArray) ++ y.2).size ≤ c16) ∧ (Blk w' g5 (u8s (List.replicate 32 0)) 33 ∧ W.heap.size ≤ g5 ∧ gx < g5 ∧ gy < g5) ∧ (Blk w' g6 (u8s (List.replicate 32 0)) 33 ∧ W.heap.size ≤ g6 ∧ gx < g6 ∧ gy < g6) ∧ (g5 ≠ g6) ∧ True) (fun N17 => ?_) ?kN17; rotate_left
    refine' meet6 (fun (A7 : Option Addr) (c7 : Nat) (A16 : Option Addr) (c16 : Nat) (g6 : Nat) (w' : World) => (Blk w' gx (itV x) 36 ∧ Blk w' gy (itV y) 36 ∧ Below W.heap.size W w') ∧ (Blk w' g6 (u8s (List.replicate 32 0)) 33 ∧ W.heap.size ≤ g6 ∧ gx < g6 ∧ gy < g6) ∧ True) (fun N16 => ?_) ?kN16; rotate_left
    refine' meet6 (fun (A7 : Option Addr) (c7 : Nat) (A16 : Option Addr) (c16 : Nat) (g5 : Nat) (w' : World) => (Blk w' gx (itV x) 36 ∧ Blk w' gy (itV y) 36 ∧ Below W.heap.size W w') ∧ (Blk w' g5 (u8s (List.replicate 32 0)) 33 ∧ W.heap.size ≤ g5 ∧ gx < g5 ∧ gy < g5) ∧ True) (fun N15 => ?_) ?kN15; rotate_left
    refine' meet5 (fun (A7 : Option Addr) (c7 : Nat) (g5 : Nat) (g6 : Nat) (w' : World) => (Blk w' gx (itV x) 36 ∧ Blk w' gy (itV y) 36 ∧ Below W.heap.size W w') ∧ (Blk w' g5 (u8s (List.replicate 32 0)) 33 ∧ W.heap.size ≤ g5 ∧ gx < g5 ∧ gy < g5) ∧ (Blk w' g6 (u8s (List.replicate 32 0)) 33 ∧ W.heap.size ≤ g6 ∧ gx < g6 ∧ gy < g6) ∧ (g5 ≠ g6) ∧ True) (fun N14 => ?_) ?kN14; rotate_left
    refine' meet6 (fun (A7 : Option Addr) (c7 : Nat) (A16 : Option Addr) (c16 : Nat) (g6 : Nat) (w' : World) => (Blk w' gx (itV x) 36 ∧ Blk w' gy (itV y) 36 ∧ Below W.heap.size W w') ∧ (Kd.C (Kd.int .u8) w' A16 (sY ++ (⟨#[10]⟩ : ByteArray) ++ y.2).size (bytesOf (sY ++ (⟨#[10]⟩ : ByteArray) ++ y.2)) ∧ (sY ++ (⟨#[10]⟩ : ByteArray) ++ y.2).size ≤ c16) ∧ (Blk w' g6 (u8s (List.replicate 32 0)) 33 ∧ W.heap.size ≤ g6 ∧ gx < g6 ∧ gy < g6) ∧ True) (fun N13 => ?_) ?kN13; rotate_left
    refine' meet6 (fun (A7 : Option Addr) (c7 : Nat) (A16 : Option Addr) (c16 : Nat) (g5 : Nat) (w' : World) => (Blk w' gx (itV x) 36 ∧ Blk w' gy (itV y) 36 ∧ Below W.heap.size W w') ∧ (Kd.C (Kd.int .u8) w' A16 (sY ++ (⟨#[10]⟩ : ByteArray) ++ y.2).size (bytesOf (sY ++ (⟨#[10]⟩ : ByteArray) ++ y.2)) ∧ (sY ++ (⟨#[10]⟩ : ByteArray) ++ y.2).size ≤ c16) ∧ (Blk w' g5 (u8s (List.replicate 32 0)) 33 ∧ W.heap.size ≤ g5 ∧ gx < g5 ∧ gy < g5) ∧ True) (fun N12 => ?_) ?kN12; rotate_left
    refine' meet4 (fun (A7 : Option Addr) (c7 : Nat) (g6 : Nat) (w' : World) => (Blk w' gx (itV x) 36 ∧ Blk w' gy (itV y) 36 ∧ Below W.heap.size W w') ∧ (Blk w' g6 (u8s (List.replicate 32 0)) 33 ∧ W.heap.size ≤ g6 ∧ gx < g6 ∧ gy < g6) ∧ True) (fun N11 => ?_) ?kN11; rotate_left
    refine' meet4 (fun (A7 : Option Addr) (c7 : Nat) (g5 : Nat) (w' : World) => (Blk w' gx (itV x) 36 ∧ Blk w' gy (itV y) 36 ∧ Below W.heap.size W w') ∧ (Blk w' g5 (u8s (List.replicate 32 0)) 33 ∧ W.heap.size ≤ g5 ∧ gx < g5 ∧ gy < g5) ∧ True) (fun N10 => ?_) ?kN10; rotate_left
    refine' meet5 (fun (A7 : Option Addr) (c7 : Nat) (g5 : Nat) (g6 : Nat) (w' : World) => (Blk w' gx (itV x) 36 ∧ Blk w' gy (itV y) 36 ∧ Below W.heap.size W w') ∧ (Blk w' g5 (u8s (List.replicate 32 0)) 33 ∧ W.heap.size ≤ g5 ∧ gx < g5 ∧ gy < g5) ∧ (Blk w' g6 (u8s (List.replicate 32 0)) 33 ∧ W.heap.size ≤ g6 ∧ gx < g6 ∧ gy < g6) ∧ (g5 ≠ g6) ∧ True) (fun N9 => ?_) ?kN9; rotate_left
    refine' meet5 (fun (A7 : Option Addr) (c7 : Nat) (g5 : Nat) (g6 : Nat) (w' : World) => (Blk w' gx (itV x) 36 ∧ Blk w' gy (itV y) 36 ∧ Below W.heap.size W w') ∧ (Kd.C (Kd.int .u8) w' A7 (sX ++ (⟨#[10]⟩ : ByteArray) ++ x.2).size (bytesOf (sX ++ (⟨#[10]⟩ : ByteArray) ++ x.2)) ∧ (sX ++ (⟨#[10]⟩ : ByteArray) ++ x.2).size ≤ c7) ∧ (Blk w' g5 (u8s (List.replicate 32 0)) 33 ∧ W.heap.size ≤ g5 ∧ gx < g5 ∧ gy < g5) ∧ (Blk w' g6 (u8s (List.replicate 32 0)) 33 ∧ W.heap.size ≤ g6 ∧ gx < g6 ∧ gy < g6) ∧ (g5 ≠ g6) ∧ True) (fun N8 => ?_) ?kN8; rotate_left
    refine' meet4 (fun (A7 : Option Addr) (c7 : Nat) (g6 : Nat) (w' : World) => (Blk w' gx (itV x) 36 ∧ Blk w' gy (itV y) 36 ∧ Below W.heap.size W w') ∧ (Blk w' g6 (u8s (List.replicate 32 0)) 33 ∧ W.heap.size ≤ g6 ∧ gx < g6 ∧ gy < g6) ∧ True) (fun N7 => ?_) ?kN7; rotate_left
    refine' meet4 (fun (A7 : Option Addr) (c7 : Nat) (g5 : Nat) (w' : World) => (Blk w' gx (itV x) 36 ∧ Blk w' gy (itV y) 36 ∧ Below W.heap.size W w') ∧ (Blk w' g5 (u8s (List.replicate 32 0)) 33 ∧ W.heap.size ≤ g5 ∧ gx < g5 ∧ gy < g5) ∧ True) (fun N6 => ?_) ?kN6; rotate_left
    refine' meet3 (fun (g5 : Nat) (g6 : Nat) (w' : World) => (Blk w' gx (itV x) 36 ∧ Blk w' gy (itV y) 36 ∧ Below W.heap.size W w') ∧ (Blk w' g5 (u8s (List.replicate 32 0)) 33 ∧ W.heap.size ≤ g5 ∧ gx < g5 ∧ gy < g5) ∧ (Blk w' g6 (u8s (List.replicate 32 0)) 33 ∧ W.heap.size ≤ g6 ∧ gx < g6 ∧ gy < g6) ∧ (g5 ≠ g6) ∧ True) (fun N5 => ?_) ?kN5; rotate_left
    refine' meet4 (fun (A7 : Option Addr) (c7 : Nat) (g6 : Nat) (w' : World) => (Blk w' gx (itV x) 36 ∧ Blk w' gy (itV y) 36 ∧ Below W.heap.size W w') ∧ (Kd.C (Kd.int .u8) w' A7 (sX ++ (⟨#[10]⟩ : ByteArray) ++ x.2).size (bytesOf (sX ++ (⟨#[10]⟩ : ByteArray) ++ x.2)) ∧ (sX ++ (⟨#[10]⟩ : ByteArray) ++ x.2).size ≤ c7) ∧ (Blk w' g6 (u8s (List.replicate 32 0)) 33 ∧ W.heap.size ≤ g6 ∧ gx < g6 ∧ gy < g6) ∧ True) (fun N4 => ?_) ?kN4; rotate_left
    refine' meet4 (fun (A7 : Option Addr) (c7 : Nat) (g5 : Nat) (w' : World) => (Blk w' gx (itV x) 36 ∧ Blk w' gy (itV y) 36 ∧ Below W.heap.size W w') ∧ (Kd.C (Kd.int .u8) w' A7 (sX ++ (⟨#[10]⟩ : ByteArray) ++ x.2).size (bytesOf (sX ++ (⟨#[10]⟩ : ByteArray) ++ x.2)) ∧ (sX ++ (⟨#[10]⟩ : ByteArray) ++ x.2).size ≤ c7) ∧ (Blk w' g5 (u8s (List.replicate 32 0)) 33 ∧ W.heap.size ≤ g5 ∧ gx < g5 ∧ gy < g5) ∧ True) (fun N3 => ?_) ?kN3; rotate_left
    refine' meet2 (fun (g6 : Nat) (w' : World) => (Blk w' gx (itV x) 36 ∧ Blk w' gy (itV y) 36 ∧ Below W.heap.size W w') ∧ (Blk w' g6 (u8s (List.replicate 32 0)) 33 ∧ W.heap.size ≤ g6 ∧ gx < g6 ∧ gy < g6) ∧ True) (fun N2 => ?_) ?kN2; rotate_left
    refine' meet2 (fun (g5 : Nat) (w' : World) => (Blk w' gx (itV x) 36 ∧ Blk w' gy (itV y) 36 ∧ Below W.heap.size W w') ∧ (Blk w' g5 (u8s (List.replicate 32 0)) 33 ∧ W.heap.size ≤ g5 ∧ gx < g5 ∧ gy < g5) ∧ True) (fun N1 => ?_) ?kN1; rotate_left
    refine' meet3 (fun (g5 : Nat) (g6 : Nat) (w' : World) => (Blk w' gx (itV x) 36 ∧ Blk w' gy (itV y) 36 ∧ Below W.heap.size W w') ∧ (Blk w' g5 (u8s (List.replicate 32 0)) 33 ∧ W.heap.size ≤ g5 ∧ gx < g5 ∧ gy < g5) ∧ (Blk w' g6 (u8s (List.replicate 32 0)) 33 ∧ W.heap.size ≤ g6 ∧ gx < g6 ∧ gy < g6) ∧ (g5 ≠ g6) ∧ True) (fun N0 => ?_) ?kN0; rotate_left
    intro hHeld
    have HH := Aside0.mk hHeld
    clear hHeld
    refine pure_ (i := 0) (N := some 7) (v := ?_) (a' := ?_) (fl 22 1) rfl rfl (any_of HT_.out (by kernel_rfl)) (fun _ _ _ h => h) (Or.inl ⟨by rfl, ?_⟩) ?_ ?_
    rotate_left
    · intro w'
      go_simp
      with_reducible rfl
    rotate_left
    · simp only [Act.put, List.setIfInBounds_toArray, List.set_cons_zero, List.set_cons_succ, i64_w, i32_w]
      rfl
    refine pure_ (i := 4) (N := some 11) (v := ?_) (a' := ?_) (fl 22 17) rfl rfl (any_of HT_.out (by kernel_rfl)) (fun _ _ _ h => h) (Or.inl ⟨by rfl, ?_⟩) ?_ ?_
    rotate_left
    · intro w'
      go_simp
      with_reducible rfl
    rotate_left
    · simp only [Act.put, List.setIfInBounds_toArray, List.set_cons_zero, List.set_cons_succ, i64_w, i32_w]
      rfl
    refine pure_ (i := 9) (N := some 16) (v := ?_) (a' := ?_) (fl 22 529) rfl rfl (any_of HT_.out (by kernel_rfl)) (fun _ _ _ h => h) (Or.inl ⟨by rfl, ?_⟩) ?_ ?_
    rotate_left
    · intro w'
      go_simp
      with_reducible rfl
    rotate_left
    · simp only [Act.put, List.setIfInBounds_toArray, List.set_cons_zero, List.set_cons_succ, i64_w, i32_w]
      rfl
    refine pure_ (i := 13) (N := some 20) (v := ?_) (a' := ?_) (fl 22 8721) rfl rfl (any_of HT_.out (by kernel_rfl)) (fun _ _ _ h => h) (Or.inl ⟨by rfl, ?_⟩) ?_ ?_
    rotate_left
    · intro w'
      go_simp
      with_reducible rfl
    rotate_left
    · simp only [Act.put, List.setIfInBounds_toArray, List.set_cons_zero, List.set_cons_succ, i64_w, i32_w]
      rfl
    refine take_ (i := 1) (N := some 8) (v := .agg (u8s x.1)) (a' := ?_) (fl 22 8723) rfl rfl (take_ofW HT_.out HW_.out (by kernel_rfl)) (fun _ _ _ h => h) ?_ HH.out ?_ ?_
    · exact yields_id (by rfl) rfl rfl (fun w h => h.1) HX.out Tryz.underlying34 rfl size34
    rotate_left
    · simp only [Act.put, List.setIfInBounds_toArray, List.set_cons_zero, List.set_cons_succ, i64_w, i32_w]
      rfl
    refine take_ (i := 5) (N := some 12) (v := ?_) (a' := ?_) (fl 22 8755) rfl rfl (take_ofW HT_.out HW_.out (by kernel_rfl)) (fun _ _ _ h => h) (Or.inl ⟨by rfl, ?_⟩) HH.out ?_ ?_
    rotate_left
    · intro w' hS'
      have hc32 := it_str_cell hS'.1 HX.out
      go_simp
      with_reducible rfl
    rotate_left
    · simp only [Act.put, List.setIfInBounds_toArray, List.set_cons_zero, List.set_cons_succ, i64_w, i32_w]
      rfl
    refine take_ (i := 10) (N := some 17) (v := .agg (u8s y.1)) (a' := ?_) (fl 22 9779) rfl rfl (take_ofW HT_.out HW_.out (by kernel_rfl)) (fun _ _ _ h => h) ?_ HH.out ?_ ?_
    · exact yields_id (by rfl) rfl rfl (fun w h => h.2.1) HY.out Tryz.underlying34 rfl size34
    rotate_left
    · simp only [Act.put, List.setIfInBounds_toArray, List.set_cons_zero, List.set_cons_succ, i64_w, i32_w]
      rfl
    refine take_ (i := 14) (N := some 21) (v := ?_) (a' := ?_) (fl 22 26163) rfl rfl (take_ofW HT_.out HW_.out (by kernel_rfl)) (fun _ _ _ h => h) (Or.inl ⟨by rfl, ?_⟩) HH.out ?_ ?_
    rotate_left
    · intro w' hS'
      have hc32 := it_str_cell hS'.2.1 HY.out
      go_simp
      with_reducible rfl
    rotate_left
    · simp only [Act.put, List.setIfInBounds_toArray, List.set_cons_zero, List.set_cons_succ, i64_w, i32_w]
      rfl
    refine three_ (i := 2) (j := 18) (k := 19) (Ni := some 9) (Nj := some 5) (Nk := some 6) (fl 22 26167) (fl 22 288307) (fl 22 550451) rfl rfl rfl rfl rfl rfl (three_of HT_.out (by kernel_rfl)) (by decide) (by decide) (by decide) (fun K hK => ?_) (fun K hK => ?_) (fun K hK => ?_)
    · refine goes_ Tryz.func38 (by kernel_rfl) rfl #[.agg (u8s x.1)] (by rfl) rfl rfl (by simp only [List.map_toArray, List.map_cons, List.map_nil]; rfl) ?_
      refine (HPX.out _).mono ?_
      rintro e w' ⟨rfl, hb⟩
      refine ⟨_, rfl, hK.out _ _ ⟨HH.out.1.below hb, HH.out.2.1.below hb, below_step HH.out.2.2 hb⟩ (fun hHeld => ?_)⟩
      try (have C7q := Aside0.mk (And.intro (Kd.C_below C7.out.1 hb) C7.out.2); clear C7; have C7 := C7q; clear C7q)
      try (have C16q := Aside0.mk (And.intro (Kd.C_below C16.out.1 hb) C16.out.2); clear C16; have C16 := C16q; clear C16q)
      try (have Z5q := Aside0.mk (And.intro (Z5.out.1.below hb) Z5.out.2); clear Z5; have Z5 := Z5q; clear Z5q)
      try (have Z6q := Aside0.mk (And.intro (Z6.out.1.below hb) Z6.out.2); clear Z6; have Z6 := Z6q; clear Z6q)
      have HH2 := Aside0.mk hHeld
      clear hHeld HH
      have HH := HH2
      clear HH2
      try clear hb
      try clear hK K
      refine norm_ (a' := ?_) ?_ ?_
      rotate_left
      · show Act.put _ (some 9) _ = _
        simp only [Act.put, List.setIfInBounds_toArray, List.set_cons_zero, List.set_cons_succ, i64_w, i32_w]
        rfl
      refine pure_ (i := 3) (N := some 10) (v := ?_) (a' := ?_) (fl 22 26175) rfl rfl (any_of HT_.out (by kernel_rfl)) (fun _ _ _ h => h) (Or.inl ⟨by rfl, ?_⟩) ?_ ?_
      rotate_left
      · intro w'
        refine (exec_add rfl rfl rfl Tryz.underlying9 ?_ w').trans ?_
        rotate_left
        · with_reducible rfl
        simp only [ByteArray.size_append, hsx, hsy, lit10]
        omega
      rotate_left
      · simp only [Act.put, List.setIfInBounds_toArray, List.set_cons_zero, List.set_cons_succ, i64_w, i32_w]
        rfl
      refine pure_ (i := 6) (N := some 13) (v := ?_) (a' := ?_) (fl 22 26239) rfl rfl (any_of HT_.out (by kernel_rfl)) (fun _ _ _ h => h) (Or.inl ⟨by rfl, ?_⟩) ?_ ?_
      rotate_left
      · intro w'
        refine (exec_add rfl rfl rfl Tryz.underlying9 ?_ w').trans ?_
        rotate_left
        · with_reducible rfl
        simp only [ByteArray.size_append, hsx, hsy, lit10]
        omega
      rotate_left
      · simp only [Act.put, List.setIfInBounds_toArray, List.set_cons_zero, List.set_cons_succ, i64_w, i32_w]
        rfl
      refine three_ (i := 7) (j := 18) (k := 19) (Ni := some 14) (Nj := some 5) (Nk := some 6) (fl 22 26367) (fl 22 288383) (fl 22 550527) rfl rfl rfl rfl rfl rfl (three_of HT_.out (by kernel_rfl)) (by decide) (by decide) (by decide) (fun K hK => ?_) (fun K hK => ?_) (fun K hK => ?_)
      · refine bytes_step (s := (sX ++ (⟨#[10]⟩ : ByteArray) ++ x.2)) (by rfl) rfl rfl Tryz.underlying9 Tryz.underlying26 Tryz.underlying5 HSX.out ?_
        intro A7 c7 w' hcc hC hb
        refine hK.out _ _ ⟨HH.out.1.below hb, HH.out.2.1.below hb, below_step HH.out.2.2 hb⟩ (fun hHeld => ?_)
        have C7n := Aside0.mk (And.intro hC hcc)
        clear hC hcc
        try (have C7q := Aside0.mk (And.intro (Kd.C_below C7.out.1 hb) C7.out.2); clear C7; have C7 := C7q; clear C7q)
        try (have C16q := Aside0.mk (And.intro (Kd.C_below C16.out.1 hb) C16.out.2); clear C16; have C16 := C16q; clear C16q)
        try (have Z5q := Aside0.mk (And.intro (Z5.out.1.below hb) Z5.out.2); clear Z5; have Z5 := Z5q; clear Z5q)
        try (have Z6q := Aside0.mk (And.intro (Z6.out.1.below hb) Z6.out.2); clear Z6; have Z6 := Z6q; clear Z6q)
        have C7 := C7n
        clear C7n
        have HH2 := Aside0.mk hHeld
        clear hHeld HH
        have HH := HH2
        clear HH2
        try clear hb
        try clear hK K
        refine norm_ (a' := ?_) ?_ ?_
        rotate_left
        · show Act.put _ (some 14) _ = _
          simp only [Act.put, List.setIfInBounds_toArray, List.set_cons_zero, List.set_cons_succ, i64_w, i32_w]
          rfl
        refine three_ (i := 8) (j := 18) (k := 19) (Ni := some 15) (Nj := some 5) (Nk := some 6) (fl 22 26623) (fl 22 288511) (fl 22 550655) rfl rfl rfl rfl rfl rfl (three_of HT_.out (by kernel_rfl)) (by decide) (by decide) (by decide) (fun K hK => ?_) (fun K hK => ?_) (fun K hK => ?_)
        · refine goes_ Tryz.func37 (by kernel_rfl) rfl #[.slice A7 (sX ++ (⟨#[10]⟩ : ByteArray) ++ x.2).size c7] (by rfl) rfl rfl (by simp only [List.map_toArray, List.map_cons, List.map_nil]; rfl) ?_
          refine (rsum_any A7 _ c7 (bytesOf (sX ++ (⟨#[10]⟩ : ByteArray) ++ x.2)) _ (by rw [bytesOf_length]; exact C7.out.1) (bytesOf_length _).symm (by rw [bytesOf_length]; exact C7.out.2) HLX.out HRX.out).mono ?_
          rintro e w' ⟨rfl, hb⟩
          refine ⟨_, rfl, hK.out _ _ ⟨HH.out.1.below hb, HH.out.2.1.below hb, below_step HH.out.2.2 hb⟩ (fun hHeld => ?_)⟩
          try (have C7q := Aside0.mk (And.intro (Kd.C_below C7.out.1 hb) C7.out.2); clear C7; have C7 := C7q; clear C7q)
          try (have C16q := Aside0.mk (And.intro (Kd.C_below C16.out.1 hb) C16.out.2); clear C16; have C16 := C16q; clear C16q)
          try (have Z5q := Aside0.mk (And.intro (Z5.out.1.below hb) Z5.out.2); clear Z5; have Z5 := Z5q; clear Z5q)
          try (have Z6q := Aside0.mk (And.intro (Z6.out.1.below hb) Z6.out.2); clear Z6; have Z6 := Z6q; clear Z6q)
          clear C7
          have HH2 := Aside0.mk hHeld
          clear hHeld HH
          have HH := HH2
          clear HH2
          try clear hb
          try clear hK K
          refine norm_ (a' := ?_) ?_ ?_
          rotate_left
          · show Act.put _ (some 15) _ = _
            simp only [Act.put, List.setIfInBounds_toArray, List.set_cons_zero, List.set_cons_succ, i64_w, i32_w]
            rfl
          refine three_ (i := 11) (j := 18) (k := 19) (Ni := some 18) (Nj := some 5) (Nk := some 6) (fl 22 28671) (fl 22 288767) (fl 22 550911) rfl rfl rfl rfl rfl rfl (three_of HT_.out (by kernel_rfl)) (by decide) (by decide) (by decide) (fun K hK => ?_) (fun K hK => ?_) (fun K hK => ?_)
          · refine goes_ Tryz.func38 (by kernel_rfl) rfl #[.agg (u8s y.1)] (by rfl) rfl rfl (by simp only [List.map_toArray, List.map_cons, List.map_nil]; rfl) ?_
            refine (HPY.out _).mono ?_
            rintro e w' ⟨rfl, hb⟩
            refine ⟨_, rfl, hK.out _ _ ⟨HH.out.1.below hb, HH.out.2.1.below hb, below_step HH.out.2.2 hb⟩ (fun hHeld => ?_)⟩
            try (have C7q := Aside0.mk (And.intro (Kd.C_below C7.out.1 hb) C7.out.2); clear C7; have C7 := C7q; clear C7q)
            try (have C16q := Aside0.mk (And.intro (Kd.C_below C16.out.1 hb) C16.out.2); clear C16; have C16 := C16q; clear C16q)
            try (have Z5q := Aside0.mk (And.intro (Z5.out.1.below hb) Z5.out.2); clear Z5; have Z5 := Z5q; clear Z5q)
            try (have Z6q := Aside0.mk (And.intro (Z6.out.1.below hb) Z6.out.2); clear Z6; have Z6 := Z6q; clear Z6q)
            have HH2 := Aside0.mk hHeld
            clear hHeld HH
            have HH := HH2
            clear HH2
            try clear hb
            try clear hK K
            refine norm_ (a' := ?_) ?_ ?_
            rotate_left
            · show Act.put _ (some 18) _ = _
              simp only [Act.put, List.setIfInBounds_toArray, List.set_cons_zero, List.set_cons_succ, i64_w, i32_w]
              rfl
            refine pure_ (i := 12) (N := some 19) (v := ?_) (a' := ?_) (fl 22 32767) rfl rfl (any_of HT_.out (by kernel_rfl)) (fun _ _ _ h => h) (Or.inl ⟨by rfl, ?_⟩) ?_ ?_
            rotate_left
            · intro w'
              refine (exec_add rfl rfl rfl Tryz.underlying9 ?_ w').trans ?_
              rotate_left
              · with_reducible rfl
              simp only [ByteArray.size_append, hsx, hsy, lit10]
              omega
            rotate_left
            · simp only [Act.put, List.setIfInBounds_toArray, List.set_cons_zero, List.set_cons_succ, i64_w, i32_w]
              rfl
            refine pure_ (i := 15) (N := some 22) (v := ?_) (a' := ?_) (fl 22 65535) rfl rfl (any_of HT_.out (by kernel_rfl)) (fun _ _ _ h => h) (Or.inl ⟨by rfl, ?_⟩) ?_ ?_
            rotate_left
            · intro w'
              refine (exec_add rfl rfl rfl Tryz.underlying9 ?_ w').trans ?_
              rotate_left
              · with_reducible rfl
              simp only [ByteArray.size_append, hsx, hsy, lit10]
              omega
            rotate_left
            · simp only [Act.put, List.setIfInBounds_toArray, List.set_cons_zero, List.set_cons_succ, i64_w, i32_w]
              rfl
            refine three_ (i := 16) (j := 18) (k := 19) (Ni := some 23) (Nj := some 5) (Nk := some 6) (fl 22 131071) (fl 22 327679) (fl 22 589823) rfl rfl rfl rfl rfl rfl (three_of HT_.out (by kernel_rfl)) (by decide) (by decide) (by decide) (fun K hK => ?_) (fun K hK => ?_) (fun K hK => ?_)
            · refine bytes_step (s := (sY ++ (⟨#[10]⟩ : ByteArray) ++ y.2)) (by rfl) rfl rfl Tryz.underlying9 Tryz.underlying26 Tryz.underlying5 HSY.out ?_
              intro A16 c16 w' hcc hC hb
              refine hK.out _ _ ⟨HH.out.1.below hb, HH.out.2.1.below hb, below_step HH.out.2.2 hb⟩ (fun hHeld => ?_)
              have C16n := Aside0.mk (And.intro hC hcc)
              clear hC hcc
              try (have C7q := Aside0.mk (And.intro (Kd.C_below C7.out.1 hb) C7.out.2); clear C7; have C7 := C7q; clear C7q)
              try (have C16q := Aside0.mk (And.intro (Kd.C_below C16.out.1 hb) C16.out.2); clear C16; have C16 := C16q; clear C16q)
              try (have Z5q := Aside0.mk (And.intro (Z5.out.1.below hb) Z5.out.2); clear Z5; have Z5 := Z5q; clear Z5q)
              try (have Z6q := Aside0.mk (And.intro (Z6.out.1.below hb) Z6.out.2); clear Z6; have Z6 := Z6q; clear Z6q)
              have C16 := C16n
              clear C16n
              have HH2 := Aside0.mk hHeld
              clear hHeld HH
              have HH := HH2
              clear HH2
              try clear hb
              try clear hK K
              refine norm_ (a' := ?_) ?_ ?_
              rotate_left
              · show Act.put _ (some 23) _ = _
                simp only [Act.put, List.setIfInBounds_toArray, List.set_cons_zero, List.set_cons_succ, i64_w, i32_w]
                rfl
              refine three_ (i := 17) (j := 18) (k := 19) (Ni := some 24) (Nj := some 5) (Nk := some 6) (fl 22 262143) (fl 22 393215) (fl 22 655359) rfl rfl rfl rfl rfl rfl (three_of HT_.out (by kernel_rfl)) (by decide) (by decide) (by decide) (fun K hK => ?_) (fun K hK => ?_) (fun K hK => ?_)
              · refine goes_ Tryz.func37 (by kernel_rfl) rfl #[.slice A16 (sY ++ (⟨#[10]⟩ : ByteArray) ++ y.2).size c16] (by rfl) rfl rfl (by simp only [List.map_toArray, List.map_cons, List.map_nil]; rfl) ?_
                refine (rsum_any A16 _ c16 (bytesOf (sY ++ (⟨#[10]⟩ : ByteArray) ++ y.2)) _ (by rw [bytesOf_length]; exact C16.out.1) (bytesOf_length _).symm (by rw [bytesOf_length]; exact C16.out.2) HLY.out HRY.out).mono ?_
                rintro e w' ⟨rfl, hb⟩
                refine ⟨_, rfl, hK.out _ _ ⟨HH.out.1.below hb, HH.out.2.1.below hb, below_step HH.out.2.2 hb⟩ (fun hHeld => ?_)⟩
                try (have C7q := Aside0.mk (And.intro (Kd.C_below C7.out.1 hb) C7.out.2); clear C7; have C7 := C7q; clear C7q)
                try (have C16q := Aside0.mk (And.intro (Kd.C_below C16.out.1 hb) C16.out.2); clear C16; have C16 := C16q; clear C16q)
                try (have Z5q := Aside0.mk (And.intro (Z5.out.1.below hb) Z5.out.2); clear Z5; have Z5 := Z5q; clear Z5q)
                try (have Z6q := Aside0.mk (And.intro (Z6.out.1.below hb) Z6.out.2); clear Z6; have Z6 := Z6q; clear Z6q)
                clear C16
                have HH2 := Aside0.mk hHeld
                clear hHeld HH
                have HH := HH2
                clear HH2
                try clear hb
                try clear hK K
                refine norm_ (a' := ?_) ?_ ?_
                rotate_left
                · show Act.put _ (some 24) _ = _
                  simp only [Act.put, List.setIfInBounds_toArray, List.set_cons_zero, List.set_cons_succ, i64_w, i32_w]
                  rfl
                refine two_ (i := 18) (j := 19) (Ni := some 5) (Nj := some 6) (fl 22 524287) (fl 22 786431) rfl rfl rfl rfl (two_of HT_.out (by kernel_rfl)) (by decide) (by decide) (fun K hK => ?_) (fun K hK => ?_)
                · refine alloc_blk_step (by rfl) rfl rfl zero33 ?_
                  intro g5 w' hg hz hb
                  refine hK.out _ _ ⟨HH.out.1.below hb, HH.out.2.1.below hb, below_step HH.out.2.2 hb⟩ (fun hHeld => ?_)
                  have HGn := Aside0.mk (show W.heap.size ≤ g5 ∧ gx < g5 ∧ gy < g5 by rw [hg]; exact ⟨HH.out.2.2.size, blk_lt HH.out.1, blk_lt HH.out.2.1⟩)
                  try (have C7q := Aside0.mk (And.intro (Kd.C_below C7.out.1 hb) C7.out.2); clear C7; have C7 := C7q; clear C7q)
                  try (have C16q := Aside0.mk (And.intro (Kd.C_below C16.out.1 hb) C16.out.2); clear C16; have C16 := C16q; clear C16q)
                  try (have Z5q := Aside0.mk (And.intro (Z5.out.1.below hb) Z5.out.2); clear Z5; have Z5 := Z5q; clear Z5q)
                  try (have Z6q := Aside0.mk (And.intro (Z6.out.1.below hb) Z6.out.2); clear Z6; have Z6 := Z6q; clear Z6q)
                  have Z5 := Aside0.mk (And.intro hz HGn.out)
                  clear hz hg HGn
                  have HH2 := Aside0.mk hHeld
                  clear hHeld HH
                  have HH := HH2
                  clear HH2
                  try clear hb
                  try clear hK K
                  refine norm_ (a' := ?_) ?_ ?_
                  rotate_left
                  · show Act.put _ (some 5) _ = _
                    simp only [Act.put, List.setIfInBounds_toArray, List.set_cons_zero, List.set_cons_succ, i64_w, i32_w]
                    rfl
                  exact N15.out A7 c7 A16 c16 g5 _ ⟨HH.out, Z5.out, trivial⟩
                · refine alloc_blk_step (by rfl) rfl rfl zero33 ?_
                  intro g6 w' hg hz hb
                  refine hK.out _ _ ⟨HH.out.1.below hb, HH.out.2.1.below hb, below_step HH.out.2.2 hb⟩ (fun hHeld => ?_)
                  have HGn := Aside0.mk (show W.heap.size ≤ g6 ∧ gx < g6 ∧ gy < g6 by rw [hg]; exact ⟨HH.out.2.2.size, blk_lt HH.out.1, blk_lt HH.out.2.1⟩)
                  try (have C7q := Aside0.mk (And.intro (Kd.C_below C7.out.1 hb) C7.out.2); clear C7; have C7 := C7q; clear C7q)
                  try (have C16q := Aside0.mk (And.intro (Kd.C_below C16.out.1 hb) C16.out.2); clear C16; have C16 := C16q; clear C16q)
                  try (have Z5q := Aside0.mk (And.intro (Z5.out.1.below hb) Z5.out.2); clear Z5; have Z5 := Z5q; clear Z5q)
                  try (have Z6q := Aside0.mk (And.intro (Z6.out.1.below hb) Z6.out.2); clear Z6; have Z6 := Z6q; clear Z6q)
                  have Z6 := Aside0.mk (And.intro hz HGn.out)
                  clear hz hg HGn
                  have HH2 := Aside0.mk hHeld
                  clear hHeld HH
                  have HH := HH2
                  clear HH2
                  try clear hb
                  try clear hK K
                  refine norm_ (a' := ?_) ?_ ?_
                  rotate_left
                  · show Act.put _ (some 6) _ = _
                    simp only [Act.put, List.setIfInBounds_toArray, List.set_cons_zero, List.set_cons_succ, i64_w, i32_w]
                    rfl
                  exact N16.out A7 c7 A16 c16 g6 _ ⟨HH.out, Z6.out, trivial⟩
              · refine alloc_blk_step (by rfl) rfl rfl zero33 ?_
                intro g5 w' hg hz hb
                refine hK.out _ _ ⟨HH.out.1.below hb, HH.out.2.1.below hb, below_step HH.out.2.2 hb⟩ (fun hHeld => ?_)
                have HGn := Aside0.mk (show W.heap.size ≤ g5 ∧ gx < g5 ∧ gy < g5 by rw [hg]; exact ⟨HH.out.2.2.size, blk_lt HH.out.1, blk_lt HH.out.2.1⟩)
                try (have C7q := Aside0.mk (And.intro (Kd.C_below C7.out.1 hb) C7.out.2); clear C7; have C7 := C7q; clear C7q)
                try (have C16q := Aside0.mk (And.intro (Kd.C_below C16.out.1 hb) C16.out.2); clear C16; have C16 := C16q; clear C16q)
                try (have Z5q := Aside0.mk (And.intro (Z5.out.1.below hb) Z5.out.2); clear Z5; have Z5 := Z5q; clear Z5q)
                try (have Z6q := Aside0.mk (And.intro (Z6.out.1.below hb) Z6.out.2); clear Z6; have Z6 := Z6q; clear Z6q)
                have Z5 := Aside0.mk (And.intro hz HGn.out)
                clear hz hg HGn
                have HH2 := Aside0.mk hHeld
                clear hHeld HH
                have HH := HH2
                clear HH2
                try clear hb
                try clear hK K
                refine norm_ (a' := ?_) ?_ ?_
                rotate_left
                · show Act.put _ (some 5) _ = _
                  simp only [Act.put, List.setIfInBounds_toArray, List.set_cons_zero, List.set_cons_succ, i64_w, i32_w]
                  rfl
                exact N12.out A7 c7 A16 c16 g5 _ ⟨HH.out, C16.out, Z5.out, trivial⟩
              · refine alloc_blk_step (by rfl) rfl rfl zero33 ?_
                intro g6 w' hg hz hb
                refine hK.out _ _ ⟨HH.out.1.below hb, HH.out.2.1.below hb, below_step HH.out.2.2 hb⟩ (fun hHeld => ?_)
                have HGn := Aside0.mk (show W.heap.size ≤ g6 ∧ gx < g6 ∧ gy < g6 by rw [hg]; exact ⟨HH.out.2.2.size, blk_lt HH.out.1, blk_lt HH.out.2.1⟩)
                try (have C7q := Aside0.mk (And.intro (Kd.C_below C7.out.1 hb) C7.out.2); clear C7; have C7 := C7q; clear C7q)
                try (have C16q := Aside0.mk (And.intro (Kd.C_below C16.out.1 hb) C16.out.2); clear C16; have C16 := C16q; clear C16q)
                try (have Z5q := Aside0.mk (And.intro (Z5.out.1.below hb) Z5.out.2); clear Z5; have Z5 := Z5q; clear Z5q)
                try (have Z6q := Aside0.mk (And.intro (Z6.out.1.below hb) Z6.out.2); clear Z6; have Z6 := Z6q; clear Z6q)
                have Z6 := Aside0.mk (And.intro hz HGn.out)
                clear hz hg HGn
                have HH2 := Aside0.mk hHeld
                clear hHeld HH
                have HH := HH2
                clear HH2
                try clear hb
                try clear hK K
                refine norm_ (a' := ?_) ?_ ?_
                rotate_left
                · show Act.put _ (some 6) _ = _
                  simp only [Act.put, List.setIfInBounds_toArray, List.set_cons_zero, List.set_cons_succ, i64_w, i32_w]
                  rfl
                exact N13.out A7 c7 A16 c16 g6 _ ⟨HH.out, C16.out, Z6.out, trivial⟩
            · refine alloc_blk_step (by rfl) rfl rfl zero33 ?_
              intro g5 w' hg hz hb
              refine hK.out _ _ ⟨HH.out.1.below hb, HH.out.2.1.below hb, below_step HH.out.2.2 hb⟩ (fun hHeld => ?_)
              have HGn := Aside0.mk (show W.heap.size ≤ g5 ∧ gx < g5 ∧ gy < g5 by rw [hg]; exact ⟨HH.out.2.2.size, blk_lt HH.out.1, blk_lt HH.out.2.1⟩)
              try (have C7q := Aside0.mk (And.intro (Kd.C_below C7.out.1 hb) C7.out.2); clear C7; have C7 := C7q; clear C7q)
              try (have C16q := Aside0.mk (And.intro (Kd.C_below C16.out.1 hb) C16.out.2); clear C16; have C16 := C16q; clear C16q)
              try (have Z5q := Aside0.mk (And.intro (Z5.out.1.below hb) Z5.out.2); clear Z5; have Z5 := Z5q; clear Z5q)
              try (have Z6q := Aside0.mk (And.intro (Z6.out.1.below hb) Z6.out.2); clear Z6; have Z6 := Z6q; clear Z6q)
              have Z5 := Aside0.mk (And.intro hz HGn.out)
              clear hz hg HGn
              have HH2 := Aside0.mk hHeld
              clear hHeld HH
              have HH := HH2
              clear HH2
              try clear hb
              try clear hK K
              refine norm_ (a' := ?_) ?_ ?_
              rotate_left
              · show Act.put _ (some 5) _ = _
                simp only [Act.put, List.setIfInBounds_toArray, List.set_cons_zero, List.set_cons_succ, i64_w, i32_w]
                rfl
              exact N10.out A7 c7 g5 _ ⟨HH.out, Z5.out, trivial⟩
            · refine alloc_blk_step (by rfl) rfl rfl zero33 ?_
              intro g6 w' hg hz hb
              refine hK.out _ _ ⟨HH.out.1.below hb, HH.out.2.1.below hb, below_step HH.out.2.2 hb⟩ (fun hHeld => ?_)
              have HGn := Aside0.mk (show W.heap.size ≤ g6 ∧ gx < g6 ∧ gy < g6 by rw [hg]; exact ⟨HH.out.2.2.size, blk_lt HH.out.1, blk_lt HH.out.2.1⟩)
              try (have C7q := Aside0.mk (And.intro (Kd.C_below C7.out.1 hb) C7.out.2); clear C7; have C7 := C7q; clear C7q)
              try (have C16q := Aside0.mk (And.intro (Kd.C_below C16.out.1 hb) C16.out.2); clear C16; have C16 := C16q; clear C16q)
              try (have Z5q := Aside0.mk (And.intro (Z5.out.1.below hb) Z5.out.2); clear Z5; have Z5 := Z5q; clear Z5q)
              try (have Z6q := Aside0.mk (And.intro (Z6.out.1.below hb) Z6.out.2); clear Z6; have Z6 := Z6q; clear Z6q)
              have Z6 := Aside0.mk (And.intro hz HGn.out)
              clear hz hg HGn
              have HH2 := Aside0.mk hHeld
              clear hHeld HH
              have HH := HH2
              clear HH2
              try clear hb
              try clear hK K
              refine norm_ (a' := ?_) ?_ ?_
              rotate_left
              · show Act.put _ (some 6) _ = _
                simp only [Act.put, List.setIfInBounds_toArray, List.set_cons_zero, List.set_cons_succ, i64_w, i32_w]
                rfl
              exact N11.out A7 c7 g6 _ ⟨HH.out, Z6.out, trivial⟩
          · refine alloc_blk_step (by rfl) rfl rfl zero33 ?_
            intro g5 w' hg hz hb
            refine hK.out _ _ ⟨HH.out.1.below hb, HH.out.2.1.below hb, below_step HH.out.2.2 hb⟩ (fun hHeld => ?_)
            have HGn := Aside0.mk (show W.heap.size ≤ g5 ∧ gx < g5 ∧ gy < g5 by rw [hg]; exact ⟨HH.out.2.2.size, blk_lt HH.out.1, blk_lt HH.out.2.1⟩)
            try (have C7q := Aside0.mk (And.intro (Kd.C_below C7.out.1 hb) C7.out.2); clear C7; have C7 := C7q; clear C7q)
            try (have C16q := Aside0.mk (And.intro (Kd.C_below C16.out.1 hb) C16.out.2); clear C16; have C16 := C16q; clear C16q)
            try (have Z5q := Aside0.mk (And.intro (Z5.out.1.below hb) Z5.out.2); clear Z5; have Z5 := Z5q; clear Z5q)
            try (have Z6q := Aside0.mk (And.intro (Z6.out.1.below hb) Z6.out.2); clear Z6; have Z6 := Z6q; clear Z6q)
            have Z5 := Aside0.mk (And.intro hz HGn.out)
            clear hz hg HGn
            have HH2 := Aside0.mk hHeld
            clear hHeld HH
            have HH := HH2
            clear HH2
            try clear hb
            try clear hK K
            refine norm_ (a' := ?_) ?_ ?_
            rotate_left
            · show Act.put _ (some 5) _ = _
              simp only [Act.put, List.setIfInBounds_toArray, List.set_cons_zero, List.set_cons_succ, i64_w, i32_w]
              rfl
            exact N6.out A7 c7 g5 _ ⟨HH.out, Z5.out, trivial⟩
          · refine alloc_blk_step (by rfl) rfl rfl zero33 ?_
            intro g6 w' hg hz hb
            refine hK.out _ _ ⟨HH.out.1.below hb, HH.out.2.1.below hb, below_step HH.out.2.2 hb⟩ (fun hHeld => ?_)
            have HGn := Aside0.mk (show W.heap.size ≤ g6 ∧ gx < g6 ∧ gy < g6 by rw [hg]; exact ⟨HH.out.2.2.size, blk_lt HH.out.1, blk_lt HH.out.2.1⟩)
            try (have C7q := Aside0.mk (And.intro (Kd.C_below C7.out.1 hb) C7.out.2); clear C7; have C7 := C7q; clear C7q)
            try (have C16q := Aside0.mk (And.intro (Kd.C_below C16.out.1 hb) C16.out.2); clear C16; have C16 := C16q; clear C16q)
            try (have Z5q := Aside0.mk (And.intro (Z5.out.1.below hb) Z5.out.2); clear Z5; have Z5 := Z5q; clear Z5q)
            try (have Z6q := Aside0.mk (And.intro (Z6.out.1.below hb) Z6.out.2); clear Z6; have Z6 := Z6q; clear Z6q)
            have Z6 := Aside0.mk (And.intro hz HGn.out)
            clear hz hg HGn
            have HH2 := Aside0.mk hHeld
            clear hHeld HH
            have HH := HH2
            clear HH2
            try clear hb
            try clear hK K
            refine norm_ (a' := ?_) ?_ ?_
            rotate_left
            · show Act.put _ (some 6) _ = _
              simp only [Act.put, List.setIfInBounds_toArray, List.set_cons_zero, List.set_cons_succ, i64_w, i32_w]
              rfl
            exact N7.out A7 c7 g6 _ ⟨HH.out, Z6.out, trivial⟩
        · refine alloc_blk_step (by rfl) rfl rfl zero33 ?_
          intro g5 w' hg hz hb
          refine hK.out _ _ ⟨HH.out.1.below hb, HH.out.2.1.below hb, below_step HH.out.2.2 hb⟩ (fun hHeld => ?_)
          have HGn := Aside0.mk (show W.heap.size ≤ g5 ∧ gx < g5 ∧ gy < g5 by rw [hg]; exact ⟨HH.out.2.2.size, blk_lt HH.out.1, blk_lt HH.out.2.1⟩)
          try (have C7q := Aside0.mk (And.intro (Kd.C_below C7.out.1 hb) C7.out.2); clear C7; have C7 := C7q; clear C7q)
          try (have C16q := Aside0.mk (And.intro (Kd.C_below C16.out.1 hb) C16.out.2); clear C16; have C16 := C16q; clear C16q)
          try (have Z5q := Aside0.mk (And.intro (Z5.out.1.below hb) Z5.out.2); clear Z5; have Z5 := Z5q; clear Z5q)
          try (have Z6q := Aside0.mk (And.intro (Z6.out.1.below hb) Z6.out.2); clear Z6; have Z6 := Z6q; clear Z6q)
          have Z5 := Aside0.mk (And.intro hz HGn.out)
          clear hz hg HGn
          have HH2 := Aside0.mk hHeld
          clear hHeld HH
          have HH := HH2
          clear HH2
          try clear hb
          try clear hK K
          refine norm_ (a' := ?_) ?_ ?_
          rotate_left
          · show Act.put _ (some 5) _ = _
            simp only [Act.put, List.setIfInBounds_toArray, List.set_cons_zero, List.set_cons_succ, i64_w, i32_w]
            rfl
          exact N3.out A7 c7 g5 _ ⟨HH.out, C7.out, Z5.out, trivial⟩
        · refine alloc_blk_step (by rfl) rfl rfl zero33 ?_
          intro g6 w' hg hz hb
          refine hK.out _ _ ⟨HH.out.1.below hb, HH.out.2.1.below hb, below_step HH.out.2.2 hb⟩ (fun hHeld => ?_)
          have HGn := Aside0.mk (show W.heap.size ≤ g6 ∧ gx < g6 ∧ gy < g6 by rw [hg]; exact ⟨HH.out.2.2.size, blk_lt HH.out.1, blk_lt HH.out.2.1⟩)
          try (have C7q := Aside0.mk (And.intro (Kd.C_below C7.out.1 hb) C7.out.2); clear C7; have C7 := C7q; clear C7q)
          try (have C16q := Aside0.mk (And.intro (Kd.C_below C16.out.1 hb) C16.out.2); clear C16; have C16 := C16q; clear C16q)
          try (have Z5q := Aside0.mk (And.intro (Z5.out.1.below hb) Z5.out.2); clear Z5; have Z5 := Z5q; clear Z5q)
          try (have Z6q := Aside0.mk (And.intro (Z6.out.1.below hb) Z6.out.2); clear Z6; have Z6 := Z6q; clear Z6q)
          have Z6 := Aside0.mk (And.intro hz HGn.out)
          clear hz hg HGn
          have HH2 := Aside0.mk hHeld
          clear hHeld HH
          have HH := HH2
          clear HH2
          try clear hb
          try clear hK K
          refine norm_ (a' := ?_) ?_ ?_
          rotate_left
          · show Act.put _ (some 6) _ = _
            simp only [Act.put, List.setIfInBounds_toArray, List.set_cons_zero, List.set_cons_succ, i64_w, i32_w]
            rfl
          exact N4.out A7 c7 g6 _ ⟨HH.out, C7.out, Z6.out, trivial⟩
      · refine alloc_blk_step (by rfl) rfl rfl zero33 ?_
        intro g5 w' hg hz hb
        refine hK.out _ _ ⟨HH.out.1.below hb, HH.out.2.1.below hb, below_step HH.out.2.2 hb⟩ (fun hHeld => ?_)
        have HGn := Aside0.mk (show W.heap.size ≤ g5 ∧ gx < g5 ∧ gy < g5 by rw [hg]; exact ⟨HH.out.2.2.size, blk_lt HH.out.1, blk_lt HH.out.2.1⟩)
        try (have C7q := Aside0.mk (And.intro (Kd.C_below C7.out.1 hb) C7.out.2); clear C7; have C7 := C7q; clear C7q)
        try (have C16q := Aside0.mk (And.intro (Kd.C_below C16.out.1 hb) C16.out.2); clear C16; have C16 := C16q; clear C16q)
        try (have Z5q := Aside0.mk (And.intro (Z5.out.1.below hb) Z5.out.2); clear Z5; have Z5 := Z5q; clear Z5q)
        try (have Z6q := Aside0.mk (And.intro (Z6.out.1.below hb) Z6.out.2); clear Z6; have Z6 := Z6q; clear Z6q)
        have Z5 := Aside0.mk (And.intro hz HGn.out)
        clear hz hg HGn
        have HH2 := Aside0.mk hHeld
        clear hHeld HH
        have HH := HH2
        clear HH2
        try clear hb
        try clear hK K
        refine norm_ (a' := ?_) ?_ ?_
        rotate_left
        · show Act.put _ (some 5) _ = _
          simp only [Act.put, List.setIfInBounds_toArray, List.set_cons_zero, List.set_cons_succ, i64_w, i32_w]
          rfl
        exact N1.out g5 _ ⟨HH.out, Z5.out, trivial⟩
      · refine alloc_blk_step (by rfl) rfl rfl zero33 ?_
        intro g6 w' hg hz hb
        refine hK.out _ _ ⟨HH.out.1.below hb, HH.out.2.1.below hb, below_step HH.out.2.2 hb⟩ (fun hHeld => ?_)
        have HGn := Aside0.mk (show W.heap.size ≤ g6 ∧ gx < g6 ∧ gy < g6 by rw [hg]; exact ⟨HH.out.2.2.size, blk_lt HH.out.1, blk_lt HH.out.2.1⟩)
        try (have C7q := Aside0.mk (And.intro (Kd.C_below C7.out.1 hb) C7.out.2); clear C7; have C7 := C7q; clear C7q)
        try (have C16q := Aside0.mk (And.intro (Kd.C_below C16.out.1 hb) C16.out.2); clear C16; have C16 := C16q; clear C16q)
        try (have Z5q := Aside0.mk (And.intro (Z5.out.1.below hb) Z5.out.2); clear Z5; have Z5 := Z5q; clear Z5q)
        try (have Z6q := Aside0.mk (And.intro (Z6.out.1.below hb) Z6.out.2); clear Z6; have Z6 := Z6q; clear Z6q)
        have Z6 := Aside0.mk (And.intro hz HGn.out)
        clear hz hg HGn
        have HH2 := Aside0.mk hHeld
        clear hHeld HH
        have HH := HH2
        clear HH2
        try clear hb
        try clear hK K
        refine norm_ (a' := ?_) ?_ ?_
        rotate_left
        · show Act.put _ (some 6) _ = _
          simp only [Act.put, List.setIfInBounds_toArray, List.set_cons_zero, List.set_cons_succ, i64_w, i32_w]
          rfl
        exact N2.out g6 _ ⟨HH.out, Z6.out, trivial⟩
    · refine alloc_blk_step (by rfl) rfl rfl zero33 ?_
      intro g5 w' hg hz hb
      refine hK.out _ _ ⟨HH.out.1.below hb, HH.out.2.1.below hb, below_step HH.out.2.2 hb⟩ (fun hHeld => ?_)
      have HGn := Aside0.mk (show W.heap.size ≤ g5 ∧ gx < g5 ∧ gy < g5 by rw [hg]; exact ⟨HH.out.2.2.size, blk_lt HH.out.1, blk_lt HH.out.2.1⟩)
      try (have C7q := Aside0.mk (And.intro (Kd.C_below C7.out.1 hb) C7.out.2); clear C7; have C7 := C7q; clear C7q)
      try (have C16q := Aside0.mk (And.intro (Kd.C_below C16.out.1 hb) C16.out.2); clear C16; have C16 := C16q; clear C16q)
      try (have Z5q := Aside0.mk (And.intro (Z5.out.1.below hb) Z5.out.2); clear Z5; have Z5 := Z5q; clear Z5q)
      try (have Z6q := Aside0.mk (And.intro (Z6.out.1.below hb) Z6.out.2); clear Z6; have Z6 := Z6q; clear Z6q)
      have Z5 := Aside0.mk (And.intro hz HGn.out)
      clear hz hg HGn
      have HH2 := Aside0.mk hHeld
      clear hHeld HH
      have HH := HH2
      clear HH2
      try clear hb
      try clear hK K
      refine norm_ (a' := ?_) ?_ ?_
      rotate_left
      · show Act.put _ (some 5) _ = _
        simp only [Act.put, List.setIfInBounds_toArray, List.set_cons_zero, List.set_cons_succ, i64_w, i32_w]
        rfl
      refine two_ (i := 2) (j := 19) (Ni := some 9) (Nj := some 6) (fl 22 288311) (fl 22 812595) rfl rfl rfl rfl (two_of HT_.out (by kernel_rfl)) (by decide) (by decide) (fun K hK => ?_) (fun K hK => ?_)
      · refine goes_ Tryz.func38 (by kernel_rfl) rfl #[.agg (u8s x.1)] (by rfl) rfl rfl (by simp only [List.map_toArray, List.map_cons, List.map_nil]; rfl) ?_
        refine (HPX.out _).mono ?_
        rintro e w' ⟨rfl, hb⟩
        refine ⟨_, rfl, hK.out _ _ ⟨HH.out.1.below hb, HH.out.2.1.below hb, below_step HH.out.2.2 hb⟩ (fun hHeld => ?_)⟩
        try (have C7q := Aside0.mk (And.intro (Kd.C_below C7.out.1 hb) C7.out.2); clear C7; have C7 := C7q; clear C7q)
        try (have C16q := Aside0.mk (And.intro (Kd.C_below C16.out.1 hb) C16.out.2); clear C16; have C16 := C16q; clear C16q)
        try (have Z5q := Aside0.mk (And.intro (Z5.out.1.below hb) Z5.out.2); clear Z5; have Z5 := Z5q; clear Z5q)
        try (have Z6q := Aside0.mk (And.intro (Z6.out.1.below hb) Z6.out.2); clear Z6; have Z6 := Z6q; clear Z6q)
        have HH2 := Aside0.mk hHeld
        clear hHeld HH
        have HH := HH2
        clear HH2
        try clear hb
        try clear hK K
        refine norm_ (a' := ?_) ?_ ?_
        rotate_left
        · show Act.put _ (some 9) _ = _
          simp only [Act.put, List.setIfInBounds_toArray, List.set_cons_zero, List.set_cons_succ, i64_w, i32_w]
          rfl
        refine pure_ (i := 3) (N := some 10) (v := ?_) (a' := ?_) (fl 22 288319) rfl rfl (any_of HT_.out (by kernel_rfl)) (fun _ _ _ h => h) (Or.inl ⟨by rfl, ?_⟩) ?_ ?_
        rotate_left
        · intro w'
          refine (exec_add rfl rfl rfl Tryz.underlying9 ?_ w').trans ?_
          rotate_left
          · with_reducible rfl
          simp only [ByteArray.size_append, hsx, hsy, lit10]
          omega
        rotate_left
        · simp only [Act.put, List.setIfInBounds_toArray, List.set_cons_zero, List.set_cons_succ, i64_w, i32_w]
          rfl
        refine pure_ (i := 6) (N := some 13) (v := ?_) (a' := ?_) (fl 22 288383) rfl rfl (any_of HT_.out (by kernel_rfl)) (fun _ _ _ h => h) (Or.inl ⟨by rfl, ?_⟩) ?_ ?_
        rotate_left
        · intro w'
          refine (exec_add rfl rfl rfl Tryz.underlying9 ?_ w').trans ?_
          rotate_left
          · with_reducible rfl
          simp only [ByteArray.size_append, hsx, hsy, lit10]
          omega
        rotate_left
        · simp only [Act.put, List.setIfInBounds_toArray, List.set_cons_zero, List.set_cons_succ, i64_w, i32_w]
          rfl
        exact N1.out g5 _ ⟨HH.out, Z5.out, trivial⟩
      · refine alloc_blk_step (by rfl) rfl rfl zero33 ?_
        intro g6 w' hg hz hb
        refine hK.out _ _ ⟨HH.out.1.below hb, HH.out.2.1.below hb, below_step HH.out.2.2 hb⟩ (fun hHeld => ?_)
        have HGn := Aside0.mk (show W.heap.size ≤ g6 ∧ gx < g6 ∧ gy < g6 by rw [hg]; exact ⟨HH.out.2.2.size, blk_lt HH.out.1, blk_lt HH.out.2.1⟩)
        have N56 := Aside0.mk (show g5 ≠ g6 by have hq := blk_lt Z5.out.1; omega)
        try (have C7q := Aside0.mk (And.intro (Kd.C_below C7.out.1 hb) C7.out.2); clear C7; have C7 := C7q; clear C7q)
        try (have C16q := Aside0.mk (And.intro (Kd.C_below C16.out.1 hb) C16.out.2); clear C16; have C16 := C16q; clear C16q)
        try (have Z5q := Aside0.mk (And.intro (Z5.out.1.below hb) Z5.out.2); clear Z5; have Z5 := Z5q; clear Z5q)
        try (have Z6q := Aside0.mk (And.intro (Z6.out.1.below hb) Z6.out.2); clear Z6; have Z6 := Z6q; clear Z6q)
        have Z6 := Aside0.mk (And.intro hz HGn.out)
        clear hz hg HGn
        have HH2 := Aside0.mk hHeld
        clear hHeld HH
        have HH := HH2
        clear HH2
        try clear hb
        try clear hK K
        refine norm_ (a' := ?_) ?_ ?_
        rotate_left
        · show Act.put _ (some 6) _ = _
          simp only [Act.put, List.setIfInBounds_toArray, List.set_cons_zero, List.set_cons_succ, i64_w, i32_w]
          rfl
        exact N0.out g5 g6 _ ⟨HH.out, Z5.out, Z6.out, N56.out, trivial⟩
    · refine alloc_blk_step (by rfl) rfl rfl zero33 ?_
      intro g6 w' hg hz hb
      refine hK.out _ _ ⟨HH.out.1.below hb, HH.out.2.1.below hb, below_step HH.out.2.2 hb⟩ (fun hHeld => ?_)
      have HGn := Aside0.mk (show W.heap.size ≤ g6 ∧ gx < g6 ∧ gy < g6 by rw [hg]; exact ⟨HH.out.2.2.size, blk_lt HH.out.1, blk_lt HH.out.2.1⟩)
      try (have C7q := Aside0.mk (And.intro (Kd.C_below C7.out.1 hb) C7.out.2); clear C7; have C7 := C7q; clear C7q)
      try (have C16q := Aside0.mk (And.intro (Kd.C_below C16.out.1 hb) C16.out.2); clear C16; have C16 := C16q; clear C16q)
      try (have Z5q := Aside0.mk (And.intro (Z5.out.1.below hb) Z5.out.2); clear Z5; have Z5 := Z5q; clear Z5q)
      try (have Z6q := Aside0.mk (And.intro (Z6.out.1.below hb) Z6.out.2); clear Z6; have Z6 := Z6q; clear Z6q)
      have Z6 := Aside0.mk (And.intro hz HGn.out)
      clear hz hg HGn
      have HH2 := Aside0.mk hHeld
      clear hHeld HH
      have HH := HH2
      clear HH2
      try clear hb
      try clear hK K
      refine norm_ (a' := ?_) ?_ ?_
      rotate_left
      · show Act.put _ (some 6) _ = _
        simp only [Act.put, List.setIfInBounds_toArray, List.set_cons_zero, List.set_cons_succ, i64_w, i32_w]
        rfl
      refine two_ (i := 2) (j := 18) (Ni := some 9) (Nj := some 5) (fl 22 550455) (fl 22 812595) rfl rfl rfl rfl (two_of HT_.out (by kernel_rfl)) (by decide) (by decide) (fun K hK => ?_) (fun K hK => ?_)
      · refine goes_ Tryz.func38 (by kernel_rfl) rfl #[.agg (u8s x.1)] (by rfl) rfl rfl (by simp only [List.map_toArray, List.map_cons, List.map_nil]; rfl) ?_
        refine (HPX.out _).mono ?_
        rintro e w' ⟨rfl, hb⟩
        refine ⟨_, rfl, hK.out _ _ ⟨HH.out.1.below hb, HH.out.2.1.below hb, below_step HH.out.2.2 hb⟩ (fun hHeld => ?_)⟩
        try (have C7q := Aside0.mk (And.intro (Kd.C_below C7.out.1 hb) C7.out.2); clear C7; have C7 := C7q; clear C7q)
        try (have C16q := Aside0.mk (And.intro (Kd.C_below C16.out.1 hb) C16.out.2); clear C16; have C16 := C16q; clear C16q)
        try (have Z5q := Aside0.mk (And.intro (Z5.out.1.below hb) Z5.out.2); clear Z5; have Z5 := Z5q; clear Z5q)
        try (have Z6q := Aside0.mk (And.intro (Z6.out.1.below hb) Z6.out.2); clear Z6; have Z6 := Z6q; clear Z6q)
        have HH2 := Aside0.mk hHeld
        clear hHeld HH
        have HH := HH2
        clear HH2
        try clear hb
        try clear hK K
        refine norm_ (a' := ?_) ?_ ?_
        rotate_left
        · show Act.put _ (some 9) _ = _
          simp only [Act.put, List.setIfInBounds_toArray, List.set_cons_zero, List.set_cons_succ, i64_w, i32_w]
          rfl
        refine pure_ (i := 3) (N := some 10) (v := ?_) (a' := ?_) (fl 22 550463) rfl rfl (any_of HT_.out (by kernel_rfl)) (fun _ _ _ h => h) (Or.inl ⟨by rfl, ?_⟩) ?_ ?_
        rotate_left
        · intro w'
          refine (exec_add rfl rfl rfl Tryz.underlying9 ?_ w').trans ?_
          rotate_left
          · with_reducible rfl
          simp only [ByteArray.size_append, hsx, hsy, lit10]
          omega
        rotate_left
        · simp only [Act.put, List.setIfInBounds_toArray, List.set_cons_zero, List.set_cons_succ, i64_w, i32_w]
          rfl
        refine pure_ (i := 6) (N := some 13) (v := ?_) (a' := ?_) (fl 22 550527) rfl rfl (any_of HT_.out (by kernel_rfl)) (fun _ _ _ h => h) (Or.inl ⟨by rfl, ?_⟩) ?_ ?_
        rotate_left
        · intro w'
          refine (exec_add rfl rfl rfl Tryz.underlying9 ?_ w').trans ?_
          rotate_left
          · with_reducible rfl
          simp only [ByteArray.size_append, hsx, hsy, lit10]
          omega
        rotate_left
        · simp only [Act.put, List.setIfInBounds_toArray, List.set_cons_zero, List.set_cons_succ, i64_w, i32_w]
          rfl
        exact N2.out g6 _ ⟨HH.out, Z6.out, trivial⟩
      · refine alloc_blk_step (by rfl) rfl rfl zero33 ?_
        intro g5 w' hg hz hb
        refine hK.out _ _ ⟨HH.out.1.below hb, HH.out.2.1.below hb, below_step HH.out.2.2 hb⟩ (fun hHeld => ?_)
        have HGn := Aside0.mk (show W.heap.size ≤ g5 ∧ gx < g5 ∧ gy < g5 by rw [hg]; exact ⟨HH.out.2.2.size, blk_lt HH.out.1, blk_lt HH.out.2.1⟩)
        have N56 := Aside0.mk (show g5 ≠ g6 by have hq := blk_lt Z6.out.1; omega)
        try (have C7q := Aside0.mk (And.intro (Kd.C_below C7.out.1 hb) C7.out.2); clear C7; have C7 := C7q; clear C7q)
        try (have C16q := Aside0.mk (And.intro (Kd.C_below C16.out.1 hb) C16.out.2); clear C16; have C16 := C16q; clear C16q)
        try (have Z5q := Aside0.mk (And.intro (Z5.out.1.below hb) Z5.out.2); clear Z5; have Z5 := Z5q; clear Z5q)
        try (have Z6q := Aside0.mk (And.intro (Z6.out.1.below hb) Z6.out.2); clear Z6; have Z6 := Z6q; clear Z6q)
        have Z5 := Aside0.mk (And.intro hz HGn.out)
        clear hz hg HGn
        have HH2 := Aside0.mk hHeld
        clear hHeld HH
        have HH := HH2
        clear HH2
        try clear hb
        try clear hK K
        refine norm_ (a' := ?_) ?_ ?_
        rotate_left
        · show Act.put _ (some 5) _ = _
          simp only [Act.put, List.setIfInBounds_toArray, List.set_cons_zero, List.set_cons_succ, i64_w, i32_w]
          rfl
        exact N0.out g5 g6 _ ⟨HH.out, Z5.out, Z6.out, N56.out, trivial⟩
    case kN0 =>
      intro g5 g6 wd hN
      obtain ⟨hN0, hZ5, hZ6, hN56, _⟩ := hN
      have HH := Aside0.mk hN0
      have Z5 := Aside0.mk hZ5
      have Z6 := Aside0.mk hZ6
      have N56 := Aside0.mk hN56
      clear hN0 hZ5 hZ6 hN56
      refine one_ (i := 2) (N := some 9) (fl 22 812599) rfl rfl (one_of HT_.out (by kernel_rfl)) (by decide) (fun K hK => ?_)
      refine goes_ Tryz.func38 (by kernel_rfl) rfl #[.agg (u8s x.1)] (by rfl) rfl rfl (by simp only [List.map_toArray, List.map_cons, List.map_nil]; rfl) ?_
      refine (HPX.out _).mono ?_
      rintro e w' ⟨rfl, hb⟩
      refine ⟨_, rfl, hK.out _ _ ⟨HH.out.1.below hb, HH.out.2.1.below hb, below_step HH.out.2.2 hb⟩ (fun hHeld => ?_)⟩
      try (have C7q := Aside0.mk (And.intro (Kd.C_below C7.out.1 hb) C7.out.2); clear C7; have C7 := C7q; clear C7q)
      try (have C16q := Aside0.mk (And.intro (Kd.C_below C16.out.1 hb) C16.out.2); clear C16; have C16 := C16q; clear C16q)
      try (have Z5q := Aside0.mk (And.intro (Z5.out.1.below hb) Z5.out.2); clear Z5; have Z5 := Z5q; clear Z5q)
      try (have Z6q := Aside0.mk (And.intro (Z6.out.1.below hb) Z6.out.2); clear Z6; have Z6 := Z6q; clear Z6q)
      have HH2 := Aside0.mk hHeld
      clear hHeld HH
      have HH := HH2
      clear HH2
      try clear hb
      try clear hK K
      refine norm_ (a' := ?_) ?_ ?_
      rotate_left
      · show Act.put _ (some 9) _ = _
        simp only [Act.put, List.setIfInBounds_toArray, List.set_cons_zero, List.set_cons_succ, i64_w, i32_w]
        rfl
      refine pure_ (i := 3) (N := some 10) (v := ?_) (a' := ?_) (fl 22 812607) rfl rfl (any_of HT_.out (by kernel_rfl)) (fun _ _ _ h => h) (Or.inl ⟨by rfl, ?_⟩) ?_ ?_
      rotate_left
      · intro w'
        refine (exec_add rfl rfl rfl Tryz.underlying9 ?_ w').trans ?_
        rotate_left
        · with_reducible rfl
        simp only [ByteArray.size_append, hsx, hsy, lit10]
        omega
      rotate_left
      · simp only [Act.put, List.setIfInBounds_toArray, List.set_cons_zero, List.set_cons_succ, i64_w, i32_w]
        rfl
      refine pure_ (i := 6) (N := some 13) (v := ?_) (a' := ?_) (fl 22 812671) rfl rfl (any_of HT_.out (by kernel_rfl)) (fun _ _ _ h => h) (Or.inl ⟨by rfl, ?_⟩) ?_ ?_
      rotate_left
      · intro w'
        refine (exec_add rfl rfl rfl Tryz.underlying9 ?_ w').trans ?_
        rotate_left
        · with_reducible rfl
        simp only [ByteArray.size_append, hsx, hsy, lit10]
        omega
      rotate_left
      · simp only [Act.put, List.setIfInBounds_toArray, List.set_cons_zero, List.set_cons_succ, i64_w, i32_w]
        rfl
      exact N5.out g5 g6 _ ⟨HH.out, Z5.out, Z6.out, N56.out, trivial⟩
    case kN1 =>
      intro g5 wd hN
      obtain ⟨hN0, hZ5, _⟩ := hN
      have HH := Aside0.mk hN0
      have Z5 := Aside0.mk hZ5
      clear hN0 hZ5
      refine two_ (i := 7) (j := 19) (Ni := some 14) (Nj := some 6) (fl 22 288511) (fl 22 812671) rfl rfl rfl rfl (two_of HT_.out (by kernel_rfl)) (by decide) (by decide) (fun K hK => ?_) (fun K hK => ?_)
      · refine bytes_step (s := (sX ++ (⟨#[10]⟩ : ByteArray) ++ x.2)) (by rfl) rfl rfl Tryz.underlying9 Tryz.underlying26 Tryz.underlying5 HSX.out ?_
        intro A7 c7 w' hcc hC hb
        refine hK.out _ _ ⟨HH.out.1.below hb, HH.out.2.1.below hb, below_step HH.out.2.2 hb⟩ (fun hHeld => ?_)
        have C7n := Aside0.mk (And.intro hC hcc)
        clear hC hcc
        try (have C7q := Aside0.mk (And.intro (Kd.C_below C7.out.1 hb) C7.out.2); clear C7; have C7 := C7q; clear C7q)
        try (have C16q := Aside0.mk (And.intro (Kd.C_below C16.out.1 hb) C16.out.2); clear C16; have C16 := C16q; clear C16q)
        try (have Z5q := Aside0.mk (And.intro (Z5.out.1.below hb) Z5.out.2); clear Z5; have Z5 := Z5q; clear Z5q)
        try (have Z6q := Aside0.mk (And.intro (Z6.out.1.below hb) Z6.out.2); clear Z6; have Z6 := Z6q; clear Z6q)
        have C7 := C7n
        clear C7n
        have HH2 := Aside0.mk hHeld
        clear hHeld HH
        have HH := HH2
        clear HH2
        try clear hb
        try clear hK K
        refine norm_ (a' := ?_) ?_ ?_
        rotate_left
        · show Act.put _ (some 14) _ = _
          simp only [Act.put, List.setIfInBounds_toArray, List.set_cons_zero, List.set_cons_succ, i64_w, i32_w]
          rfl
        exact N3.out A7 c7 g5 _ ⟨HH.out, C7.out, Z5.out, trivial⟩
      · refine alloc_blk_step (by rfl) rfl rfl zero33 ?_
        intro g6 w' hg hz hb
        refine hK.out _ _ ⟨HH.out.1.below hb, HH.out.2.1.below hb, below_step HH.out.2.2 hb⟩ (fun hHeld => ?_)
        have HGn := Aside0.mk (show W.heap.size ≤ g6 ∧ gx < g6 ∧ gy < g6 by rw [hg]; exact ⟨HH.out.2.2.size, blk_lt HH.out.1, blk_lt HH.out.2.1⟩)
        have N56 := Aside0.mk (show g5 ≠ g6 by have hq := blk_lt Z5.out.1; omega)
        try (have C7q := Aside0.mk (And.intro (Kd.C_below C7.out.1 hb) C7.out.2); clear C7; have C7 := C7q; clear C7q)
        try (have C16q := Aside0.mk (And.intro (Kd.C_below C16.out.1 hb) C16.out.2); clear C16; have C16 := C16q; clear C16q)
        try (have Z5q := Aside0.mk (And.intro (Z5.out.1.below hb) Z5.out.2); clear Z5; have Z5 := Z5q; clear Z5q)
        try (have Z6q := Aside0.mk (And.intro (Z6.out.1.below hb) Z6.out.2); clear Z6; have Z6 := Z6q; clear Z6q)
        have Z6 := Aside0.mk (And.intro hz HGn.out)
        clear hz hg HGn
        have HH2 := Aside0.mk hHeld
        clear hHeld HH
        have HH := HH2
        clear HH2
        try clear hb
        try clear hK K
        refine norm_ (a' := ?_) ?_ ?_
        rotate_left
        · show Act.put _ (some 6) _ = _
          simp only [Act.put, List.setIfInBounds_toArray, List.set_cons_zero, List.set_cons_succ, i64_w, i32_w]
          rfl
        exact N5.out g5 g6 _ ⟨HH.out, Z5.out, Z6.out, N56.out, trivial⟩
    case kN2 =>
      intro g6 wd hN
      obtain ⟨hN0, hZ6, _⟩ := hN
      have HH := Aside0.mk hN0
      have Z6 := Aside0.mk hZ6
      clear hN0 hZ6
      refine two_ (i := 7) (j := 18) (Ni := some 14) (Nj := some 5) (fl 22 550655) (fl 22 812671) rfl rfl rfl rfl (two_of HT_.out (by kernel_rfl)) (by decide) (by decide) (fun K hK => ?_) (fun K hK => ?_)
      · refine bytes_step (s := (sX ++ (⟨#[10]⟩ : ByteArray) ++ x.2)) (by rfl) rfl rfl Tryz.underlying9 Tryz.underlying26 Tryz.underlying5 HSX.out ?_
        intro A7 c7 w' hcc hC hb
        refine hK.out _ _ ⟨HH.out.1.below hb, HH.out.2.1.below hb, below_step HH.out.2.2 hb⟩ (fun hHeld => ?_)
        have C7n := Aside0.mk (And.intro hC hcc)
        clear hC hcc
        try (have C7q := Aside0.mk (And.intro (Kd.C_below C7.out.1 hb) C7.out.2); clear C7; have C7 := C7q; clear C7q)
        try (have C16q := Aside0.mk (And.intro (Kd.C_below C16.out.1 hb) C16.out.2); clear C16; have C16 := C16q; clear C16q)
        try (have Z5q := Aside0.mk (And.intro (Z5.out.1.below hb) Z5.out.2); clear Z5; have Z5 := Z5q; clear Z5q)
        try (have Z6q := Aside0.mk (And.intro (Z6.out.1.below hb) Z6.out.2); clear Z6; have Z6 := Z6q; clear Z6q)
        have C7 := C7n
        clear C7n
        have HH2 := Aside0.mk hHeld
        clear hHeld HH
        have HH := HH2
        clear HH2
        try clear hb
        try clear hK K
        refine norm_ (a' := ?_) ?_ ?_
        rotate_left
        · show Act.put _ (some 14) _ = _
          simp only [Act.put, List.setIfInBounds_toArray, List.set_cons_zero, List.set_cons_succ, i64_w, i32_w]
          rfl
        exact N4.out A7 c7 g6 _ ⟨HH.out, C7.out, Z6.out, trivial⟩
      · refine alloc_blk_step (by rfl) rfl rfl zero33 ?_
        intro g5 w' hg hz hb
        refine hK.out _ _ ⟨HH.out.1.below hb, HH.out.2.1.below hb, below_step HH.out.2.2 hb⟩ (fun hHeld => ?_)
        have HGn := Aside0.mk (show W.heap.size ≤ g5 ∧ gx < g5 ∧ gy < g5 by rw [hg]; exact ⟨HH.out.2.2.size, blk_lt HH.out.1, blk_lt HH.out.2.1⟩)
        have N56 := Aside0.mk (show g5 ≠ g6 by have hq := blk_lt Z6.out.1; omega)
        try (have C7q := Aside0.mk (And.intro (Kd.C_below C7.out.1 hb) C7.out.2); clear C7; have C7 := C7q; clear C7q)
        try (have C16q := Aside0.mk (And.intro (Kd.C_below C16.out.1 hb) C16.out.2); clear C16; have C16 := C16q; clear C16q)
        try (have Z5q := Aside0.mk (And.intro (Z5.out.1.below hb) Z5.out.2); clear Z5; have Z5 := Z5q; clear Z5q)
        try (have Z6q := Aside0.mk (And.intro (Z6.out.1.below hb) Z6.out.2); clear Z6; have Z6 := Z6q; clear Z6q)
        have Z5 := Aside0.mk (And.intro hz HGn.out)
        clear hz hg HGn
        have HH2 := Aside0.mk hHeld
        clear hHeld HH
        have HH := HH2
        clear HH2
        try clear hb
        try clear hK K
        refine norm_ (a' := ?_) ?_ ?_
        rotate_left
        · show Act.put _ (some 5) _ = _
          simp only [Act.put, List.setIfInBounds_toArray, List.set_cons_zero, List.set_cons_succ, i64_w, i32_w]
          rfl
        exact N5.out g5 g6 _ ⟨HH.out, Z5.out, Z6.out, N56.out, trivial⟩
    case kN3 =>
      intro A7 c7 g5 wd hN
      obtain ⟨hN0, hC7, hZ5, _⟩ := hN
      have HH := Aside0.mk hN0
      have C7 := Aside0.mk hC7
      have Z5 := Aside0.mk hZ5
      clear hN0 hC7 hZ5
      refine two_ (i := 8) (j := 19) (Ni := some 15) (Nj := some 6) (fl 22 288767) (fl 22 812799) rfl rfl rfl rfl (two_of HT_.out (by kernel_rfl)) (by decide) (by decide) (fun K hK => ?_) (fun K hK => ?_)
      · refine goes_ Tryz.func37 (by kernel_rfl) rfl #[.slice A7 (sX ++ (⟨#[10]⟩ : ByteArray) ++ x.2).size c7] (by rfl) rfl rfl (by simp only [List.map_toArray, List.map_cons, List.map_nil]; rfl) ?_
        refine (rsum_any A7 _ c7 (bytesOf (sX ++ (⟨#[10]⟩ : ByteArray) ++ x.2)) _ (by rw [bytesOf_length]; exact C7.out.1) (bytesOf_length _).symm (by rw [bytesOf_length]; exact C7.out.2) HLX.out HRX.out).mono ?_
        rintro e w' ⟨rfl, hb⟩
        refine ⟨_, rfl, hK.out _ _ ⟨HH.out.1.below hb, HH.out.2.1.below hb, below_step HH.out.2.2 hb⟩ (fun hHeld => ?_)⟩
        try (have C7q := Aside0.mk (And.intro (Kd.C_below C7.out.1 hb) C7.out.2); clear C7; have C7 := C7q; clear C7q)
        try (have C16q := Aside0.mk (And.intro (Kd.C_below C16.out.1 hb) C16.out.2); clear C16; have C16 := C16q; clear C16q)
        try (have Z5q := Aside0.mk (And.intro (Z5.out.1.below hb) Z5.out.2); clear Z5; have Z5 := Z5q; clear Z5q)
        try (have Z6q := Aside0.mk (And.intro (Z6.out.1.below hb) Z6.out.2); clear Z6; have Z6 := Z6q; clear Z6q)
        clear C7
        have HH2 := Aside0.mk hHeld
        clear hHeld HH
        have HH := HH2
        clear HH2
        try clear hb
        try clear hK K
        refine norm_ (a' := ?_) ?_ ?_
        rotate_left
        · show Act.put _ (some 15) _ = _
          simp only [Act.put, List.setIfInBounds_toArray, List.set_cons_zero, List.set_cons_succ, i64_w, i32_w]
          rfl
        exact N6.out A7 c7 g5 _ ⟨HH.out, Z5.out, trivial⟩
      · refine alloc_blk_step (by rfl) rfl rfl zero33 ?_
        intro g6 w' hg hz hb
        refine hK.out _ _ ⟨HH.out.1.below hb, HH.out.2.1.below hb, below_step HH.out.2.2 hb⟩ (fun hHeld => ?_)
        have HGn := Aside0.mk (show W.heap.size ≤ g6 ∧ gx < g6 ∧ gy < g6 by rw [hg]; exact ⟨HH.out.2.2.size, blk_lt HH.out.1, blk_lt HH.out.2.1⟩)
        have N56 := Aside0.mk (show g5 ≠ g6 by have hq := blk_lt Z5.out.1; omega)
        try (have C7q := Aside0.mk (And.intro (Kd.C_below C7.out.1 hb) C7.out.2); clear C7; have C7 := C7q; clear C7q)
        try (have C16q := Aside0.mk (And.intro (Kd.C_below C16.out.1 hb) C16.out.2); clear C16; have C16 := C16q; clear C16q)
        try (have Z5q := Aside0.mk (And.intro (Z5.out.1.below hb) Z5.out.2); clear Z5; have Z5 := Z5q; clear Z5q)
        try (have Z6q := Aside0.mk (And.intro (Z6.out.1.below hb) Z6.out.2); clear Z6; have Z6 := Z6q; clear Z6q)
        have Z6 := Aside0.mk (And.intro hz HGn.out)
        clear hz hg HGn
        have HH2 := Aside0.mk hHeld
        clear hHeld HH
        have HH := HH2
        clear HH2
        try clear hb
        try clear hK K
        refine norm_ (a' := ?_) ?_ ?_
        rotate_left
        · show Act.put _ (some 6) _ = _
          simp only [Act.put, List.setIfInBounds_toArray, List.set_cons_zero, List.set_cons_succ, i64_w, i32_w]
          rfl
        exact N8.out A7 c7 g5 g6 _ ⟨HH.out, C7.out, Z5.out, Z6.out, N56.out, trivial⟩
    case kN4 =>
      intro A7 c7 g6 wd hN
      obtain ⟨hN0, hC7, hZ6, _⟩ := hN
      have HH := Aside0.mk hN0
      have C7 := Aside0.mk hC7
      have Z6 := Aside0.mk hZ6
      clear hN0 hC7 hZ6
      refine two_ (i := 8) (j := 18) (Ni := some 15) (Nj := some 5) (fl 22 550911) (fl 22 812799) rfl rfl rfl rfl (two_of HT_.out (by kernel_rfl)) (by decide) (by decide) (fun K hK => ?_) (fun K hK => ?_)
      · refine goes_ Tryz.func37 (by kernel_rfl) rfl #[.slice A7 (sX ++ (⟨#[10]⟩ : ByteArray) ++ x.2).size c7] (by rfl) rfl rfl (by simp only [List.map_toArray, List.map_cons, List.map_nil]; rfl) ?_
        refine (rsum_any A7 _ c7 (bytesOf (sX ++ (⟨#[10]⟩ : ByteArray) ++ x.2)) _ (by rw [bytesOf_length]; exact C7.out.1) (bytesOf_length _).symm (by rw [bytesOf_length]; exact C7.out.2) HLX.out HRX.out).mono ?_
        rintro e w' ⟨rfl, hb⟩
        refine ⟨_, rfl, hK.out _ _ ⟨HH.out.1.below hb, HH.out.2.1.below hb, below_step HH.out.2.2 hb⟩ (fun hHeld => ?_)⟩
        try (have C7q := Aside0.mk (And.intro (Kd.C_below C7.out.1 hb) C7.out.2); clear C7; have C7 := C7q; clear C7q)
        try (have C16q := Aside0.mk (And.intro (Kd.C_below C16.out.1 hb) C16.out.2); clear C16; have C16 := C16q; clear C16q)
        try (have Z5q := Aside0.mk (And.intro (Z5.out.1.below hb) Z5.out.2); clear Z5; have Z5 := Z5q; clear Z5q)
        try (have Z6q := Aside0.mk (And.intro (Z6.out.1.below hb) Z6.out.2); clear Z6; have Z6 := Z6q; clear Z6q)
        clear C7
        have HH2 := Aside0.mk hHeld
        clear hHeld HH
        have HH := HH2
        clear HH2
        try clear hb
        try clear hK K
        refine norm_ (a' := ?_) ?_ ?_
        rotate_left
        · show Act.put _ (some 15) _ = _
          simp only [Act.put, List.setIfInBounds_toArray, List.set_cons_zero, List.set_cons_succ, i64_w, i32_w]
          rfl
        exact N7.out A7 c7 g6 _ ⟨HH.out, Z6.out, trivial⟩
      · refine alloc_blk_step (by rfl) rfl rfl zero33 ?_
        intro g5 w' hg hz hb
        refine hK.out _ _ ⟨HH.out.1.below hb, HH.out.2.1.below hb, below_step HH.out.2.2 hb⟩ (fun hHeld => ?_)
        have HGn := Aside0.mk (show W.heap.size ≤ g5 ∧ gx < g5 ∧ gy < g5 by rw [hg]; exact ⟨HH.out.2.2.size, blk_lt HH.out.1, blk_lt HH.out.2.1⟩)
        have N56 := Aside0.mk (show g5 ≠ g6 by have hq := blk_lt Z6.out.1; omega)
        try (have C7q := Aside0.mk (And.intro (Kd.C_below C7.out.1 hb) C7.out.2); clear C7; have C7 := C7q; clear C7q)
        try (have C16q := Aside0.mk (And.intro (Kd.C_below C16.out.1 hb) C16.out.2); clear C16; have C16 := C16q; clear C16q)
        try (have Z5q := Aside0.mk (And.intro (Z5.out.1.below hb) Z5.out.2); clear Z5; have Z5 := Z5q; clear Z5q)
        try (have Z6q := Aside0.mk (And.intro (Z6.out.1.below hb) Z6.out.2); clear Z6; have Z6 := Z6q; clear Z6q)
        have Z5 := Aside0.mk (And.intro hz HGn.out)
        clear hz hg HGn
        have HH2 := Aside0.mk hHeld
        clear hHeld HH
        have HH := HH2
        clear HH2
        try clear hb
        try clear hK K
        refine norm_ (a' := ?_) ?_ ?_
        rotate_left
        · show Act.put _ (some 5) _ = _
          simp only [Act.put, List.setIfInBounds_toArray, List.set_cons_zero, List.set_cons_succ, i64_w, i32_w]
          rfl
        exact N8.out A7 c7 g5 g6 _ ⟨HH.out, C7.out, Z5.out, Z6.out, N56.out, trivial⟩
    case kN5 =>
      intro g5 g6 wd hN
      obtain ⟨hN0, hZ5, hZ6, hN56, _⟩ := hN
      have HH := Aside0.mk hN0
      have Z5 := Aside0.mk hZ5
      have Z6 := Aside0.mk hZ6
      have N56 := Aside0.mk hN56
      clear hN0 hZ5 hZ6 hN56
      refine one_ (i := 7) (N := some 14) (fl 22 812799) rfl rfl (one_of HT_.out (by kernel_rfl)) (by decide) (fun K hK => ?_)
      refine bytes_step (s := (sX ++ (⟨#[10]⟩ : ByteArray) ++ x.2)) (by rfl) rfl rfl Tryz.underlying9 Tryz.underlying26 Tryz.underlying5 HSX.out ?_
      intro A7 c7 w' hcc hC hb
      refine hK.out _ _ ⟨HH.out.1.below hb, HH.out.2.1.below hb, below_step HH.out.2.2 hb⟩ (fun hHeld => ?_)
      have C7n := Aside0.mk (And.intro hC hcc)
      clear hC hcc
      try (have C7q := Aside0.mk (And.intro (Kd.C_below C7.out.1 hb) C7.out.2); clear C7; have C7 := C7q; clear C7q)
      try (have C16q := Aside0.mk (And.intro (Kd.C_below C16.out.1 hb) C16.out.2); clear C16; have C16 := C16q; clear C16q)
      try (have Z5q := Aside0.mk (And.intro (Z5.out.1.below hb) Z5.out.2); clear Z5; have Z5 := Z5q; clear Z5q)
      try (have Z6q := Aside0.mk (And.intro (Z6.out.1.below hb) Z6.out.2); clear Z6; have Z6 := Z6q; clear Z6q)
      have C7 := C7n
      clear C7n
      have HH2 := Aside0.mk hHeld
      clear hHeld HH
      have HH := HH2
      clear HH2
      try clear hb
      try clear hK K
      refine norm_ (a' := ?_) ?_ ?_
      rotate_left
      · show Act.put _ (some 14) _ = _
        simp only [Act.put, List.setIfInBounds_toArray, List.set_cons_zero, List.set_cons_succ, i64_w, i32_w]
        rfl
      exact N8.out A7 c7 g5 g6 _ ⟨HH.out, C7.out, Z5.out, Z6.out, N56.out, trivial⟩
    case kN6 =>
      intro A7 c7 g5 wd hN
      obtain ⟨hN0, hZ5, _⟩ := hN
      have HH := Aside0.mk hN0
      have Z5 := Aside0.mk hZ5
      clear hN0 hZ5
      refine two_ (i := 11) (j := 19) (Ni := some 18) (Nj := some 6) (fl 22 290815) (fl 22 813055) rfl rfl rfl rfl (two_of HT_.out (by kernel_rfl)) (by decide) (by decide) (fun K hK => ?_) (fun K hK => ?_)
      · refine goes_ Tryz.func38 (by kernel_rfl) rfl #[.agg (u8s y.1)] (by rfl) rfl rfl (by simp only [List.map_toArray, List.map_cons, List.map_nil]; rfl) ?_
        refine (HPY.out _).mono ?_
        rintro e w' ⟨rfl, hb⟩
        refine ⟨_, rfl, hK.out _ _ ⟨HH.out.1.below hb, HH.out.2.1.below hb, below_step HH.out.2.2 hb⟩ (fun hHeld => ?_)⟩
        try (have C7q := Aside0.mk (And.intro (Kd.C_below C7.out.1 hb) C7.out.2); clear C7; have C7 := C7q; clear C7q)
        try (have C16q := Aside0.mk (And.intro (Kd.C_below C16.out.1 hb) C16.out.2); clear C16; have C16 := C16q; clear C16q)
        try (have Z5q := Aside0.mk (And.intro (Z5.out.1.below hb) Z5.out.2); clear Z5; have Z5 := Z5q; clear Z5q)
        try (have Z6q := Aside0.mk (And.intro (Z6.out.1.below hb) Z6.out.2); clear Z6; have Z6 := Z6q; clear Z6q)
        have HH2 := Aside0.mk hHeld
        clear hHeld HH
        have HH := HH2
        clear HH2
        try clear hb
        try clear hK K
        refine norm_ (a' := ?_) ?_ ?_
        rotate_left
        · show Act.put _ (some 18) _ = _
          simp only [Act.put, List.setIfInBounds_toArray, List.set_cons_zero, List.set_cons_succ, i64_w, i32_w]
          rfl
        refine pure_ (i := 12) (N := some 19) (v := ?_) (a' := ?_) (fl 22 294911) rfl rfl (any_of HT_.out (by kernel_rfl)) (fun _ _ _ h => h) (Or.inl ⟨by rfl, ?_⟩) ?_ ?_
        rotate_left
        · intro w'
          refine (exec_add rfl rfl rfl Tryz.underlying9 ?_ w').trans ?_
          rotate_left
          · with_reducible rfl
          simp only [ByteArray.size_append, hsx, hsy, lit10]
          omega
        rotate_left
        · simp only [Act.put, List.setIfInBounds_toArray, List.set_cons_zero, List.set_cons_succ, i64_w, i32_w]
          rfl
        refine pure_ (i := 15) (N := some 22) (v := ?_) (a' := ?_) (fl 22 327679) rfl rfl (any_of HT_.out (by kernel_rfl)) (fun _ _ _ h => h) (Or.inl ⟨by rfl, ?_⟩) ?_ ?_
        rotate_left
        · intro w'
          refine (exec_add rfl rfl rfl Tryz.underlying9 ?_ w').trans ?_
          rotate_left
          · with_reducible rfl
          simp only [ByteArray.size_append, hsx, hsy, lit10]
          omega
        rotate_left
        · simp only [Act.put, List.setIfInBounds_toArray, List.set_cons_zero, List.set_cons_succ, i64_w, i32_w]
          rfl
        exact N10.out A7 c7 g5 _ ⟨HH.out, Z5.out, trivial⟩
      · refine alloc_blk_step (by rfl) rfl rfl zero33 ?_
        intro g6 w' hg hz hb
        refine hK.out _ _ ⟨HH.out.1.below hb, HH.out.2.1.below hb, below_step HH.out.2.2 hb⟩ (fun hHeld => ?_)
        have HGn := Aside0.mk (show W.heap.size ≤ g6 ∧ gx < g6 ∧ gy < g6 by rw [hg]; exact ⟨HH.out.2.2.size, blk_lt HH.out.1, blk_lt HH.out.2.1⟩)
        have N56 := Aside0.mk (show g5 ≠ g6 by have hq := blk_lt Z5.out.1; omega)
        try (have C7q := Aside0.mk (And.intro (Kd.C_below C7.out.1 hb) C7.out.2); clear C7; have C7 := C7q; clear C7q)
        try (have C16q := Aside0.mk (And.intro (Kd.C_below C16.out.1 hb) C16.out.2); clear C16; have C16 := C16q; clear C16q)
        try (have Z5q := Aside0.mk (And.intro (Z5.out.1.below hb) Z5.out.2); clear Z5; have Z5 := Z5q; clear Z5q)
        try (have Z6q := Aside0.mk (And.intro (Z6.out.1.below hb) Z6.out.2); clear Z6; have Z6 := Z6q; clear Z6q)
        have Z6 := Aside0.mk (And.intro hz HGn.out)
        clear hz hg HGn
        have HH2 := Aside0.mk hHeld
        clear hHeld HH
        have HH := HH2
        clear HH2
        try clear hb
        try clear hK K
        refine norm_ (a' := ?_) ?_ ?_
        rotate_left
        · show Act.put _ (some 6) _ = _
          simp only [Act.put, List.setIfInBounds_toArray, List.set_cons_zero, List.set_cons_succ, i64_w, i32_w]
          rfl
        exact N9.out A7 c7 g5 g6 _ ⟨HH.out, Z5.out, Z6.out, N56.out, trivial⟩
    case kN7 =>
      intro A7 c7 g6 wd hN
      obtain ⟨hN0, hZ6, _⟩ := hN
      have HH := Aside0.mk hN0
      have Z6 := Aside0.mk hZ6
      clear hN0 hZ6
      refine two_ (i := 11) (j := 18) (Ni := some 18) (Nj := some 5) (fl 22 552959) (fl 22 813055) rfl rfl rfl rfl (two_of HT_.out (by kernel_rfl)) (by decide) (by decide) (fun K hK => ?_) (fun K hK => ?_)
      · refine goes_ Tryz.func38 (by kernel_rfl) rfl #[.agg (u8s y.1)] (by rfl) rfl rfl (by simp only [List.map_toArray, List.map_cons, List.map_nil]; rfl) ?_
        refine (HPY.out _).mono ?_
        rintro e w' ⟨rfl, hb⟩
        refine ⟨_, rfl, hK.out _ _ ⟨HH.out.1.below hb, HH.out.2.1.below hb, below_step HH.out.2.2 hb⟩ (fun hHeld => ?_)⟩
        try (have C7q := Aside0.mk (And.intro (Kd.C_below C7.out.1 hb) C7.out.2); clear C7; have C7 := C7q; clear C7q)
        try (have C16q := Aside0.mk (And.intro (Kd.C_below C16.out.1 hb) C16.out.2); clear C16; have C16 := C16q; clear C16q)
        try (have Z5q := Aside0.mk (And.intro (Z5.out.1.below hb) Z5.out.2); clear Z5; have Z5 := Z5q; clear Z5q)
        try (have Z6q := Aside0.mk (And.intro (Z6.out.1.below hb) Z6.out.2); clear Z6; have Z6 := Z6q; clear Z6q)
        have HH2 := Aside0.mk hHeld
        clear hHeld HH
        have HH := HH2
        clear HH2
        try clear hb
        try clear hK K
        refine norm_ (a' := ?_) ?_ ?_
        rotate_left
        · show Act.put _ (some 18) _ = _
          simp only [Act.put, List.setIfInBounds_toArray, List.set_cons_zero, List.set_cons_succ, i64_w, i32_w]
          rfl
        refine pure_ (i := 12) (N := some 19) (v := ?_) (a' := ?_) (fl 22 557055) rfl rfl (any_of HT_.out (by kernel_rfl)) (fun _ _ _ h => h) (Or.inl ⟨by rfl, ?_⟩) ?_ ?_
        rotate_left
        · intro w'
          refine (exec_add rfl rfl rfl Tryz.underlying9 ?_ w').trans ?_
          rotate_left
          · with_reducible rfl
          simp only [ByteArray.size_append, hsx, hsy, lit10]
          omega
        rotate_left
        · simp only [Act.put, List.setIfInBounds_toArray, List.set_cons_zero, List.set_cons_succ, i64_w, i32_w]
          rfl
        refine pure_ (i := 15) (N := some 22) (v := ?_) (a' := ?_) (fl 22 589823) rfl rfl (any_of HT_.out (by kernel_rfl)) (fun _ _ _ h => h) (Or.inl ⟨by rfl, ?_⟩) ?_ ?_
        rotate_left
        · intro w'
          refine (exec_add rfl rfl rfl Tryz.underlying9 ?_ w').trans ?_
          rotate_left
          · with_reducible rfl
          simp only [ByteArray.size_append, hsx, hsy, lit10]
          omega
        rotate_left
        · simp only [Act.put, List.setIfInBounds_toArray, List.set_cons_zero, List.set_cons_succ, i64_w, i32_w]
          rfl
        exact N11.out A7 c7 g6 _ ⟨HH.out, Z6.out, trivial⟩
      · refine alloc_blk_step (by rfl) rfl rfl zero33 ?_
        intro g5 w' hg hz hb
        refine hK.out _ _ ⟨HH.out.1.below hb, HH.out.2.1.below hb, below_step HH.out.2.2 hb⟩ (fun hHeld => ?_)
        have HGn := Aside0.mk (show W.heap.size ≤ g5 ∧ gx < g5 ∧ gy < g5 by rw [hg]; exact ⟨HH.out.2.2.size, blk_lt HH.out.1, blk_lt HH.out.2.1⟩)
        have N56 := Aside0.mk (show g5 ≠ g6 by have hq := blk_lt Z6.out.1; omega)
        try (have C7q := Aside0.mk (And.intro (Kd.C_below C7.out.1 hb) C7.out.2); clear C7; have C7 := C7q; clear C7q)
        try (have C16q := Aside0.mk (And.intro (Kd.C_below C16.out.1 hb) C16.out.2); clear C16; have C16 := C16q; clear C16q)
        try (have Z5q := Aside0.mk (And.intro (Z5.out.1.below hb) Z5.out.2); clear Z5; have Z5 := Z5q; clear Z5q)
        try (have Z6q := Aside0.mk (And.intro (Z6.out.1.below hb) Z6.out.2); clear Z6; have Z6 := Z6q; clear Z6q)
        have Z5 := Aside0.mk (And.intro hz HGn.out)
        clear hz hg HGn
        have HH2 := Aside0.mk hHeld
        clear hHeld HH
        have HH := HH2
        clear HH2
        try clear hb
        try clear hK K
        refine norm_ (a' := ?_) ?_ ?_
        rotate_left
        · show Act.put _ (some 5) _ = _
          simp only [Act.put, List.setIfInBounds_toArray, List.set_cons_zero, List.set_cons_succ, i64_w, i32_w]
          rfl
        exact N9.out A7 c7 g5 g6 _ ⟨HH.out, Z5.out, Z6.out, N56.out, trivial⟩
    case kN8 =>
      intro A7 c7 g5 g6 wd hN
      obtain ⟨hN0, hC7, hZ5, hZ6, hN56, _⟩ := hN
      have HH := Aside0.mk hN0
      have C7 := Aside0.mk hC7
      have Z5 := Aside0.mk hZ5
      have Z6 := Aside0.mk hZ6
      have N56 := Aside0.mk hN56
      clear hN0 hC7 hZ5 hZ6 hN56
      refine one_ (i := 8) (N := some 15) (fl 22 813055) rfl rfl (one_of HT_.out (by kernel_rfl)) (by decide) (fun K hK => ?_)
      refine goes_ Tryz.func37 (by kernel_rfl) rfl #[.slice A7 (sX ++ (⟨#[10]⟩ : ByteArray) ++ x.2).size c7] (by rfl) rfl rfl (by simp only [List.map_toArray, List.map_cons, List.map_nil]; rfl) ?_
      refine (rsum_any A7 _ c7 (bytesOf (sX ++ (⟨#[10]⟩ : ByteArray) ++ x.2)) _ (by rw [bytesOf_length]; exact C7.out.1) (bytesOf_length _).symm (by rw [bytesOf_length]; exact C7.out.2) HLX.out HRX.out).mono ?_
      rintro e w' ⟨rfl, hb⟩
      refine ⟨_, rfl, hK.out _ _ ⟨HH.out.1.below hb, HH.out.2.1.below hb, below_step HH.out.2.2 hb⟩ (fun hHeld => ?_)⟩
      try (have C7q := Aside0.mk (And.intro (Kd.C_below C7.out.1 hb) C7.out.2); clear C7; have C7 := C7q; clear C7q)
      try (have C16q := Aside0.mk (And.intro (Kd.C_below C16.out.1 hb) C16.out.2); clear C16; have C16 := C16q; clear C16q)
      try (have Z5q := Aside0.mk (And.intro (Z5.out.1.below hb) Z5.out.2); clear Z5; have Z5 := Z5q; clear Z5q)
      try (have Z6q := Aside0.mk (And.intro (Z6.out.1.below hb) Z6.out.2); clear Z6; have Z6 := Z6q; clear Z6q)
      clear C7
      have HH2 := Aside0.mk hHeld
      clear hHeld HH
      have HH := HH2
      clear HH2
      try clear hb
      try clear hK K
      refine norm_ (a' := ?_) ?_ ?_
      rotate_left
      · show Act.put _ (some 15) _ = _
        simp only [Act.put, List.setIfInBounds_toArray, List.set_cons_zero, List.set_cons_succ, i64_w, i32_w]
        rfl
      exact N9.out A7 c7 g5 g6 _ ⟨HH.out, Z5.out, Z6.out, N56.out, trivial⟩
    case kN9 =>
      intro A7 c7 g5 g6 wd hN
      obtain ⟨hN0, hZ5, hZ6, hN56, _⟩ := hN
      have HH := Aside0.mk hN0
      have Z5 := Aside0.mk hZ5
      have Z6 := Aside0.mk hZ6
      have N56 := Aside0.mk hN56
      clear hN0 hZ5 hZ6 hN56
      refine one_ (i := 11) (N := some 18) (fl 22 815103) rfl rfl (one_of HT_.out (by kernel_rfl)) (by decide) (fun K hK => ?_)
      refine goes_ Tryz.func38 (by kernel_rfl) rfl #[.agg (u8s y.1)] (by rfl) rfl rfl (by simp only [List.map_toArray, List.map_cons, List.map_nil]; rfl) ?_
      refine (HPY.out _).mono ?_
      rintro e w' ⟨rfl, hb⟩
      refine ⟨_, rfl, hK.out _ _ ⟨HH.out.1.below hb, HH.out.2.1.below hb, below_step HH.out.2.2 hb⟩ (fun hHeld => ?_)⟩
      try (have C7q := Aside0.mk (And.intro (Kd.C_below C7.out.1 hb) C7.out.2); clear C7; have C7 := C7q; clear C7q)
      try (have C16q := Aside0.mk (And.intro (Kd.C_below C16.out.1 hb) C16.out.2); clear C16; have C16 := C16q; clear C16q)
      try (have Z5q := Aside0.mk (And.intro (Z5.out.1.below hb) Z5.out.2); clear Z5; have Z5 := Z5q; clear Z5q)
      try (have Z6q := Aside0.mk (And.intro (Z6.out.1.below hb) Z6.out.2); clear Z6; have Z6 := Z6q; clear Z6q)
      have HH2 := Aside0.mk hHeld
      clear hHeld HH
      have HH := HH2
      clear HH2
      try clear hb
      try clear hK K
      refine norm_ (a' := ?_) ?_ ?_
      rotate_left
      · show Act.put _ (some 18) _ = _
        simp only [Act.put, List.setIfInBounds_toArray, List.set_cons_zero, List.set_cons_succ, i64_w, i32_w]
        rfl
      refine pure_ (i := 12) (N := some 19) (v := ?_) (a' := ?_) (fl 22 819199) rfl rfl (any_of HT_.out (by kernel_rfl)) (fun _ _ _ h => h) (Or.inl ⟨by rfl, ?_⟩) ?_ ?_
      rotate_left
      · intro w'
        refine (exec_add rfl rfl rfl Tryz.underlying9 ?_ w').trans ?_
        rotate_left
        · with_reducible rfl
        simp only [ByteArray.size_append, hsx, hsy, lit10]
        omega
      rotate_left
      · simp only [Act.put, List.setIfInBounds_toArray, List.set_cons_zero, List.set_cons_succ, i64_w, i32_w]
        rfl
      refine pure_ (i := 15) (N := some 22) (v := ?_) (a' := ?_) (fl 22 851967) rfl rfl (any_of HT_.out (by kernel_rfl)) (fun _ _ _ h => h) (Or.inl ⟨by rfl, ?_⟩) ?_ ?_
      rotate_left
      · intro w'
        refine (exec_add rfl rfl rfl Tryz.underlying9 ?_ w').trans ?_
        rotate_left
        · with_reducible rfl
        simp only [ByteArray.size_append, hsx, hsy, lit10]
        omega
      rotate_left
      · simp only [Act.put, List.setIfInBounds_toArray, List.set_cons_zero, List.set_cons_succ, i64_w, i32_w]
        rfl
      exact N14.out A7 c7 g5 g6 _ ⟨HH.out, Z5.out, Z6.out, N56.out, trivial⟩
    case kN10 =>
      intro A7 c7 g5 wd hN
      obtain ⟨hN0, hZ5, _⟩ := hN
      have HH := Aside0.mk hN0
      have Z5 := Aside0.mk hZ5
      clear hN0 hZ5
      refine two_ (i := 16) (j := 19) (Ni := some 23) (Nj := some 6) (fl 22 393215) (fl 22 851967) rfl rfl rfl rfl (two_of HT_.out (by kernel_rfl)) (by decide) (by decide) (fun K hK => ?_) (fun K hK => ?_)
      · refine bytes_step (s := (sY ++ (⟨#[10]⟩ : ByteArray) ++ y.2)) (by rfl) rfl rfl Tryz.underlying9 Tryz.underlying26 Tryz.underlying5 HSY.out ?_
        intro A16 c16 w' hcc hC hb
        refine hK.out _ _ ⟨HH.out.1.below hb, HH.out.2.1.below hb, below_step HH.out.2.2 hb⟩ (fun hHeld => ?_)
        have C16n := Aside0.mk (And.intro hC hcc)
        clear hC hcc
        try (have C7q := Aside0.mk (And.intro (Kd.C_below C7.out.1 hb) C7.out.2); clear C7; have C7 := C7q; clear C7q)
        try (have C16q := Aside0.mk (And.intro (Kd.C_below C16.out.1 hb) C16.out.2); clear C16; have C16 := C16q; clear C16q)
        try (have Z5q := Aside0.mk (And.intro (Z5.out.1.below hb) Z5.out.2); clear Z5; have Z5 := Z5q; clear Z5q)
        try (have Z6q := Aside0.mk (And.intro (Z6.out.1.below hb) Z6.out.2); clear Z6; have Z6 := Z6q; clear Z6q)
        have C16 := C16n
        clear C16n
        have HH2 := Aside0.mk hHeld
        clear hHeld HH
        have HH := HH2
        clear HH2
        try clear hb
        try clear hK K
        refine norm_ (a' := ?_) ?_ ?_
        rotate_left
        · show Act.put _ (some 23) _ = _
          simp only [Act.put, List.setIfInBounds_toArray, List.set_cons_zero, List.set_cons_succ, i64_w, i32_w]
          rfl
        exact N12.out A7 c7 A16 c16 g5 _ ⟨HH.out, C16.out, Z5.out, trivial⟩
      · refine alloc_blk_step (by rfl) rfl rfl zero33 ?_
        intro g6 w' hg hz hb
        refine hK.out _ _ ⟨HH.out.1.below hb, HH.out.2.1.below hb, below_step HH.out.2.2 hb⟩ (fun hHeld => ?_)
        have HGn := Aside0.mk (show W.heap.size ≤ g6 ∧ gx < g6 ∧ gy < g6 by rw [hg]; exact ⟨HH.out.2.2.size, blk_lt HH.out.1, blk_lt HH.out.2.1⟩)
        have N56 := Aside0.mk (show g5 ≠ g6 by have hq := blk_lt Z5.out.1; omega)
        try (have C7q := Aside0.mk (And.intro (Kd.C_below C7.out.1 hb) C7.out.2); clear C7; have C7 := C7q; clear C7q)
        try (have C16q := Aside0.mk (And.intro (Kd.C_below C16.out.1 hb) C16.out.2); clear C16; have C16 := C16q; clear C16q)
        try (have Z5q := Aside0.mk (And.intro (Z5.out.1.below hb) Z5.out.2); clear Z5; have Z5 := Z5q; clear Z5q)
        try (have Z6q := Aside0.mk (And.intro (Z6.out.1.below hb) Z6.out.2); clear Z6; have Z6 := Z6q; clear Z6q)
        have Z6 := Aside0.mk (And.intro hz HGn.out)
        clear hz hg HGn
        have HH2 := Aside0.mk hHeld
        clear hHeld HH
        have HH := HH2
        clear HH2
        try clear hb
        try clear hK K
        refine norm_ (a' := ?_) ?_ ?_
        rotate_left
        · show Act.put _ (some 6) _ = _
          simp only [Act.put, List.setIfInBounds_toArray, List.set_cons_zero, List.set_cons_succ, i64_w, i32_w]
          rfl
        exact N14.out A7 c7 g5 g6 _ ⟨HH.out, Z5.out, Z6.out, N56.out, trivial⟩
    case kN11 =>
      intro A7 c7 g6 wd hN
      obtain ⟨hN0, hZ6, _⟩ := hN
      have HH := Aside0.mk hN0
      have Z6 := Aside0.mk hZ6
      clear hN0 hZ6
      refine two_ (i := 16) (j := 18) (Ni := some 23) (Nj := some 5) (fl 22 655359) (fl 22 851967) rfl rfl rfl rfl (two_of HT_.out (by kernel_rfl)) (by decide) (by decide) (fun K hK => ?_) (fun K hK => ?_)
      · refine bytes_step (s := (sY ++ (⟨#[10]⟩ : ByteArray) ++ y.2)) (by rfl) rfl rfl Tryz.underlying9 Tryz.underlying26 Tryz.underlying5 HSY.out ?_
        intro A16 c16 w' hcc hC hb
        refine hK.out _ _ ⟨HH.out.1.below hb, HH.out.2.1.below hb, below_step HH.out.2.2 hb⟩ (fun hHeld => ?_)
        have C16n := Aside0.mk (And.intro hC hcc)
        clear hC hcc
        try (have C7q := Aside0.mk (And.intro (Kd.C_below C7.out.1 hb) C7.out.2); clear C7; have C7 := C7q; clear C7q)
        try (have C16q := Aside0.mk (And.intro (Kd.C_below C16.out.1 hb) C16.out.2); clear C16; have C16 := C16q; clear C16q)
        try (have Z5q := Aside0.mk (And.intro (Z5.out.1.below hb) Z5.out.2); clear Z5; have Z5 := Z5q; clear Z5q)
        try (have Z6q := Aside0.mk (And.intro (Z6.out.1.below hb) Z6.out.2); clear Z6; have Z6 := Z6q; clear Z6q)
        have C16 := C16n
        clear C16n
        have HH2 := Aside0.mk hHeld
        clear hHeld HH
        have HH := HH2
        clear HH2
        try clear hb
        try clear hK K
        refine norm_ (a' := ?_) ?_ ?_
        rotate_left
        · show Act.put _ (some 23) _ = _
          simp only [Act.put, List.setIfInBounds_toArray, List.set_cons_zero, List.set_cons_succ, i64_w, i32_w]
          rfl
        exact N13.out A7 c7 A16 c16 g6 _ ⟨HH.out, C16.out, Z6.out, trivial⟩
      · refine alloc_blk_step (by rfl) rfl rfl zero33 ?_
        intro g5 w' hg hz hb
        refine hK.out _ _ ⟨HH.out.1.below hb, HH.out.2.1.below hb, below_step HH.out.2.2 hb⟩ (fun hHeld => ?_)
        have HGn := Aside0.mk (show W.heap.size ≤ g5 ∧ gx < g5 ∧ gy < g5 by rw [hg]; exact ⟨HH.out.2.2.size, blk_lt HH.out.1, blk_lt HH.out.2.1⟩)
        have N56 := Aside0.mk (show g5 ≠ g6 by have hq := blk_lt Z6.out.1; omega)
        try (have C7q := Aside0.mk (And.intro (Kd.C_below C7.out.1 hb) C7.out.2); clear C7; have C7 := C7q; clear C7q)
        try (have C16q := Aside0.mk (And.intro (Kd.C_below C16.out.1 hb) C16.out.2); clear C16; have C16 := C16q; clear C16q)
        try (have Z5q := Aside0.mk (And.intro (Z5.out.1.below hb) Z5.out.2); clear Z5; have Z5 := Z5q; clear Z5q)
        try (have Z6q := Aside0.mk (And.intro (Z6.out.1.below hb) Z6.out.2); clear Z6; have Z6 := Z6q; clear Z6q)
        have Z5 := Aside0.mk (And.intro hz HGn.out)
        clear hz hg HGn
        have HH2 := Aside0.mk hHeld
        clear hHeld HH
        have HH := HH2
        clear HH2
        try clear hb
        try clear hK K
        refine norm_ (a' := ?_) ?_ ?_
        rotate_left
        · show Act.put _ (some 5) _ = _
          simp only [Act.put, List.setIfInBounds_toArray, List.set_cons_zero, List.set_cons_succ, i64_w, i32_w]
          rfl
        exact N14.out A7 c7 g5 g6 _ ⟨HH.out, Z5.out, Z6.out, N56.out, trivial⟩
    case kN12 =>
      intro A7 c7 A16 c16 g5 wd hN
      obtain ⟨hN0, hC16, hZ5, _⟩ := hN
      have HH := Aside0.mk hN0
      have C16 := Aside0.mk hC16
      have Z5 := Aside0.mk hZ5
      clear hN0 hC16 hZ5
      refine two_ (i := 17) (j := 19) (Ni := some 24) (Nj := some 6) (fl 22 524287) (fl 22 917503) rfl rfl rfl rfl (two_of HT_.out (by kernel_rfl)) (by decide) (by decide) (fun K hK => ?_) (fun K hK => ?_)
      · refine goes_ Tryz.func37 (by kernel_rfl) rfl #[.slice A16 (sY ++ (⟨#[10]⟩ : ByteArray) ++ y.2).size c16] (by rfl) rfl rfl (by simp only [List.map_toArray, List.map_cons, List.map_nil]; rfl) ?_
        refine (rsum_any A16 _ c16 (bytesOf (sY ++ (⟨#[10]⟩ : ByteArray) ++ y.2)) _ (by rw [bytesOf_length]; exact C16.out.1) (bytesOf_length _).symm (by rw [bytesOf_length]; exact C16.out.2) HLY.out HRY.out).mono ?_
        rintro e w' ⟨rfl, hb⟩
        refine ⟨_, rfl, hK.out _ _ ⟨HH.out.1.below hb, HH.out.2.1.below hb, below_step HH.out.2.2 hb⟩ (fun hHeld => ?_)⟩
        try (have C7q := Aside0.mk (And.intro (Kd.C_below C7.out.1 hb) C7.out.2); clear C7; have C7 := C7q; clear C7q)
        try (have C16q := Aside0.mk (And.intro (Kd.C_below C16.out.1 hb) C16.out.2); clear C16; have C16 := C16q; clear C16q)
        try (have Z5q := Aside0.mk (And.intro (Z5.out.1.below hb) Z5.out.2); clear Z5; have Z5 := Z5q; clear Z5q)
        try (have Z6q := Aside0.mk (And.intro (Z6.out.1.below hb) Z6.out.2); clear Z6; have Z6 := Z6q; clear Z6q)
        clear C16
        have HH2 := Aside0.mk hHeld
        clear hHeld HH
        have HH := HH2
        clear HH2
        try clear hb
        try clear hK K
        refine norm_ (a' := ?_) ?_ ?_
        rotate_left
        · show Act.put _ (some 24) _ = _
          simp only [Act.put, List.setIfInBounds_toArray, List.set_cons_zero, List.set_cons_succ, i64_w, i32_w]
          rfl
        exact N15.out A7 c7 A16 c16 g5 _ ⟨HH.out, Z5.out, trivial⟩
      · refine alloc_blk_step (by rfl) rfl rfl zero33 ?_
        intro g6 w' hg hz hb
        refine hK.out _ _ ⟨HH.out.1.below hb, HH.out.2.1.below hb, below_step HH.out.2.2 hb⟩ (fun hHeld => ?_)
        have HGn := Aside0.mk (show W.heap.size ≤ g6 ∧ gx < g6 ∧ gy < g6 by rw [hg]; exact ⟨HH.out.2.2.size, blk_lt HH.out.1, blk_lt HH.out.2.1⟩)
        have N56 := Aside0.mk (show g5 ≠ g6 by have hq := blk_lt Z5.out.1; omega)
        try (have C7q := Aside0.mk (And.intro (Kd.C_below C7.out.1 hb) C7.out.2); clear C7; have C7 := C7q; clear C7q)
        try (have C16q := Aside0.mk (And.intro (Kd.C_below C16.out.1 hb) C16.out.2); clear C16; have C16 := C16q; clear C16q)
        try (have Z5q := Aside0.mk (And.intro (Z5.out.1.below hb) Z5.out.2); clear Z5; have Z5 := Z5q; clear Z5q)
        try (have Z6q := Aside0.mk (And.intro (Z6.out.1.below hb) Z6.out.2); clear Z6; have Z6 := Z6q; clear Z6q)
        have Z6 := Aside0.mk (And.intro hz HGn.out)
        clear hz hg HGn
        have HH2 := Aside0.mk hHeld
        clear hHeld HH
        have HH := HH2
        clear HH2
        try clear hb
        try clear hK K
        refine norm_ (a' := ?_) ?_ ?_
        rotate_left
        · show Act.put _ (some 6) _ = _
          simp only [Act.put, List.setIfInBounds_toArray, List.set_cons_zero, List.set_cons_succ, i64_w, i32_w]
          rfl
        exact N17.out A7 c7 A16 c16 g5 g6 _ ⟨HH.out, C16.out, Z5.out, Z6.out, N56.out, trivial⟩
    case kN13 =>
      intro A7 c7 A16 c16 g6 wd hN
      obtain ⟨hN0, hC16, hZ6, _⟩ := hN
      have HH := Aside0.mk hN0
      have C16 := Aside0.mk hC16
      have Z6 := Aside0.mk hZ6
      clear hN0 hC16 hZ6
      refine two_ (i := 17) (j := 18) (Ni := some 24) (Nj := some 5) (fl 22 786431) (fl 22 917503) rfl rfl rfl rfl (two_of HT_.out (by kernel_rfl)) (by decide) (by decide) (fun K hK => ?_) (fun K hK => ?_)
      · refine goes_ Tryz.func37 (by kernel_rfl) rfl #[.slice A16 (sY ++ (⟨#[10]⟩ : ByteArray) ++ y.2).size c16] (by rfl) rfl rfl (by simp only [List.map_toArray, List.map_cons, List.map_nil]; rfl) ?_
        refine (rsum_any A16 _ c16 (bytesOf (sY ++ (⟨#[10]⟩ : ByteArray) ++ y.2)) _ (by rw [bytesOf_length]; exact C16.out.1) (bytesOf_length _).symm (by rw [bytesOf_length]; exact C16.out.2) HLY.out HRY.out).mono ?_
        rintro e w' ⟨rfl, hb⟩
        refine ⟨_, rfl, hK.out _ _ ⟨HH.out.1.below hb, HH.out.2.1.below hb, below_step HH.out.2.2 hb⟩ (fun hHeld => ?_)⟩
        try (have C7q := Aside0.mk (And.intro (Kd.C_below C7.out.1 hb) C7.out.2); clear C7; have C7 := C7q; clear C7q)
        try (have C16q := Aside0.mk (And.intro (Kd.C_below C16.out.1 hb) C16.out.2); clear C16; have C16 := C16q; clear C16q)
        try (have Z5q := Aside0.mk (And.intro (Z5.out.1.below hb) Z5.out.2); clear Z5; have Z5 := Z5q; clear Z5q)
        try (have Z6q := Aside0.mk (And.intro (Z6.out.1.below hb) Z6.out.2); clear Z6; have Z6 := Z6q; clear Z6q)
        clear C16
        have HH2 := Aside0.mk hHeld
        clear hHeld HH
        have HH := HH2
        clear HH2
        try clear hb
        try clear hK K
        refine norm_ (a' := ?_) ?_ ?_
        rotate_left
        · show Act.put _ (some 24) _ = _
          simp only [Act.put, List.setIfInBounds_toArray, List.set_cons_zero, List.set_cons_succ, i64_w, i32_w]
          rfl
        exact N16.out A7 c7 A16 c16 g6 _ ⟨HH.out, Z6.out, trivial⟩
      · refine alloc_blk_step (by rfl) rfl rfl zero33 ?_
        intro g5 w' hg hz hb
        refine hK.out _ _ ⟨HH.out.1.below hb, HH.out.2.1.below hb, below_step HH.out.2.2 hb⟩ (fun hHeld => ?_)
        have HGn := Aside0.mk (show W.heap.size ≤ g5 ∧ gx < g5 ∧ gy < g5 by rw [hg]; exact ⟨HH.out.2.2.size, blk_lt HH.out.1, blk_lt HH.out.2.1⟩)
        have N56 := Aside0.mk (show g5 ≠ g6 by have hq := blk_lt Z6.out.1; omega)
        try (have C7q := Aside0.mk (And.intro (Kd.C_below C7.out.1 hb) C7.out.2); clear C7; have C7 := C7q; clear C7q)
        try (have C16q := Aside0.mk (And.intro (Kd.C_below C16.out.1 hb) C16.out.2); clear C16; have C16 := C16q; clear C16q)
        try (have Z5q := Aside0.mk (And.intro (Z5.out.1.below hb) Z5.out.2); clear Z5; have Z5 := Z5q; clear Z5q)
        try (have Z6q := Aside0.mk (And.intro (Z6.out.1.below hb) Z6.out.2); clear Z6; have Z6 := Z6q; clear Z6q)
        have Z5 := Aside0.mk (And.intro hz HGn.out)
        clear hz hg HGn
        have HH2 := Aside0.mk hHeld
        clear hHeld HH
        have HH := HH2
        clear HH2
        try clear hb
        try clear hK K
        refine norm_ (a' := ?_) ?_ ?_
        rotate_left
        · show Act.put _ (some 5) _ = _
          simp only [Act.put, List.setIfInBounds_toArray, List.set_cons_zero, List.set_cons_succ, i64_w, i32_w]
          rfl
        exact N17.out A7 c7 A16 c16 g5 g6 _ ⟨HH.out, C16.out, Z5.out, Z6.out, N56.out, trivial⟩
    case kN14 =>
      intro A7 c7 g5 g6 wd hN
      obtain ⟨hN0, hZ5, hZ6, hN56, _⟩ := hN
      have HH := Aside0.mk hN0
      have Z5 := Aside0.mk hZ5
      have Z6 := Aside0.mk hZ6
      have N56 := Aside0.mk hN56
      clear hN0 hZ5 hZ6 hN56
      refine one_ (i := 16) (N := some 23) (fl 22 917503) rfl rfl (one_of HT_.out (by kernel_rfl)) (by decide) (fun K hK => ?_)
      refine bytes_step (s := (sY ++ (⟨#[10]⟩ : ByteArray) ++ y.2)) (by rfl) rfl rfl Tryz.underlying9 Tryz.underlying26 Tryz.underlying5 HSY.out ?_
      intro A16 c16 w' hcc hC hb
      refine hK.out _ _ ⟨HH.out.1.below hb, HH.out.2.1.below hb, below_step HH.out.2.2 hb⟩ (fun hHeld => ?_)
      have C16n := Aside0.mk (And.intro hC hcc)
      clear hC hcc
      try (have C7q := Aside0.mk (And.intro (Kd.C_below C7.out.1 hb) C7.out.2); clear C7; have C7 := C7q; clear C7q)
      try (have C16q := Aside0.mk (And.intro (Kd.C_below C16.out.1 hb) C16.out.2); clear C16; have C16 := C16q; clear C16q)
      try (have Z5q := Aside0.mk (And.intro (Z5.out.1.below hb) Z5.out.2); clear Z5; have Z5 := Z5q; clear Z5q)
      try (have Z6q := Aside0.mk (And.intro (Z6.out.1.below hb) Z6.out.2); clear Z6; have Z6 := Z6q; clear Z6q)
      have C16 := C16n
      clear C16n
      have HH2 := Aside0.mk hHeld
      clear hHeld HH
      have HH := HH2
      clear HH2
      try clear hb
      try clear hK K
      refine norm_ (a' := ?_) ?_ ?_
      rotate_left
      · show Act.put _ (some 23) _ = _
        simp only [Act.put, List.setIfInBounds_toArray, List.set_cons_zero, List.set_cons_succ, i64_w, i32_w]
        rfl
      exact N17.out A7 c7 A16 c16 g5 g6 _ ⟨HH.out, C16.out, Z5.out, Z6.out, N56.out, trivial⟩
    case kN15 =>
      intro A7 c7 A16 c16 g5 wd hN
      obtain ⟨hN0, hZ5, _⟩ := hN
      have HH := Aside0.mk hN0
      have Z5 := Aside0.mk hZ5
      clear hN0 hZ5
      refine one_ (i := 19) (N := some 6) (fl 22 1048575) rfl rfl (one_of HT_.out (by kernel_rfl)) (by decide) (fun K hK => ?_)
      refine alloc_blk_step (by rfl) rfl rfl zero33 ?_
      intro g6 w' hg hz hb
      refine hK.out _ _ ⟨HH.out.1.below hb, HH.out.2.1.below hb, below_step HH.out.2.2 hb⟩ (fun hHeld => ?_)
      have HGn := Aside0.mk (show W.heap.size ≤ g6 ∧ gx < g6 ∧ gy < g6 by rw [hg]; exact ⟨HH.out.2.2.size, blk_lt HH.out.1, blk_lt HH.out.2.1⟩)
      have N56 := Aside0.mk (show g5 ≠ g6 by have hq := blk_lt Z5.out.1; omega)
      try (have C7q := Aside0.mk (And.intro (Kd.C_below C7.out.1 hb) C7.out.2); clear C7; have C7 := C7q; clear C7q)
      try (have C16q := Aside0.mk (And.intro (Kd.C_below C16.out.1 hb) C16.out.2); clear C16; have C16 := C16q; clear C16q)
      try (have Z5q := Aside0.mk (And.intro (Z5.out.1.below hb) Z5.out.2); clear Z5; have Z5 := Z5q; clear Z5q)
      try (have Z6q := Aside0.mk (And.intro (Z6.out.1.below hb) Z6.out.2); clear Z6; have Z6 := Z6q; clear Z6q)
      have Z6 := Aside0.mk (And.intro hz HGn.out)
      clear hz hg HGn
      have HH2 := Aside0.mk hHeld
      clear hHeld HH
      have HH := HH2
      clear HH2
      try clear hb
      try clear hK K
      refine norm_ (a' := ?_) ?_ ?_
      rotate_left
      · show Act.put _ (some 6) _ = _
        simp only [Act.put, List.setIfInBounds_toArray, List.set_cons_zero, List.set_cons_succ, i64_w, i32_w]
        rfl
      exact N18.out A7 c7 A16 c16 g5 g6 _ ⟨HH.out, Z5.out, Z6.out, N56.out, trivial⟩
    case kN16 =>
      intro A7 c7 A16 c16 g6 wd hN
      obtain ⟨hN0, hZ6, _⟩ := hN
      have HH := Aside0.mk hN0
      have Z6 := Aside0.mk hZ6
      clear hN0 hZ6
      refine one_ (i := 18) (N := some 5) (fl 22 1048575) rfl rfl (one_of HT_.out (by kernel_rfl)) (by decide) (fun K hK => ?_)
      refine alloc_blk_step (by rfl) rfl rfl zero33 ?_
      intro g5 w' hg hz hb
      refine hK.out _ _ ⟨HH.out.1.below hb, HH.out.2.1.below hb, below_step HH.out.2.2 hb⟩ (fun hHeld => ?_)
      have HGn := Aside0.mk (show W.heap.size ≤ g5 ∧ gx < g5 ∧ gy < g5 by rw [hg]; exact ⟨HH.out.2.2.size, blk_lt HH.out.1, blk_lt HH.out.2.1⟩)
      have N56 := Aside0.mk (show g5 ≠ g6 by have hq := blk_lt Z6.out.1; omega)
      try (have C7q := Aside0.mk (And.intro (Kd.C_below C7.out.1 hb) C7.out.2); clear C7; have C7 := C7q; clear C7q)
      try (have C16q := Aside0.mk (And.intro (Kd.C_below C16.out.1 hb) C16.out.2); clear C16; have C16 := C16q; clear C16q)
      try (have Z5q := Aside0.mk (And.intro (Z5.out.1.below hb) Z5.out.2); clear Z5; have Z5 := Z5q; clear Z5q)
      try (have Z6q := Aside0.mk (And.intro (Z6.out.1.below hb) Z6.out.2); clear Z6; have Z6 := Z6q; clear Z6q)
      have Z5 := Aside0.mk (And.intro hz HGn.out)
      clear hz hg HGn
      have HH2 := Aside0.mk hHeld
      clear hHeld HH
      have HH := HH2
      clear HH2
      try clear hb
      try clear hK K
      refine norm_ (a' := ?_) ?_ ?_
      rotate_left
      · show Act.put _ (some 5) _ = _
        simp only [Act.put, List.setIfInBounds_toArray, List.set_cons_zero, List.set_cons_succ, i64_w, i32_w]
        rfl
      exact N18.out A7 c7 A16 c16 g5 g6 _ ⟨HH.out, Z5.out, Z6.out, N56.out, trivial⟩
    case kN17 =>
      intro A7 c7 A16 c16 g5 g6 wd hN
      obtain ⟨hN0, hC16, hZ5, hZ6, hN56, _⟩ := hN
      have HH := Aside0.mk hN0
      have C16 := Aside0.mk hC16
      have Z5 := Aside0.mk hZ5
      have Z6 := Aside0.mk hZ6
      have N56 := Aside0.mk hN56
      clear hN0 hC16 hZ5 hZ6 hN56
      refine one_ (i := 17) (N := some 24) (fl 22 1048575) rfl rfl (one_of HT_.out (by kernel_rfl)) (by decide) (fun K hK => ?_)
      refine goes_ Tryz.func37 (by kernel_rfl) rfl #[.slice A16 (sY ++ (⟨#[10]⟩ : ByteArray) ++ y.2).size c16] (by rfl) rfl rfl (by simp only [List.map_toArray, List.map_cons, List.map_nil]; rfl) ?_
      refine (rsum_any A16 _ c16 (bytesOf (sY ++ (⟨#[10]⟩ : ByteArray) ++ y.2)) _ (by rw [bytesOf_length]; exact C16.out.1) (bytesOf_length _).symm (by rw [bytesOf_length]; exact C16.out.2) HLY.out HRY.out).mono ?_
      rintro e w' ⟨rfl, hb⟩
      refine ⟨_, rfl, hK.out _ _ ⟨HH.out.1.below hb, HH.out.2.1.below hb, below_step HH.out.2.2 hb⟩ (fun hHeld => ?_)⟩
      try (have C7q := Aside0.mk (And.intro (Kd.C_below C7.out.1 hb) C7.out.2); clear C7; have C7 := C7q; clear C7q)
      try (have C16q := Aside0.mk (And.intro (Kd.C_below C16.out.1 hb) C16.out.2); clear C16; have C16 := C16q; clear C16q)
      try (have Z5q := Aside0.mk (And.intro (Z5.out.1.below hb) Z5.out.2); clear Z5; have Z5 := Z5q; clear Z5q)
      try (have Z6q := Aside0.mk (And.intro (Z6.out.1.below hb) Z6.out.2); clear Z6; have Z6 := Z6q; clear Z6q)
      clear C16
      have HH2 := Aside0.mk hHeld
      clear hHeld HH
      have HH := HH2
      clear HH2
      try clear hb
      try clear hK K
      refine norm_ (a' := ?_) ?_ ?_
      rotate_left
      · show Act.put _ (some 24) _ = _
        simp only [Act.put, List.setIfInBounds_toArray, List.set_cons_zero, List.set_cons_succ, i64_w, i32_w]
        rfl
      exact N18.out A7 c7 A16 c16 g5 g6 _ ⟨HH.out, Z5.out, Z6.out, N56.out, trivial⟩
    case kN18 =>
      intro A7 c7 A16 c16 g5 g6 wd hN
      obtain ⟨hN0, hZ5, hZ6, hN56, _⟩ := hN
      have HH := Aside0.mk hN0
      have Z5 := Aside0.mk hZ5
      have Z6 := Aside0.mk hZ6
      have N56 := Aside0.mk hN56
      clear hN0 hZ5 hZ6 hN56
      refine last_ (i := 20) (N := none) (fl 22 2097151) rfl rfl (one_of HT_.out (by kernel_rfl)) (by decide) (fun K hK => ?_)
      refine store_blk_l_step (by rfl) rfl rfl rfl rfl Z5.out.1 (by rw [u8s_size, shaL_length]; exact size33) (by rw [u8s_size, u8s_size, shaL_length]; rfl) (u8s_one _) ?_
      intro w' hz hb hn
      refine hK.out _ _ ?_
      have HB5 := Aside0.mk (hb _ _ Z5.out.2.1 HH.out.2.2)
      have HX5 := Aside0.mk (hn _ _ _ HH.out.1 (by have := Z5.out.2.2.1; omega))
      have HY5 := Aside0.mk (hn _ _ _ HH.out.2.1 (by have := Z5.out.2.2.2; omega))
      have ZO := Aside0.mk (hn _ _ _ Z6.out.1 (by have := N56.out; omega))
      have ZZ5 := Aside0.mk hz
      clear hz hb hn
      try clear hK K
      refine last_ (i := 21) (N := none) (fl 22 4194303) rfl rfl (one_of HT_.out (by kernel_rfl)) (by decide) (fun K hK => ?_)
      refine store_blk_l_step (by rfl) rfl rfl rfl rfl ZO.out (by rw [u8s_size, shaL_length]; exact size33) (by rw [u8s_size, u8s_size, shaL_length]; rfl) (u8s_one _) ?_
      intro w' hz hb hn
      refine hK.out _ _ ?_
      have HB6 := Aside0.mk (hb _ _ Z6.out.2.1 HB5.out)
      have HX6 := Aside0.mk (hn _ _ _ HX5.out (by have := Z6.out.2.2.1; omega))
      have HY6 := Aside0.mk (hn _ _ _ HY5.out (by have := Z6.out.2.2.2; omega))
      have ZZ56 := Aside0.mk (hn _ _ _ ZZ5.out (by have := N56.out; omega))
      have ZZ6 := Aside0.mk hz
      clear hz hb hn
      try clear hK K
      refine done_ (done_of HT_.out (by kernel_rfl)) ?_
      go_wp2_with fail
      go_meet
      exact ⟨g5, g6, rfl, rfl, HX6.out, HY6.out, ZZ56.out, ZZ6.out, HB6.out⟩
  case rest =>
    clear Z12 Z2 B1 B2
    obtain ⟨g5, g6, rfl, rfl, hcut⟩ := hcut
    go_wp2_with fail
    by_cases hxy : x = y
    · have HB := Aside0.mk (show decide (x = y) = true from decide_eq_true hxy)
      clear hxy
      refine start_ (n := 11) (S := fun w' => Blk w' gx (itV x) 36 ∧ Blk w' gy (itV y) 36 ∧ Blk w' g5 (u8s (shaL (bytesOf (sX ++ (⟨#[10]⟩ : ByteArray) ++ x.2)))) 33 ∧ Blk w' g6 (u8s (shaL (bytesOf (sY ++ (⟨#[10]⟩ : ByteArray) ++ y.2)))) 33 ∧ Below W.heap.size W w') (ds := []) (fl 11 0) (by kernel_rfl) rfl rfl ⟨hcut.1, hcut.2.1, hcut.2.2.1, hcut.2.2.2.1, below_drew hcut.2.2.2.2⟩ (fun hHeld => ?_)
      refine with_tabW r16_2.tab r16_2.bits (fun HT_ HW_ => ?_)
      generalize wc.drew = wd at hHeld ⊢
      have HH := Aside0.mk hHeld
      clear hHeld
      refine take_ (i := 0) (N := some 25) (v := .agg (itV x)) (a' := ?_) (fl 11 1) rfl rfl (take_ofW HT_.out HW_.out (by kernel_rfl)) (fun _ _ _ h => h) ?_ HH.out ?_ ?_
      · exact yields_blk (by rfl) rfl rfl (fun w h => h.1) Tryz.underlying36 rfl (by rw [itV_size HX.out]; exact size36)
      rotate_left
      · simp only [Act.put, List.setIfInBounds_toArray, List.set_cons_zero, List.set_cons_succ, i64_w, i32_w]
        rfl
      refine take_ (i := 1) (N := some 26) (v := .agg (itV y)) (a' := ?_) (fl 11 3) rfl rfl (take_ofW HT_.out HW_.out (by kernel_rfl)) (fun _ _ _ h => h) ?_ HH.out ?_ ?_
      · exact yields_blk (by rfl) rfl rfl (fun w h => h.2.1) Tryz.underlying36 rfl (by rw [itV_size HY.out]; exact size36)
      rotate_left
      · simp only [Act.put, List.setIfInBounds_toArray, List.set_cons_zero, List.set_cons_succ, i64_w, i32_w]
        rfl
      refine pure_ (i := 2) (N := some 27) (v := ?_) (a' := ?_) (fl 11 7) rfl rfl (any_of HT_.out (by kernel_rfl)) (fun _ _ _ h => h) (Or.inl ⟨by rfl, ?_⟩) ?_ ?_
      rotate_left
      · intro w'
        refine (exec_neq (x := x) (y := y) rfl rfl rfl Tryz.eqGuardType36 (run_eq36 x y HX.out HY.out) w').trans ?_
        rw [HB.out]
      rotate_left
      · simp only [Act.put, List.setIfInBounds_toArray, List.set_cons_zero, List.set_cons_succ, i64_w, i32_w]
        rfl
      refine pure_ (i := 3) (N := some 28) (v := ?_) (a' := ?_) (fl 11 15) rfl rfl (any_of HT_.out (by kernel_rfl)) (fun _ _ _ h => h) (Or.inl ⟨by rfl, ?_⟩) ?_ ?_
      rotate_left
      · intro w'
        go_simp
        with_reducible rfl
      rotate_left
      · simp only [Act.put, List.setIfInBounds_toArray, List.set_cons_zero, List.set_cons_succ, i64_w, i32_w]
        rfl
      refine pure_ (i := 4) (N := some 29) (v := undef) (a' := ?_) (fl 11 31) rfl rfl (any_of HT_.out (by kernel_rfl)) (fun _ _ _ h => h) (Or.inr ⟨by rfl, rfl⟩) ?_ ?_
      rotate_left
      · simp only [Act.put, List.setIfInBounds_toArray, List.set_cons_zero, List.set_cons_succ, i64_w, i32_w]
        rfl
      refine pure_ (i := 5) (N := some 30) (v := undef) (a' := ?_) (fl 11 63) rfl rfl (any_of HT_.out (by kernel_rfl)) (fun _ _ _ h => h) (Or.inr ⟨by rfl, rfl⟩) ?_ ?_
      rotate_left
      · simp only [Act.put, List.setIfInBounds_toArray, List.set_cons_zero, List.set_cons_succ, i64_w, i32_w]
        rfl
      refine pure_ (i := 6) (N := some 31) (v := undef) (a' := ?_) (fl 11 127) rfl rfl (any_of HT_.out (by kernel_rfl)) (fun _ _ _ h => h) (Or.inr ⟨by rfl, rfl⟩) ?_ ?_
      rotate_left
      · simp only [Act.put, List.setIfInBounds_toArray, List.set_cons_zero, List.set_cons_succ, i64_w, i32_w]
        rfl
      refine pure_ (i := 7) (N := some 32) (v := undef) (a' := ?_) (fl 11 255) rfl rfl (any_of HT_.out (by kernel_rfl)) (fun _ _ _ h => h) (Or.inr ⟨by rfl, rfl⟩) ?_ ?_
      rotate_left
      · simp only [Act.put, List.setIfInBounds_toArray, List.set_cons_zero, List.set_cons_succ, i64_w, i32_w]
        rfl
      refine pure_ (i := 8) (N := some 33) (v := undef) (a' := ?_) (fl 11 511) rfl rfl (any_of HT_.out (by kernel_rfl)) (fun _ _ _ h => h) (Or.inr ⟨by rfl, rfl⟩) ?_ ?_
      rotate_left
      · simp only [Act.put, List.setIfInBounds_toArray, List.set_cons_zero, List.set_cons_succ, i64_w, i32_w]
        rfl
      refine pure_ (i := 9) (N := some 34) (v := ?_) (a' := ?_) (fl 11 1023) rfl rfl (any_of HT_.out (by kernel_rfl)) (fun _ _ _ h => h) (Or.inl ⟨by rfl, ?_⟩) ?_ ?_
      rotate_left
      · intro w'
        go_simp
        with_reducible rfl
      rotate_left
      · simp only [Act.put, List.setIfInBounds_toArray, List.set_cons_zero, List.set_cons_succ, i64_w, i32_w]
        rfl
      refine pure_ (i := 10) (N := some 4) (v := ?_) (a' := ?_) (fl 11 2047) rfl rfl (any_of HT_.out (by kernel_rfl)) (fun _ _ _ h => h) (Or.inl ⟨by rfl, ?_⟩) ?_ ?_
      rotate_left
      · intro w'
        go_simp
        with_reducible rfl
      rotate_left
      · simp only [Act.put, List.setIfInBounds_toArray, List.set_cons_zero, List.set_cons_succ, i64_w, i32_w]
        rfl
      refine done_ (done_of HT_.out (by kernel_rfl)) ?_
      go_wp2_with fail
      go_ret
      exact ⟨by rw [HCOL.out false (by rw [HB.out]; rfl)]; rfl, HH.out.2.2.2.2⟩
    · have HB := Aside0.mk (show decide (x = y) = false from decide_eq_false hxy)
      clear hxy
      refine start_ (n := 11) (S := fun w' => Blk w' gx (itV x) 36 ∧ Blk w' gy (itV y) 36 ∧ Blk w' g5 (u8s (shaL (bytesOf (sX ++ (⟨#[10]⟩ : ByteArray) ++ x.2)))) 33 ∧ Blk w' g6 (u8s (shaL (bytesOf (sY ++ (⟨#[10]⟩ : ByteArray) ++ y.2)))) 33 ∧ Below W.heap.size W w') (ds := []) (fl 11 0) (by kernel_rfl) rfl rfl ⟨hcut.1, hcut.2.1, hcut.2.2.1, hcut.2.2.2.1, below_drew hcut.2.2.2.2⟩ (fun hHeld => ?_)
      refine with_tabW r16_2.tab r16_2.bits (fun HT_ HW_ => ?_)
      generalize wc.drew = wd at hHeld ⊢
      have HH := Aside0.mk hHeld
      clear hHeld
      refine take_ (i := 0) (N := some 25) (v := .agg (itV x)) (a' := ?_) (fl 11 1) rfl rfl (take_ofW HT_.out HW_.out (by kernel_rfl)) (fun _ _ _ h => h) ?_ HH.out ?_ ?_
      · exact yields_blk (by rfl) rfl rfl (fun w h => h.1) Tryz.underlying36 rfl (by rw [itV_size HX.out]; exact size36)
      rotate_left
      · simp only [Act.put, List.setIfInBounds_toArray, List.set_cons_zero, List.set_cons_succ, i64_w, i32_w]
        rfl
      refine take_ (i := 1) (N := some 26) (v := .agg (itV y)) (a' := ?_) (fl 11 3) rfl rfl (take_ofW HT_.out HW_.out (by kernel_rfl)) (fun _ _ _ h => h) ?_ HH.out ?_ ?_
      · exact yields_blk (by rfl) rfl rfl (fun w h => h.2.1) Tryz.underlying36 rfl (by rw [itV_size HY.out]; exact size36)
      rotate_left
      · simp only [Act.put, List.setIfInBounds_toArray, List.set_cons_zero, List.set_cons_succ, i64_w, i32_w]
        rfl
      refine pure_ (i := 2) (N := some 27) (v := ?_) (a' := ?_) (fl 11 7) rfl rfl (any_of HT_.out (by kernel_rfl)) (fun _ _ _ h => h) (Or.inl ⟨by rfl, ?_⟩) ?_ ?_
      rotate_left
      · intro w'
        refine (exec_neq (x := x) (y := y) rfl rfl rfl Tryz.eqGuardType36 (run_eq36 x y HX.out HY.out) w').trans ?_
        rw [HB.out]
      rotate_left
      · simp only [Act.put, List.setIfInBounds_toArray, List.set_cons_zero, List.set_cons_succ, i64_w, i32_w]
        rfl
      refine pure_ (i := 3) (N := some 28) (v := ?_) (a' := ?_) (fl 11 15) rfl rfl (any_of HT_.out (by kernel_rfl)) (fun _ _ _ h => h) (Or.inl ⟨by rfl, ?_⟩) ?_ ?_
      rotate_left
      · intro w'
        go_simp
        with_reducible rfl
      rotate_left
      · simp only [Act.put, List.setIfInBounds_toArray, List.set_cons_zero, List.set_cons_succ, i64_w, i32_w]
        rfl
      refine pure_ (i := 4) (N := some 29) (v := ?_) (a' := ?_) (fl 11 31) rfl rfl (any_of HT_.out (by kernel_rfl)) (fun _ _ _ h => h) (Or.inl ⟨by rfl, ?_⟩) ?_ ?_
      rotate_left
      · intro w'
        go_simp
        with_reducible rfl
      rotate_left
      · simp only [Act.put, List.setIfInBounds_toArray, List.set_cons_zero, List.set_cons_succ, i64_w, i32_w]
        rfl
      refine take_ (i := 5) (N := some 30) (v := .string (strOfNums (halfL (bytesOf (sX ++ (⟨#[10]⟩ : ByteArray) ++ x.2))))) (a' := ?_) (fl 11 63) rfl rfl (take_ofW HT_.out HW_.out (by kernel_rfl)) (fun _ _ _ h => h) ?_ HH.out ?_ ?_
      · exact Or.inl ⟨by rfl, fun w h => exec_conv rfl rfl (string_of_reads Tryz.underlying26 Tryz.underlying5 Tryz.underlying9 (half_reads h.2.2.1))⟩
      rotate_left
      · simp only [Act.put, List.setIfInBounds_toArray, List.set_cons_zero, List.set_cons_succ, i64_w, i32_w]
        rfl
      refine pure_ (i := 6) (N := some 31) (v := ?_) (a' := ?_) (fl 11 127) rfl rfl (any_of HT_.out (by kernel_rfl)) (fun _ _ _ h => h) (Or.inl ⟨by rfl, ?_⟩) ?_ ?_
      rotate_left
      · intro w'
        go_simp
        with_reducible rfl
      rotate_left
      · simp only [Act.put, List.setIfInBounds_toArray, List.set_cons_zero, List.set_cons_succ, i64_w, i32_w]
        rfl
      refine take_ (i := 7) (N := some 32) (v := .string (strOfNums (halfL (bytesOf (sY ++ (⟨#[10]⟩ : ByteArray) ++ y.2))))) (a' := ?_) (fl 11 255) rfl rfl (take_ofW HT_.out HW_.out (by kernel_rfl)) (fun _ _ _ h => h) ?_ HH.out ?_ ?_
      · exact Or.inl ⟨by rfl, fun w h => exec_conv rfl rfl (string_of_reads Tryz.underlying26 Tryz.underlying5 Tryz.underlying9 (half_reads h.2.2.2.1))⟩
      rotate_left
      · simp only [Act.put, List.setIfInBounds_toArray, List.set_cons_zero, List.set_cons_succ, i64_w, i32_w]
        rfl
      refine pure_ (i := 8) (N := some 33) (v := ?_) (a' := ?_) (fl 11 511) rfl rfl (any_of HT_.out (by kernel_rfl)) (fun _ _ _ h => h) (Or.inl ⟨by rfl, ?_⟩) ?_ ?_
      rotate_left
      · intro w'
        go_simp
        with_reducible rfl
      rotate_left
      · simp only [Act.put, List.setIfInBounds_toArray, List.set_cons_zero, List.set_cons_succ, i64_w, i32_w]
        rfl
      refine pure_ (i := 9) (N := some 34) (v := ?_) (a' := ?_) (fl 11 1023) rfl rfl (any_of HT_.out (by kernel_rfl)) (fun _ _ _ h => h) (Or.inl ⟨by rfl, ?_⟩) ?_ ?_
      rotate_left
      · intro w'
        go_simp
        with_reducible rfl
      rotate_left
      · simp only [Act.put, List.setIfInBounds_toArray, List.set_cons_zero, List.set_cons_succ, i64_w, i32_w]
        rfl
      refine pure_ (i := 10) (N := some 4) (v := ?_) (a' := ?_) (fl 11 2047) rfl rfl (any_of HT_.out (by kernel_rfl)) (fun _ _ _ h => h) (Or.inl ⟨by rfl, ?_⟩) ?_ ?_
      rotate_left
      · intro w'
        go_simp
        with_reducible rfl
      rotate_left
      · simp only [Act.put, List.setIfInBounds_toArray, List.set_cons_zero, List.set_cons_succ, i64_w, i32_w]
        rfl
      refine done_ (done_of HT_.out (by kernel_rfl)) ?_
      go_wp2_with fail
      go_ret
      exact ⟨by rw [HCOL.out _ rfl, HB.out, beq_toListBytes]; rfl, HH.out.2.2.2.2⟩

end Go.Proofs.YtceopllngemnnaaGreatDoor

