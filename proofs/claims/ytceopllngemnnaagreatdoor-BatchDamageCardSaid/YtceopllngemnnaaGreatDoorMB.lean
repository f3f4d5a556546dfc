/-
  sha256, hexadecimal text, decimal numbers: what they return.
-/
import Derived.Test.YtceopllngemnnaaGreatDoorMA
import Derived.BigRegion
import Derived.Deep.WholeRow
import Derived.Laws.CopyOwn
import Derived.Deep.RegionHeld3
import Derived.Test.YtceopllngemnnaaGreatDoorVLast
import Derived.Test.YtceopllngemnnaaGreatDoorVTab
set_option linter.unusedVariables false
set_option linter.unusedSimpArgs false
/-
  Functions of the document's answer and small functions of the program: what they return. Printed by print.sh for the batch laws (gathered by bx.py; Hex turned at one word).
-/
namespace Go.Proofs.YtceopllngemnnaaGreatDoor.PRef
open Go.RowKit Go.Proofs.YtceopllngemnnaaGreatDoorW.PrintWords Go.Proofs.YtceopllngemnnaaGreatDoorW.PrintLast Go.Proofs.YtceopllngemnnaaGreatDoorW.PrintMore
attribute [local go_sem] max2_int min2_int max_two min_two max_three min_three max_four min_four
set_option linter.unusedVariables false
set_option linter.unusedSimpArgs false

/-! ### bulletinref35_end: function 45 -/
def bulletinref35_end.l0 : Nat → ByteArray → Int → Option (Int)
  | 0, _, _ => none
  | k + 1, x0, x5 => if x5 < (x0.size : Int) then (if 0 ≤ x5 then (if (bt x0 x5) = 10 then (some x5) else (bulletinref35_end.l0 k x0 (wrap64 (x5 + 1)))) else (none)) else (some (-1))
def bulletinref35_end.f (k : Nat) (a0 : ByteArray) (a1 : Int) : Option (Int) := bulletinref35_end.l0 k a0 a1
set_option maxHeartbeats 8000000 in
set_option maxRecDepth 100000 in
theorem bulletinref35_end.calls (k : Nat) (a0 : ByteArray) (a1 : Int) (r : Int) (w : World) (h : bulletinref35_end.f k a0 a1 = some r) :
    Calls Tryz.prog 45 #[.string a0, .int .i64 a1] w fun e w' => e = .returned (.int .i64 r) ∧ Drawn0 w w' := by
  have H : (bulletinref35_end.l0 k a0 a1) = some r := h
  clear h
  have H' := Aside0.mk H
  clear H
  go_enter Tryz.func45, Tryz.ntmps45
  go_wp2
  go_loopg [5] k (fun kq v5 w' => ∃ (x5_1 : Int), v5 = .int .i64 x5_1 ∧ Aside0 (bulletinref35_end.l0 kq a0 x5_1 = some r) ∧ Aside0 (kq ≤ k) ∧ Drawn0 w w')
  case atStart => exact ⟨(a1), (by first | rfl | (simp; done) | (simp [*]; done)), H', ⟨Nat.le_refl _⟩, by repeat (first | exact Drawn0.refl _ | apply Drawn0.step)⟩
  case round =>
    clear H'
    try clear p2
    obtain ⟨x5_1, rfl, HA, HK1, ⟨m1, rfl⟩⟩ := hrel
    cases gk with
    | zero => exact absurd HA.out (by simp [bulletinref35_end.l0])
    | succ k1 =>
      have H := HA.out
      clear HA
      simp only [bulletinref35_end.l0] at H
      by_cases c3 : x5_1 < (a0.size : Int)
      · rw [if_pos c3] at H
        have c3b0 : decide (x5_1 < (a0.size : Int)) = true := decide_eq_true c3
        clear c3
        by_cases c4 : 0 ≤ x5_1
        · rw [if_pos c4] at H
          have c4b0 : decide (0 ≤ x5_1) = true := decide_eq_true c4
          clear c4
          by_cases c6 : (bt a0 x5_1) = 10
          · rw [if_pos c6] at H
            have c6b0 : ((bt a0 x5_1) == 10) = true := beq_iff_eq.mpr c6
            have c6b1 : ((bt a0 x5_1) != 10) = false := bne_eq_false_iff_eq.mpr c6
            clear c6
            obtain rfl := Option.some.inj H
            have p5 : 0 ≤ (x5_1 : Int) := of_decide_eq_true (by first | (with_reducible assumption) | assumption)
            have q5 : x5_1 < (a0.size : Int) := of_decide_eq_true (by first | (with_reducible assumption) | assumption)
            have hx5 := bt_at a0 x5_1
            replace p5 := eq_true p5
            replace q5 := eq_true q5
            go_wp2
            go_ret
            exact ⟨by first | rfl | (simp; done) | (simp [*]; done), by repeat (first | exact Drawn0.refl _ | apply Drawn0.step)⟩
          · rw [if_neg c6] at H
            have c6b0 : ((bt a0 x5_1) == 10) = false := beq_eq_false_iff_ne.mpr c6
            have c6b1 : ((bt a0 x5_1) != 10) = true := bne_iff_ne.mpr c6
            have H' := Aside0.mk H
            clear H
            have p5 : 0 ≤ (x5_1 : Int) := of_decide_eq_true (by first | (with_reducible assumption) | assumption)
            have q5 : x5_1 < (a0.size : Int) := of_decide_eq_true (by first | (with_reducible assumption) | assumption)
            have hx5 := bt_at a0 x5_1
            replace p5 := eq_true p5
            replace q5 := eq_true q5
            go_wp2
            go_roundg k1
            case measure => have := HK1.out; omega
            case rel => exact ⟨(wrap64 (x5_1 + 1)), (by first | rfl | (simp; done) | (simp [*]; done)), H', ⟨by have := HK1.out; omega⟩, by repeat (first | exact Drawn0.refl _ | apply Drawn0.step)⟩
        · rw [if_neg c4] at H
          exact absurd H (by simp)
      · rw [if_neg c3] at H
        have c3b0 : decide (x5_1 < (a0.size : Int)) = false := decide_eq_false c3
        clear c3
        obtain rfl := Option.some.inj H
        go_wp2
        go_ret
        exact ⟨by first | rfl | (simp; done) | (simp [*]; done), by repeat (first | exact Drawn0.refl _ | apply Drawn0.step)⟩

/-! ### bulletinref35_number: function 47 -/
mutual
def bulletinref35_number.j0 : Nat → ByteArray → Int → Bool → Option (Int)
  | 0, _, _, _ => none
  | k + 1, x0, x1, x23 => if x23 = true then (some (-1)) else (bulletinref35_number.l0 k x0 x1 0 0)
def bulletinref35_number.l0 : Nat → ByteArray → Int → Int → Int → Option (Int)
  | 0, _, _, _, _ => none
  | k + 1, x0, x1, x5, x6 => if x6 < (x0.size : Int) then (if 0 ≤ x6 then (if (bt x0 x6) < 48 then (some (-1)) else (if (bt x0 x6) > 57 then (some (-1)) else (bulletinref35_number.l0 k x0 x1 (wrap64 ((wrap64 (x5 * 10)) + (((bt x0 x6) - 48) % 256))) (wrap64 (x6 + 1))))) else (none)) else (if x5 > x1 then (some (-1)) else (some x5))
end
def bulletinref35_number.f (k : Nat) (a0 : ByteArray) (a1 : Int) : Option (Int) := if a0.toList = ([] : List UInt8) then (bulletinref35_number.j0 k a0 a1 true) else (if (a0.size : Int) > 9 then (bulletinref35_number.j0 k a0 a1 true) else (if (a0.size : Int) > 1 then (if 0 < (a0.size : Int) then (bulletinref35_number.j0 k a0 a1 ((bt a0 0) == 48)) else (none)) else (bulletinref35_number.j0 k a0 a1 false)))
set_option maxHeartbeats 8000000 in
set_option maxRecDepth 100000 in
theorem bulletinref35_number.calls (k : Nat) (a0 : ByteArray) (a1 : Int) (r : Int) (w : World) (h : bulletinref35_number.f k a0 a1 = some r) :
    Calls Tryz.prog 47 #[.string a0, .int .i64 a1] w fun e w' => e = .returned (.int .i64 r) ∧ Drawn0 w w' := by
  have H : (if a0.toList = ([] : List UInt8) then (bulletinref35_number.j0 k a0 a1 true) else (if (a0.size : Int) > 9 then (bulletinref35_number.j0 k a0 a1 true) else (if (a0.size : Int) > 1 then (if 0 < (a0.size : Int) then (bulletinref35_number.j0 k a0 a1 ((bt a0 0) == 48)) else (none)) else (bulletinref35_number.j0 k a0 a1 false)))) = some r := h
  clear h
  have HC3 := Aside0.mk H
  clear H
  go_enter Tryz.func47, Tryz.ntmps47
  go_upto_region 1 with (fail)
  go_cut [23] (fun v23 wc => ∃ (kq : Nat) (x23_2 : Bool), v23 = .bool x23_2 ∧ Aside0 (bulletinref35_number.j0 kq a0 a1 x23_2 = some r) ∧ Aside0 (kq ≤ k) ∧ Drawn0 w wc)
  case first =>
    have H := HC3.out
    clear HC3
    by_cases c4 : a0.toList = ([] : List UInt8)
    · rw [if_pos c4] at H
      have c4b0 : (a0.toList == ([] : List UInt8)) = true := beq_iff_eq.mpr c4
      have c4b1 : (a0.toList != ([] : List UInt8)) = false := bne_eq_false_iff_eq.mpr c4
      clear c4
      (first | rw [c4b0] | (simp only [i64_w, i32_w]; rw [c4b0]) | skip)
      have H' := Aside0.mk H
      clear H
      go_wp2
      go_meet
      case rel => exact ⟨_, (true), (by first | rfl | (simp; done) | (simp [*]; done)), H', ⟨by first | omega | exact Nat.le_refl _⟩, by repeat (first | exact Drawn0.refl _ | apply Drawn0.step)⟩
    · rw [if_neg c4] at H
      have c4b0 : (a0.toList == ([] : List UInt8)) = false := beq_eq_false_iff_ne.mpr c4
      have c4b1 : (a0.toList != ([] : List UInt8)) = true := bne_iff_ne.mpr c4
      (first | rw [c4b0] | (simp only [i64_w, i32_w]; rw [c4b0]) | skip)
      by_cases c5 : (a0.size : Int) > 9
      · rw [if_pos c5] at H
        have c5b0 : decide (9 < (a0.size : Int)) = true := decide_eq_true c5
        have c5b1 : decide (9 < a0.size) = true := decide_eq_true (by omega)
        clear c5
        have H' := Aside0.mk H
        clear H
        go_wp2
        go_meet
        case rel => exact ⟨_, (true), (by first | rfl | (simp; done) | (simp [*]; done)), H', ⟨by first | omega | exact Nat.le_refl _⟩, by repeat (first | exact Drawn0.refl _ | apply Drawn0.step)⟩
      · rw [if_neg c5] at H
        have c5b0 : decide (9 < (a0.size : Int)) = false := decide_eq_false c5
        have c5b1 : decide (9 < a0.size) = false := decide_eq_false (by omega)
        clear c5
        by_cases c6 : (a0.size : Int) > 1
        · rw [if_pos c6] at H
          have c6b0 : decide (1 < (a0.size : Int)) = true := decide_eq_true c6
          have c6b1 : decide (1 < a0.size) = true := decide_eq_true (by omega)
          clear c6
          by_cases c7 : 0 < (a0.size : Int)
          · rw [if_pos c7] at H
            have c7b0 : decide (0 < (a0.size : Int)) = true := decide_eq_true c7
            have c7b1 : decide (0 < a0.size) = true := decide_eq_true (by omega)
            clear c7
            have H' := Aside0.mk H
            clear H
            have p8 : 0 ≤ (0 : Int) := (by omega)
            have q8 : 0 < a0.size := (by have : (0 : Int) < (a0.size : Int) := of_decide_eq_true (by first | (with_reducible assumption) | assumption); omega)
            have hx8 : ∀ h : 0 < a0.size, ((a0[0]'h).toNat : Int) = bt a0 0 := bt_at a0 0
            clear p8
            have qi8 : (0 < (a0.size : Int)) = True := eq_true (of_decide_eq_true (by first | (with_reducible assumption) | assumption))
            replace q8 := eq_true q8
            go_wp2
            go_meet
            case rel => exact ⟨_, (((bt a0 0) == 48)), (by first | rfl | (simp; done) | (simp [*]; done)), H', ⟨by first | omega | exact Nat.le_refl _⟩, by repeat (first | exact Drawn0.refl _ | apply Drawn0.step)⟩
          · rw [if_neg c7] at H
            exact absurd H (by simp)
        · rw [if_neg c6] at H
          have c6b0 : decide (1 < (a0.size : Int)) = false := decide_eq_false c6
          have c6b1 : decide (1 < a0.size) = false := decide_eq_false (by omega)
          clear c6
          have H' := Aside0.mk H
          clear H
          go_wp2
          go_meet
          case rel => exact ⟨_, (false), (by first | rfl | (simp; done) | (simp [*]; done)), H', ⟨by first | omega | exact Nat.le_refl _⟩, by repeat (first | exact Drawn0.refl _ | apply Drawn0.step)⟩
  case rest =>
    clear HC3
    try clear p2
    try clear c4
    try clear c4b0
    try clear c4b1
    try clear c5
    try clear c5b0
    try clear c5b1
    try clear c6
    try clear c6b0
    try clear c6b1
    try clear c7
    try clear c7b0
    try clear c7b1
    try clear p8
    try clear q8
    try clear hx8
    try clear qi8
    try clear p8
    try clear q8
    obtain ⟨kq, x23_2, rfl, HA, HJ2, ⟨mc2, rfl⟩⟩ := hcut
    cases kq with
    | zero => exact absurd HA.out (by simp [bulletinref35_number.j0])
    | succ kj2 =>
      have H := HA.out
      clear HA
      simp only [bulletinref35_number.j0] at H
      by_cases c9 : x23_2 = true
      · subst c9
        have H1 : (some (-1)) = some r := by rw [if_pos rfl] at H; exact H
        clear H
        have H := H1
        clear H1
        obtain rfl := Option.some.inj H
        go_wp2
        go_ret
        exact ⟨by first | rfl | (simp; done) | (simp [*]; done), by repeat (first | exact Drawn0.refl _ | apply Drawn0.step)⟩
      · replace c9 := Bool.eq_false_iff.mpr c9
        subst c9
        have H1 : (bulletinref35_number.l0 kj2 a0 a1 0 0) = some r := by rw [if_neg (show ¬ (false = true) by decide)] at H; exact H
        clear H
        have H := H1
        clear H1
        have H' := Aside0.mk H
        clear H
        go_wp2
        go_loopg [5, 6] kj2 (fun kq v5 v6 w' => ∃ (x5_2 : Int) (x6_2 : Int), v5 = .int .i64 x5_2 ∧ v6 = .int .i64 x6_2 ∧ Aside0 (bulletinref35_number.l0 kq a0 a1 x5_2 x6_2 = some r) ∧ Aside0 (kq ≤ kj2) ∧ Drawn0 w w')
        case atStart => exact ⟨(0), (0), (by first | rfl | (simp; done) | (simp [*]; done)), (by first | rfl | (simp; done) | (simp [*]; done)), H', ⟨Nat.le_refl _⟩, by repeat (first | exact Drawn0.refl _ | apply Drawn0.step)⟩
        case round =>
          clear H'
          try clear c2
          try clear p2
          try clear c4
          try clear c4b0
          try clear c4b1
          try clear c5
          try clear c5b0
          try clear c5b1
          try clear c6
          try clear c6b0
          try clear c6b1
          try clear c7
          try clear c7b0
          try clear c7b1
          try clear p8
          try clear q8
          try clear hx8
          try clear qi8
          try clear c9
          try clear p2
          try clear p8
          try clear q8
          obtain ⟨x5_2, x6_2, rfl, rfl, HA, HK2, ⟨m2, rfl⟩⟩ := hrel
          cases gk with
          | zero => exact absurd HA.out (by simp [bulletinref35_number.l0])
          | succ k2 =>
            have H := HA.out
            clear HA
            simp only [bulletinref35_number.l0] at H
            by_cases c10 : x6_2 < (a0.size : Int)
            · rw [if_pos c10] at H
              have c10b0 : decide (x6_2 < (a0.size : Int)) = true := decide_eq_true c10
              clear c10
              by_cases c11 : 0 ≤ x6_2
              · rw [if_pos c11] at H
                have c11b0 : decide (0 ≤ x6_2) = true := decide_eq_true c11
                clear c11
                by_cases c13 : (bt a0 x6_2) < 48
                · rw [if_pos c13] at H
                  have c13b0 : decide ((bt a0 x6_2) < 48) = true := decide_eq_true c13
                  clear c13
                  obtain rfl := Option.some.inj H
                  have p12 : 0 ≤ (x6_2 : Int) := of_decide_eq_true (by first | (with_reducible assumption) | assumption)
                  have q12 : x6_2 < (a0.size : Int) := of_decide_eq_true (by first | (with_reducible assumption) | assumption)
                  have hx12 := bt_at a0 x6_2
                  replace p12 := eq_true p12
                  replace q12 := eq_true q12
                  go_wp2
                  go_ret
                  exact ⟨by first | rfl | (simp; done) | (simp [*]; done), by repeat (first | exact Drawn0.refl _ | apply Drawn0.step)⟩
                · rw [if_neg c13] at H
                  have c13b0 : decide ((bt a0 x6_2) < 48) = false := decide_eq_false c13
                  clear c13
                  by_cases c15 : (bt a0 x6_2) > 57
                  · rw [if_pos c15] at H
                    have c15b0 : decide (57 < (bt a0 x6_2)) = true := decide_eq_true c15
                    clear c15
                    obtain rfl := Option.some.inj H
                    have p12 : 0 ≤ (x6_2 : Int) := of_decide_eq_true (by first | (with_reducible assumption) | assumption)
                    have q12 : x6_2 < (a0.size : Int) := of_decide_eq_true (by first | (with_reducible assumption) | assumption)
                    have hx12 := bt_at a0 x6_2
                    replace p12 := eq_true p12
                    replace q12 := eq_true q12
                    have p14 : 0 ≤ (x6_2 : Int) := of_decide_eq_true (by first | (with_reducible assumption) | assumption)
                    have q14 : x6_2 < (a0.size : Int) := of_decide_eq_true (by first | (with_reducible assumption) | assumption)
                    have hx14 := bt_at a0 x6_2
                    replace p14 := eq_true p14
                    replace q14 := eq_true q14
                    go_wp2
                    go_ret
                    exact ⟨by first | rfl | (simp; done) | (simp [*]; done), by repeat (first | exact Drawn0.refl _ | apply Drawn0.step)⟩
                  · rw [if_neg c15] at H
                    have c15b0 : decide (57 < (bt a0 x6_2)) = false := decide_eq_false c15
                    clear c15
                    have H' := Aside0.mk H
                    clear H
                    have p12 : 0 ≤ (x6_2 : Int) := of_decide_eq_true (by first | (with_reducible assumption) | assumption)
                    have q12 : x6_2 < (a0.size : Int) := of_decide_eq_true (by first | (with_reducible assumption) | assumption)
                    have hx12 := bt_at a0 x6_2
                    replace p12 := eq_true p12
                    replace q12 := eq_true q12
                    have p14 : 0 ≤ (x6_2 : Int) := of_decide_eq_true (by first | (with_reducible assumption) | assumption)
                    have q14 : x6_2 < (a0.size : Int) := of_decide_eq_true (by first | (with_reducible assumption) | assumption)
                    have hx14 := bt_at a0 x6_2
                    replace p14 := eq_true p14
                    replace q14 := eq_true q14
                    have p16 : 0 ≤ (x6_2 : Int) := of_decide_eq_true (by first | (with_reducible assumption) | assumption)
                    have q16 : x6_2 < (a0.size : Int) := of_decide_eq_true (by first | (with_reducible assumption) | assumption)
                    have hx16 := bt_at a0 x6_2
                    replace p16 := eq_true p16
                    replace q16 := eq_true q16
                    go_wp2
                    go_roundg k2
                    case measure => have := HJ2.out; have := HK2.out; omega
                    case rel => exact ⟨(wrap64 ((wrap64 (x5_2 * 10)) + (((bt a0 x6_2) - 48) % 256))), (wrap64 (x6_2 + 1)), (by first | rfl | (simp; done) | (simp [*]; done)), (by first | rfl | (simp; done) | (simp [*]; done)), H', ⟨by have := HJ2.out; have := HK2.out; omega⟩, by repeat (first | exact Drawn0.refl _ | apply Drawn0.step)⟩
              · rw [if_neg c11] at H
                exact absurd H (by simp)
            · rw [if_neg c10] at H
              have c10b0 : decide (x6_2 < (a0.size : Int)) = false := decide_eq_false c10
              clear c10
              by_cases c17 : x5_2 > a1
              · rw [if_pos c17] at H
                have c17b0 : decide (a1 < x5_2) = true := decide_eq_true c17
                clear c17
                obtain rfl := Option.some.inj H
                go_wp2
                go_ret
                exact ⟨by first | rfl | (simp; done) | (simp [*]; done), by repeat (first | exact Drawn0.refl _ | apply Drawn0.step)⟩
              · rw [if_neg c17] at H
                have c17b0 : decide (a1 < x5_2) = false := decide_eq_false c17
                clear c17
                obtain rfl := Option.some.inj H
                go_wp2
                go_ret
                exact ⟨by first | rfl | (simp; done) | (simp [*]; done), by repeat (first | exact Drawn0.refl _ | apply Drawn0.step)⟩

/-! ### bulletinref01_plain: function 55 -/
def bulletinref01_plain.f : Nat → Int → Option (ByteArray)
  | 0, _ => none
  | k + 1, a0 => if a0 < 10 then (some (strOfNums (([(IntKind.u64.wrap (48 + a0)) % 256] : List Int)))) else ((bulletinref01_plain.f k (IntKind.u64.wrap (Int.tdiv a0 10))).bind fun t179 => ((some (([(IntKind.u64.wrap (48 + (Int.tmod a0 10))) % 256] : List Int) : List Int)).bind fun y180 => (if t179.size + (strOfNums y180).size ≤ 9223372036854775807 then (some (t179 ++ (strOfNums y180))) else (none))))
def bulletinref01_plain.T3 : Bool × List (List Nat × List Nat) := (true, [([], []), ([0], [0]), ([1], [1]), ([], []), ([3], [3]), ([4], [4]), ([5], [5]), ([6], [6]), ([7], [7]), ([2, 8], [2, 8]), ([9, 2, 0, 1, 2, 3, 4, 5, 6, 7, 8, 9], [9])])
def bulletinref01_plain.B3 : List Nat := [0, 1, 3, 0, 8, 24, 56, 120, 248, 511, 1023]
theorem bulletinref01_plain.tab3 : rtab .any (opsOf Tryz.f55 3) = bulletinref01_plain.T3 := by kernel_rfl
theorem bulletinref01_plain.bits3 : waitsOk bulletinref01_plain.T3.2 bulletinref01_plain.B3 = true := by kernel_rfl
set_option maxHeartbeats 8000000 in
set_option maxRecDepth 100000 in
theorem bulletinref01_plain.calls (k : Nat) : ∀ (a0 : Int) (r : ByteArray) (w : World) (h : bulletinref01_plain.f k a0 = some r),
    Calls Tryz.prog 55 #[.int .u64 a0] w fun e w' => e = .returned (.string r) ∧ Below w.heap.size w w' := by
  induction k using Nat.strongRecOn with
  | _ k ih =>
  intro a0 r w h
  cases k with
  | zero => exact absurd h (by simp [bulletinref01_plain.f])
  | succ k =>
  simp only [bulletinref01_plain.f] at h
  have HB := Aside0.mk (Below.refl w.heap.size w)
  have H : (if a0 < 10 then (some (strOfNums (([(IntKind.u64.wrap (48 + a0)) % 256] : List Int)))) else ((bulletinref01_plain.f k (IntKind.u64.wrap (Int.tdiv a0 10))).bind fun t179 => ((some (([(IntKind.u64.wrap (48 + (Int.tmod a0 10))) % 256] : List Int) : List Int)).bind fun y180 => (if t179.size + (strOfNums y180).size ≤ 9223372036854775807 then (some (t179 ++ (strOfNums y180))) else (none))))) = some r := h
  clear h
  by_cases c2 : a0 < 10
  · rw [if_pos c2] at H
    have c2b0 : decide (a0 < 10) = true := decide_eq_true c2
    clear c2
    obtain ⟨y176, hy176⟩ : ∃ y_ : List Int, y_ = (([(IntKind.u64.wrap (48 + a0)) % 256] : List Int)) := ⟨_, rfl⟩
    replace H : (some (strOfNums y176)) = some r := by first | (rw [hy176]; with_reducible exact H) | (have H2_ := (Option.bind_some _ _).symm.trans H; rw [hy176]; with_reducible exact H2_) | (have H2_ := (Option.bind_some _ _).symm.trans H; with_reducible exact H2_) | with_reducible exact H | (rw [hy176]; exact H) | exact H
    have Ny176 := Aside0.mk hy176
    clear hy176
    obtain rfl := Option.some.inj H
    go_enter Tryz.func55, Tryz.ntmps55
    go_wp2_with (first | ((with_reducible refine gate_dst (N := 8) rfl ?_); refine Kd.R_lit (Kd.int .u8) _ 5 ?hg (N := 8) ?hd (xs := ([(IntKind.u64.wrap (48 + a0)) % 256] : List Int)) (inner := [.int .u8 ((IntKind.u64.wrap (48 + a0)) % 256)]) (ok := fun _ => True) (okp := fun _ => True) ?hr ?hp (fun _ hk => hk) trivial (Below.refl _ _) (Nat.le_refl _) (by simp) ?_; (case hd => rfl); (case hg => rfl); (case hr => first | (go_simp; done) | (go_simp; rfl)); (case hp => exact (Reps.one (show Kd.M (Kd.int .u8) _ _ _ ((IntKind.u64.wrap (48 + a0)) % 256) [.int .u8 ((IntKind.u64.wrap (48 + a0)) % 256)] from rfl) (Reps.none _ _))); intro v177 w3 ho4 hb hg_ hnew_; clear hg_ hnew_; (first | rw [← Ny176.out] at ho4 | (simp only [Int.reduceToNat] at ho4; rw [← Ny176.out] at ho4)); have n0_ := Aside0.mk (Kd.R_lower ho4 (below_size (by repeat (first | (with_reducible first | exact HB.out | apply below_alloc | apply pw_below_drewN | apply below_drew1) | exact HB.out)))); have n1_ := Aside0.mk (below_step (by repeat (first | (with_reducible first | exact HB.out | apply below_alloc | apply pw_below_drewN | apply below_drew1) | exact HB.out)) hb); clear HB; have HO178 := n0_; have HB := n1_; clear n0_ n1_; clear hb ho4; have hcv5 := own_string (P := Tryz.prog) Tryz.underlying26 Tryz.underlying5 Tryz.underlying9 (Kd.own_of_R HO178.out)))
    go_ret
    exact ⟨by first | rfl | (simp [errW_none, errW_some] <;> rfl) | (simp [*, errW_none, errW_some] <;> rfl), by repeat (first | (with_reducible first | exact HB.out | apply below_alloc | apply pw_below_drewN | apply below_drew1) | exact HB.out)⟩
  · rw [if_neg c2] at H
    have c2b0 : decide (a0 < 10) = false := decide_eq_false c2
    clear c2
    replace H := Option.bind_eq_some_iff.mp H
    obtain ⟨t179, A60, H⟩ := H
    replace H : ((some (([(IntKind.u64.wrap (48 + (Int.tmod a0 10))) % 256] : List Int) : List Int)).bind fun y180 => (if t179.size + (strOfNums y180).size ≤ 9223372036854775807 then (some (t179 ++ (strOfNums y180))) else (none))) = some r := H
    have A6 := Aside0.mk A60
    clear A60
    obtain ⟨y180, hy180⟩ : ∃ y_ : List Int, y_ = (([(IntKind.u64.wrap (48 + (Int.tmod a0 10))) % 256] : List Int)) := ⟨_, rfl⟩
    replace H : (if t179.size + (strOfNums y180).size ≤ 9223372036854775807 then (some (t179 ++ (strOfNums y180))) else (none)) = some r := by first | (rw [hy180]; with_reducible exact H) | (have H2_ := (Option.bind_some _ _).symm.trans H; rw [hy180]; with_reducible exact H2_) | (have H2_ := (Option.bind_some _ _).symm.trans H; with_reducible exact H2_) | with_reducible exact H | (rw [hy180]; exact H) | exact H
    have Ny180 := Aside0.mk hy180
    clear hy180
    by_cases c7 : t179.size + (strOfNums y180).size ≤ 9223372036854775807
    · rw [if_pos c7] at H
      have c7b0 := eq_true c7
      have c7b1 : decide (t179.size + (strOfNums y180).size ≤ 9223372036854775807) = true := decide_eq_true c7
      try have c7b2 : (9223372036854775807 < t179.size + (strOfNums y180).size) = False := eq_false (Nat.not_lt.2 c7)
      obtain rfl := Option.some.inj H
      go_enter Tryz.func55, Tryz.ntmps55
      try go_wp2
      have n0_ := Aside0.mk (below_drew1 HB.out)
      clear HB
      have HB := n0_
      clear n0_
      refine start_ (n := 11) (S := fun w' => True) (ds := []) #[false, false, false, false, false, false, false, false, false, false, false] (by kernel_rfl) rfl rfl trivial (fun hHeld => ?_); refine with_tabW bulletinref01_plain.tab3 bulletinref01_plain.bits3 (fun HT_ HW_ => ?_)
      generalize w.drew = w8 at HB hHeld ⊢
      refine pure_ (i := 0) (N := some 10) (v := ?_) (a' := ?_) #[true, false, false, false, false, false, false, false, false, false, false] rfl rfl (any_of HT_.out (by kernel_rfl)) (fun _ _ _ h => h) (Or.inl ⟨by rfl, ?_⟩) ?_ ?_
      rotate_left
      · intro w'
        go_simp
        with_reducible rfl
      rotate_left
      · simp only [Act.put, List.setIfInBounds_toArray, List.set_cons_zero, List.set_cons_succ, i64_w, i32_w]
        rfl
      refine pure_ (i := 1) (N := some 11) (v := ?_) (a' := ?_) #[true, true, false, false, false, false, false, false, false, false, false] rfl rfl (any_of HT_.out (by kernel_rfl)) (fun _ _ _ h => h) (Or.inl ⟨by rfl, ?_⟩) ?_ ?_
      rotate_left
      · intro w'
        go_simp
        with_reducible rfl
      rotate_left
      · simp only [Act.put, List.setIfInBounds_toArray, List.set_cons_zero, List.set_cons_succ, i64_w, i32_w]
        rfl
      refine pure_ (i := 3) (N := some 13) (v := ?_) (a' := ?_) #[true, true, false, true, false, false, false, false, false, false, false] rfl rfl (any_of HT_.out (by kernel_rfl)) (fun _ _ _ h => h) (Or.inl ⟨by rfl, ?_⟩) ?_ ?_
      rotate_left
      · intro w'
        go_simp
        with_reducible rfl
      rotate_left
      · simp only [Act.put, List.setIfInBounds_toArray, List.set_cons_zero, List.set_cons_succ, i64_w, i32_w]
        rfl
      refine pure_ (i := 4) (N := some 14) (v := ?_) (a' := ?_) #[true, true, false, true, true, false, false, false, false, false, false] rfl rfl (any_of HT_.out (by kernel_rfl)) (fun _ _ _ h => h) (Or.inl ⟨by rfl, ?_⟩) ?_ ?_
      rotate_left
      · intro w'
        go_simp
        with_reducible rfl
      rotate_left
      · simp only [Act.put, List.setIfInBounds_toArray, List.set_cons_zero, List.set_cons_succ, i64_w, i32_w]
        rfl
      refine pure_ (i := 5) (N := some 15) (v := ?_) (a' := ?_) #[true, true, false, true, true, true, false, false, false, false, false] rfl rfl (any_of HT_.out (by kernel_rfl)) (fun _ _ _ h => h) (Or.inl ⟨by rfl, ?_⟩) ?_ ?_
      rotate_left
      · intro w'
        go_simp
        with_reducible rfl
      rotate_left
      · simp only [Act.put, List.setIfInBounds_toArray, List.set_cons_zero, List.set_cons_succ, i64_w, i32_w]
        rfl
      refine pure_ (i := 6) (N := some 16) (v := ?_) (a' := ?_) #[true, true, false, true, true, true, true, false, false, false, false] rfl rfl (any_of HT_.out (by kernel_rfl)) (fun _ _ _ h => h) (Or.inl ⟨by rfl, ?_⟩) ?_ ?_
      rotate_left
      · intro w'
        go_simp
        with_reducible rfl
      rotate_left
      · simp only [Act.put, List.setIfInBounds_toArray, List.set_cons_zero, List.set_cons_succ, i64_w, i32_w]
        rfl
      refine join_ (σ := Value) 2 #[true, true, true, true, true, true, true, true, true, false, false] (fun s_ => [(12, .string t179), (17, s_), (18, .string (strOfNums y180))]) (fun s_ w' => (Kd.R (Kd.int .u8) 5 w' w.heap.size (fun _ => True) s_ y180) ∧ (Below w.heap.size w w')) ?_ ?_
      rotate_left
      · intro hCont
        refine two_ (i := 2) (j := 7) (Ni := some 12) (Nj := some 17) #[true, true, true, true, true, true, true, false, false, false, false] #[true, true, false, true, true, true, true, true, false, false, false] rfl rfl rfl rfl (two_of HT_.out (by kernel_rfl)) (by decide) (by decide) (fun K hK => ?_) (fun K hK => ?_)
        · skip
          refine goes_ Tryz.func55 (by kernel_rfl) rfl #[.int .u64 (IntKind.u64.wrap (Int.tdiv a0 10))] (by rfl) rfl rfl (by (try simp only [List.map_toArray, List.map_cons, List.map_nil]); first | done | rfl | (simp only [List.length_drop, List.length_take]; rfl)) ?_
          with_reducible refine (ih k (by omega) (IntKind.u64.wrap (Int.tdiv a0 10)) t179 _ A6.out).mono ?_
          rintro e w9 ⟨rfl, hb⟩
          refine ⟨_, rfl, ?_⟩
          have n0_ := Aside0.mk (below_step (by repeat (first | (with_reducible first | exact HB.out | apply below_alloc | apply pw_below_drewN | apply below_drew1) | exact HB.out)) hb)
          clear HB
          have HB := n0_
          clear n0_
          (try clear hb)
          (try clear hb2)
          (try clear hk)
          (try clear hi)
          refine hK.out _ _ trivial (fun hHeld => ?_)
          clear hK K
          refine norm_ (a' := ?_) ?_ ?_
          rotate_left
          · show Act.put _ (some 12) _ = _
            simp only [Act.put, List.setIfInBounds_toArray, List.set_cons_zero, List.set_cons_succ, i64_w, i32_w]
            rfl
          refine one_ (i := 7) (N := some 17) #[true, true, true, true, true, true, true, true, false, false, false] rfl rfl (one_of HT_.out (by kernel_rfl)) (by decide) (fun K hK => ?_)
          refine Kd.R_lit_step (Kd.int .u8) _ 5 ?hg (N := 17) ?hd (xs := ([(IntKind.u64.wrap (48 + (Int.tmod a0 10))) % 256] : List Int)) (inner := [.int .u8 ((IntKind.u64.wrap (48 + (Int.tmod a0 10))) % 256)]) (ok := fun _ => True) (okp := fun _ => True) ?hr ?hp (fun _ hk => hk) trivial (Below.refl _ _) (Nat.le_refl _) (by simp) ?_; (case hd => rfl); (case hg => rfl); (case hr => first | (go_simp; done) | (go_simp; rfl)); (case hp => exact (Reps.one (show Kd.M (Kd.int .u8) _ _ _ ((IntKind.u64.wrap (48 + (Int.tmod a0 10))) % 256) [.int .u8 ((IntKind.u64.wrap (48 + (Int.tmod a0 10))) % 256)] from rfl) (Reps.none _ _)))
          intro v181 w10 ho11 hb hg_ hnew_
          clear hg_ hnew_
          (first | rw [← Ny180.out] at ho11 | (simp only [Int.reduceToNat] at ho11; rw [← Ny180.out] at ho11))
          have n0_ := Aside0.mk (Kd.R_lower ho11 (below_size (by repeat (first | (with_reducible first | exact HB.out | apply below_alloc | apply pw_below_drewN | apply below_drew1) | exact HB.out))))
          have n1_ := Aside0.mk (below_step (by repeat (first | (with_reducible first | exact HB.out | apply below_alloc | apply pw_below_drewN | apply below_drew1) | exact HB.out)) hb)
          clear HB
          have HO182 := n0_
          have HB := n1_
          clear n0_ n1_
          clear hb ho11
          refine hK.out _ _ trivial (fun hHeld => ?_)
          clear hK K
          refine norm_ (a' := ?_) ?_ ?_
          rotate_left
          · show Act.put _ (some 17) _ = _
            simp only [Act.put, List.setIfInBounds_toArray, List.set_cons_zero, List.set_cons_succ, i64_w, i32_w]
            rfl
          refine one_ (i := 8) (N := some 18) #[true, true, true, true, true, true, true, true, true, false, false] rfl rfl (one_of HT_.out (by kernel_rfl)) (by decide) (fun K hK => ?_)
          have hcv12 := own_string (P := Tryz.prog) Tryz.underlying26 Tryz.underlying5 Tryz.underlying9 (Kd.own_of_R HO182.out)
          refine value_ (w1 := ?_) (v := ?_) (by rfl) rfl ?_ ?_
          rotate_left 2
          · go_simp
            constructor
            · rfl
            · rfl
          clear hcv12
          refine hK.out _ _ trivial (fun hHeld => ?_)
          clear hK K
          refine norm_ (a' := ?_) ?_ ?_
          rotate_left
          · show Act.put _ (some 18) _ = _
            simp only [Act.put, List.setIfInBounds_toArray, List.set_cons_zero, List.set_cons_succ, i64_w, i32_w]
            rfl
          exact norm_ (by simp only [putAll, Act.put, List.setIfInBounds_toArray, List.set_cons_zero, List.set_cons_succ]) (hCont (v181) _ ⟨(by (with_reducible repeat (first | apply Kd.R_alloc | apply Kd.R_drewN | apply Kd.R_drew)); exact HO182.out), (by repeat (first | (with_reducible first | exact HB.out | apply below_alloc | apply pw_below_drewN | apply below_drew1) | exact HB.out))⟩)
        · skip
          refine Kd.R_lit_step (Kd.int .u8) _ 5 ?hg (N := 17) ?hd (xs := ([(IntKind.u64.wrap (48 + (Int.tmod a0 10))) % 256] : List Int)) (inner := [.int .u8 ((IntKind.u64.wrap (48 + (Int.tmod a0 10))) % 256)]) (ok := fun _ => True) (okp := fun _ => True) ?hr ?hp (fun _ hk => hk) trivial (Below.refl _ _) (Nat.le_refl _) (by simp) ?_; (case hd => rfl); (case hg => rfl); (case hr => first | (go_simp; done) | (go_simp; rfl)); (case hp => exact (Reps.one (show Kd.M (Kd.int .u8) _ _ _ ((IntKind.u64.wrap (48 + (Int.tmod a0 10))) % 256) [.int .u8 ((IntKind.u64.wrap (48 + (Int.tmod a0 10))) % 256)] from rfl) (Reps.none _ _)))
          intro v181 w9 ho10 hb hg_ hnew_
          clear hg_ hnew_
          (first | rw [← Ny180.out] at ho10 | (simp only [Int.reduceToNat] at ho10; rw [← Ny180.out] at ho10))
          have n0_ := Aside0.mk (Kd.R_lower ho10 (below_size (by repeat (first | (with_reducible first | exact HB.out | apply below_alloc | apply pw_below_drewN | apply below_drew1) | exact HB.out))))
          have n1_ := Aside0.mk (below_step (by repeat (first | (with_reducible first | exact HB.out | apply below_alloc | apply pw_below_drewN | apply below_drew1) | exact HB.out)) hb)
          clear HB
          have HO182 := n0_
          have HB := n1_
          clear n0_ n1_
          clear hb ho10
          refine hK.out _ _ trivial (fun hHeld => ?_)
          clear hK K
          refine norm_ (a' := ?_) ?_ ?_
          rotate_left
          · show Act.put _ (some 17) _ = _
            simp only [Act.put, List.setIfInBounds_toArray, List.set_cons_zero, List.set_cons_succ, i64_w, i32_w]
            rfl
          refine two_ (i := 2) (j := 8) (Ni := some 12) (Nj := some 18) #[true, true, true, true, true, true, true, true, false, false, false] #[true, true, false, true, true, true, true, true, true, false, false] rfl rfl rfl rfl (two_of HT_.out (by kernel_rfl)) (by decide) (by decide) (fun K hK => ?_) (fun K hK => ?_)
          · skip
            refine goes_ Tryz.func55 (by kernel_rfl) rfl #[.int .u64 (IntKind.u64.wrap (Int.tdiv a0 10))] (by rfl) rfl rfl (by (try simp only [List.map_toArray, List.map_cons, List.map_nil]); first | done | rfl | (simp only [List.length_drop, List.length_take]; rfl)) ?_
            with_reducible refine (ih k (by omega) (IntKind.u64.wrap (Int.tdiv a0 10)) t179 _ A6.out).mono ?_
            rintro e w11 ⟨rfl, hb⟩
            refine ⟨_, rfl, ?_⟩
            have n0_ := Aside0.mk (Kd.R_below (by (with_reducible repeat (first | apply Kd.R_alloc | apply Kd.R_drewN | apply Kd.R_drew)); exact HO182.out) hb)
            have n1_ := Aside0.mk (below_step (by repeat (first | (with_reducible first | exact HB.out | apply below_alloc | apply pw_below_drewN | apply below_drew1) | exact HB.out)) hb)
            clear HO182
            clear HB
            have HO182 := n0_
            have HB := n1_
            clear n0_ n1_
            (try clear hb)
            (try clear hb2)
            (try clear hk)
            (try clear hi)
            refine hK.out _ _ trivial (fun hHeld => ?_)
            clear hK K
            refine norm_ (a' := ?_) ?_ ?_
            rotate_left
            · show Act.put _ (some 12) _ = _
              simp only [Act.put, List.setIfInBounds_toArray, List.set_cons_zero, List.set_cons_succ, i64_w, i32_w]
              rfl
            refine one_ (i := 8) (N := some 18) #[true, true, true, true, true, true, true, true, true, false, false] rfl rfl (one_of HT_.out (by kernel_rfl)) (by decide) (fun K hK => ?_)
            have hcv12 := own_string (P := Tryz.prog) Tryz.underlying26 Tryz.underlying5 Tryz.underlying9 (Kd.own_of_R HO182.out)
            refine value_ (w1 := ?_) (v := ?_) (by rfl) rfl ?_ ?_
            rotate_left 2
            · go_simp
              constructor
              · rfl
              · rfl
            clear hcv12
            refine hK.out _ _ trivial (fun hHeld => ?_)
            clear hK K
            refine norm_ (a' := ?_) ?_ ?_
            rotate_left
            · show Act.put _ (some 18) _ = _
              simp only [Act.put, List.setIfInBounds_toArray, List.set_cons_zero, List.set_cons_succ, i64_w, i32_w]
              rfl
            exact norm_ (by simp only [putAll, Act.put, List.setIfInBounds_toArray, List.set_cons_zero, List.set_cons_succ]) (hCont (v181) _ ⟨(by (with_reducible repeat (first | apply Kd.R_alloc | apply Kd.R_drewN | apply Kd.R_drew)); exact HO182.out), (by repeat (first | (with_reducible first | exact HB.out | apply below_alloc | apply pw_below_drewN | apply below_drew1) | exact HB.out))⟩)
          · skip
            have hcv11 := own_string (P := Tryz.prog) Tryz.underlying26 Tryz.underlying5 Tryz.underlying9 (Kd.own_of_R HO182.out)
            refine value_ (w1 := ?_) (v := ?_) (by rfl) rfl ?_ ?_
            rotate_left 2
            · go_simp
              constructor
              · rfl
              · rfl
            clear hcv11
            refine hK.out _ _ trivial (fun hHeld => ?_)
            clear hK K
            refine norm_ (a' := ?_) ?_ ?_
            rotate_left
            · show Act.put _ (some 18) _ = _
              simp only [Act.put, List.setIfInBounds_toArray, List.set_cons_zero, List.set_cons_succ, i64_w, i32_w]
              rfl
            refine one_ (i := 2) (N := some 12) #[true, true, true, true, true, true, true, true, true, false, false] rfl rfl (one_of HT_.out (by kernel_rfl)) (by decide) (fun K hK => ?_)
            refine goes_ Tryz.func55 (by kernel_rfl) rfl #[.int .u64 (IntKind.u64.wrap (Int.tdiv a0 10))] (by rfl) rfl rfl (by (try simp only [List.map_toArray, List.map_cons, List.map_nil]); first | done | rfl | (simp only [List.length_drop, List.length_take]; rfl)) ?_
            with_reducible refine (ih k (by omega) (IntKind.u64.wrap (Int.tdiv a0 10)) t179 _ A6.out).mono ?_
            rintro e w12 ⟨rfl, hb⟩
            refine ⟨_, rfl, ?_⟩
            have n0_ := Aside0.mk (Kd.R_below (by (with_reducible repeat (first | apply Kd.R_alloc | apply Kd.R_drewN | apply Kd.R_drew)); exact HO182.out) hb)
            have n1_ := Aside0.mk (below_step (by repeat (first | (with_reducible first | exact HB.out | apply below_alloc | apply pw_below_drewN | apply below_drew1) | exact HB.out)) hb)
            clear HO182
            clear HB
            have HO182 := n0_
            have HB := n1_
            clear n0_ n1_
            (try clear hb)
            (try clear hb2)
            (try clear hk)
            (try clear hi)
            refine hK.out _ _ trivial (fun hHeld => ?_)
            clear hK K
            refine norm_ (a' := ?_) ?_ ?_
            rotate_left
            · show Act.put _ (some 12) _ = _
              simp only [Act.put, List.setIfInBounds_toArray, List.set_cons_zero, List.set_cons_succ, i64_w, i32_w]
              rfl
            exact norm_ (by simp only [putAll, Act.put, List.setIfInBounds_toArray, List.set_cons_zero, List.set_cons_succ]) (hCont (v181) _ ⟨(by (with_reducible repeat (first | apply Kd.R_alloc | apply Kd.R_drewN | apply Kd.R_drew)); exact HO182.out), (by repeat (first | (with_reducible first | exact HB.out | apply below_alloc | apply pw_below_drewN | apply below_drew1) | exact HB.out))⟩)
      rintro v181 w13 ⟨h0_, h1_⟩
      have n0_ : Aside0 (Kd.R (Kd.int .u8) 5 w13 w.heap.size (fun _ => True) v181 y180) := ⟨h0_⟩
      have n1_ : Aside0 (Below w.heap.size w w13) := ⟨h1_⟩
      clear HB
      clear h0_ h1_
      have HO182 := n0_
      have HB := n1_
      clear n0_ n1_
      have hHeld := trivial
      refine norm_ (a' := ?_) ?_ ?_
      rotate_left
      · simp only [putAll, Act.put, List.setIfInBounds_toArray, List.set_cons_zero, List.set_cons_succ]
        rfl
      refine pure_ (i := 9) (N := some 19) (v := ?_) (a' := ?_) #[true, true, true, true, true, true, true, true, true, true, false] rfl rfl (any_of HT_.out (by kernel_rfl)) (fun _ _ _ h => h) (Or.inl ⟨by rfl, ?_⟩) ?_ ?_
      rotate_left
      · intro w'
        go_simp
        with_reducible rfl
      rotate_left
      · simp only [Act.put, List.setIfInBounds_toArray, List.set_cons_zero, List.set_cons_succ, i64_w, i32_w]
        rfl
      refine pure_ (i := 10) (N := some 2) (v := ?_) (a' := ?_) #[true, true, true, true, true, true, true, true, true, true, true] rfl rfl (any_of HT_.out (by kernel_rfl)) (fun _ _ _ h => h) (Or.inl ⟨by rfl, ?_⟩) ?_ ?_
      rotate_left
      · intro w'
        go_simp
        with_reducible rfl
      rotate_left
      · simp only [Act.put, List.setIfInBounds_toArray, List.set_cons_zero, List.set_cons_succ, i64_w, i32_w]
        rfl
      refine done_ (done_of HT_.out (by kernel_rfl)) ?_
      try go_wp2
      go_ret
      exact ⟨by first | rfl | (simp [errW_none, errW_some] <;> rfl) | (simp [*, errW_none, errW_some] <;> rfl), by repeat (first | (with_reducible first | exact HB.out | apply below_alloc | apply pw_below_drewN | apply below_drew1) | exact HB.out)⟩
    · rw [if_neg c7] at H
      exact absurd H (by simp)

/-! ### bulletinref01_Digits: function 33 -/
def bulletinref01_Digits.f (k : Nat) (a0 : Int) : Option (ByteArray) := if a0 < 0 then ((bulletinref01_plain.f k (IntKind.u64.wrap ((IntKind.u64.wrap (wrap64 (-(wrap64 (a0 + 1))))) + 1))).bind fun t183 => (if 1 + t183.size ≤ 9223372036854775807 then (some ((⟨#[45]⟩ : ByteArray) ++ t183)) else (none))) else ((bulletinref01_plain.f k (IntKind.u64.wrap (a0))).bind fun t184 => (some t184))
set_option maxHeartbeats 8000000 in
set_option maxRecDepth 100000 in
theorem bulletinref01_Digits.calls (k : Nat) (a0 : Int) (r : ByteArray) (w : World) (h : bulletinref01_Digits.f k a0 = some r) :
    Calls Tryz.prog 33 #[.int .i64 a0] w fun e w' => e = .returned (.string r) ∧ Below w.heap.size w w' := by
  have HB := Aside0.mk (Below.refl w.heap.size w)
  have H : (if a0 < 0 then ((bulletinref01_plain.f k (IntKind.u64.wrap ((IntKind.u64.wrap (wrap64 (-(wrap64 (a0 + 1))))) + 1))).bind fun t183 => (if 1 + t183.size ≤ 9223372036854775807 then (some ((⟨#[45]⟩ : ByteArray) ++ t183)) else (none))) else ((bulletinref01_plain.f k (IntKind.u64.wrap (a0))).bind fun t184 => (some t184))) = some r := h
  clear h
  by_cases c2 : a0 < 0
  · rw [if_pos c2] at H
    have c2b0 : decide (a0 < 0) = true := decide_eq_true c2
    clear c2
    replace H := Option.bind_eq_some_iff.mp H
    obtain ⟨t183, A30, H⟩ := H
    replace H : (if 1 + t183.size ≤ 9223372036854775807 then (some ((⟨#[45]⟩ : ByteArray) ++ t183)) else (none)) = some r := H
    have A3 := Aside0.mk A30
    clear A30
    by_cases c4 : 1 + t183.size ≤ 9223372036854775807
    · rw [if_pos c4] at H
      have c4b0 := eq_true c4
      have c4b1 : decide (1 + t183.size ≤ 9223372036854775807) = true := decide_eq_true c4
      try have c4b2 : (9223372036854775807 < 1 + t183.size) = False := eq_false (Nat.not_lt.2 c4)
      obtain rfl := Option.some.inj H
      go_enter Tryz.func33, Tryz.ntmps33
      go_wp2_with (first | ((with_reducible refine gate_callee (f := 55) rfl ?_); refine goesL_ (some 10) rfl rfl Tryz.func55 (by kernel_rfl) rfl #[.int .u64 (IntKind.u64.wrap ((IntKind.u64.wrap (wrap64 (-(wrap64 (a0 + 1))))) + 1))] rfl (by (try simp only [List.map_toArray, List.map_cons, List.map_nil]); first | done | rfl | (simp only [List.length_drop, List.length_take]; rfl)) ?_; (with_reducible refine (bulletinref01_plain.calls k (IntKind.u64.wrap ((IntKind.u64.wrap (wrap64 (-(wrap64 (a0 + 1))))) + 1)) t183 _ A3.out).mono ?_); rintro e w5 ⟨rfl, hb⟩; refine ⟨_, rfl, ?_⟩; have n0_ := Aside0.mk (below_step (by repeat (first | (with_reducible first | exact HB.out | apply below_alloc | apply pw_below_drewN | apply below_drew1) | exact HB.out)) hb); clear HB; have HB := n0_; clear n0_; (try clear hb); (try clear hb2); (try clear hk); (try clear hi)))
      go_ret
      exact ⟨by first | rfl | (simp [errW_none, errW_some] <;> rfl) | (simp [*, errW_none, errW_some] <;> rfl), by repeat (first | (with_reducible first | exact HB.out | apply below_alloc | apply pw_below_drewN | apply below_drew1) | exact HB.out)⟩
    · rw [if_neg c4] at H
      exact absurd H (by simp)
  · rw [if_neg c2] at H
    have c2b0 : decide (a0 < 0) = false := decide_eq_false c2
    clear c2
    replace H := Option.bind_eq_some_iff.mp H
    obtain ⟨t184, A60, H⟩ := H
    replace H : (some t184) = some r := H
    have A6 := Aside0.mk A60
    clear A60
    obtain rfl := Option.some.inj H
    go_enter Tryz.func33, Tryz.ntmps33
    go_wp2_with (first | ((with_reducible refine gate_callee (f := 55) rfl ?_); refine goesL_ (some 14) rfl rfl Tryz.func55 (by kernel_rfl) rfl #[.int .u64 (IntKind.u64.wrap (a0))] rfl (by (try simp only [List.map_toArray, List.map_cons, List.map_nil]); first | done | rfl | (simp only [List.length_drop, List.length_take]; rfl)) ?_; (with_reducible refine (bulletinref01_plain.calls k (IntKind.u64.wrap (a0)) t184 _ A6.out).mono ?_); rintro e w7 ⟨rfl, hb⟩; refine ⟨_, rfl, ?_⟩; have n0_ := Aside0.mk (below_step (by repeat (first | (with_reducible first | exact HB.out | apply below_alloc | apply pw_below_drewN | apply below_drew1) | exact HB.out)) hb); clear HB; have HB := n0_; clear n0_; (try clear hb); (try clear hb2); (try clear hk); (try clear hi)))
    go_ret
    exact ⟨by first | rfl | (simp [errW_none, errW_some] <;> rfl) | (simp [*, errW_none, errW_some] <;> rfl), by repeat (first | (with_reducible first | exact HB.out | apply below_alloc | apply pw_below_drewN | apply below_drew1) | exact HB.out)⟩


/-! ### bulletinref01_Hex: function 50 -/
def bulletinref01_Hex.l0 : Nat → List Int → List Int → Int → Option (ByteArray)
  | 0, _, _, _ => none
  | k + 1, x0, x3, x4 => if x4 < (x0.length : Int) then (if 0 ≤ x4 then (if 0 ≤ (IntKind.u8.wrap (Int.tdiv (rd x0 x4) 16)) then (if (IntKind.u8.wrap (Int.tdiv (rd x0 x4) 16)) < 16 then (if 0 ≤ (Int.tmod (rd x0 x4) 16) then (if (Int.tmod (rd x0 x4) 16) < 16 then ((some (([bt (⟨#[48, 49, 50, 51, 52, 53, 54, 55, 56, 57, 97, 98, 99, 100, 101, 102]⟩ : ByteArray) (IntKind.u8.wrap (Int.tdiv (rd x0 x4) 16)), bt (⟨#[48, 49, 50, 51, 52, 53, 54, 55, 56, 57, 97, 98, 99, 100, 101, 102]⟩ : ByteArray) (Int.tmod (rd x0 x4) 16)] : List Int) : List Int)).bind fun y202 => (if x3.length + y202.length < 140737488355328 then (bulletinref01_Hex.l0 k x0 (x3 ++ y202) (wrap64 (x4 + 1))) else (none))) else (none)) else (none)) else (none)) else (none)) else (none)) else (some (strOfNums x3))
def bulletinref01_Hex.f (k : Nat) (l0 : List Int) : Option (ByteArray) := bulletinref01_Hex.l0 k l0 ([] : List Int) 0
def bulletinref01_Hex.T5 : Bool × List (List Nat × List Nat) := (true, [([], []), ([], []), ([], []), ([1, 2], [1, 2]), ([3], [3]), ([4], [4]), ([5], [5]), ([], []), ([], []), ([7, 8], [7, 8]), ([9], [9]), ([10], [10]), ([11], [11]), ([6, 12], [6, 12]), ([0, 13], [0, 13]), ([14, 14, 0, 1, 2, 3, 4, 5, 6, 7, 8, 9, 10, 11, 12, 13, 14], [0, 14])])
def bulletinref01_Hex.B5 : List Nat := [0, 0, 0, 6, 14, 30, 62, 0, 0, 384, 896, 1920, 3968, 8190, 16383, 32767]
theorem bulletinref01_Hex.tab5 : rtab .any (opsOf Tryz.f50 5) = bulletinref01_Hex.T5 := by kernel_rfl
theorem bulletinref01_Hex.bits5 : waitsOk bulletinref01_Hex.T5.2 bulletinref01_Hex.B5 = true := by kernel_rfl
set_option maxHeartbeats 8000000 in
set_option maxRecDepth 100000 in
theorem bulletinref01_Hex.calls (k : Nat) (A0 : Option Addr) (c0 : Nat) (l0 : List Int) (r : ByteArray) (w : World) (hr0 : Kd.C (Kd.int .u8) w A0 l0.length l0) (hc0 : l0.length ≤ c0) (h : bulletinref01_Hex.f k l0 = some r) :
    Calls Tryz.prog 50 #[.slice A0 l0.length c0] w fun e w' => e = .returned (.string r) ∧ Below w.heap.size w w' := by
  have HR0 := Aside0.mk hr0
  have HC0 := Aside0.mk hc0
  clear hr0 hc0
  have HB := Aside0.mk (Below.refl w.heap.size w)
  have H : (bulletinref01_Hex.l0 k l0 ([] : List Int) 0) = some r := h
  clear h
  have H' := Aside0.mk H
  clear H
  go_enter Tryz.func50, Tryz.ntmps50
  go_wp2
  go_loopg [3, 4] k (fun kq v3 v4 w' => ∃ (x3_1 : List Int) (x4_1 : Int), v4 = .int .i64 x4_1 ∧ Aside0 (bulletinref01_Hex.l0 kq l0 x3_1 x4_1 = some r) ∧ Aside0 (kq ≤ k) ∧ Aside0 (Kd.R (Kd.int .u8) 5 w' w.heap.size (fun _ => True) v3 x3_1) ∧ Aside0 (Below w.heap.size w w'))
  case atStart => exact ⟨(([] : List Int)), (0), (by first | rfl | (simp; done) | (simp [*]; done)), H', ⟨Nat.le_refl _⟩, ⟨by first | exact Kd.R_nil _ _ _ _ _ | exact Kd.N_nil _ _ _ _ _ | exact Kd.V_nil _ _ _ _ _ | exact Kd.Q_nil _ _ _ _ _ | exact Kd.S_nil _ _ _ _ _⟩, ⟨by repeat (first | (with_reducible first | exact HB.out | apply below_alloc | apply pw_below_drewN | apply below_drew1) | exact HB.out)⟩⟩
  case round =>
    clear H'
    obtain ⟨x3_1, x4_1, rfl, HA, HK1, HO_3, HB⟩ := hrel
    cases gk with
    | zero => exact absurd HA.out (by simp [bulletinref01_Hex.l0])
    | succ k1 =>
      have H := HA.out
      clear HA
      simp only [bulletinref01_Hex.l0] at H
      by_cases c2 : x4_1 < (l0.length : Int)
      · rw [if_pos c2] at H
        have c2b0 : decide (x4_1 < (l0.length : Int)) = true := decide_eq_true c2
        clear c2
        by_cases c3 : 0 ≤ x4_1
        · rw [if_pos c3] at H
          have c3b0 : decide (0 ≤ x4_1) = true := decide_eq_true c3
          clear c3
          obtain ⟨ji4, hji4⟩ : ∃ j_ : Int, (IntKind.u8.wrap (Int.tdiv (rd l0 x4_1) 16)) = j_ := ⟨_, rfl⟩
          replace H : (if 0 ≤ (ji4) then (if (ji4) < 16 then (if 0 ≤ (Int.tmod (rd l0 x4_1) 16) then (if (Int.tmod (rd l0 x4_1) 16) < 16 then ((some (([bt (⟨#[48, 49, 50, 51, 52, 53, 54, 55, 56, 57, 97, 98, 99, 100, 101, 102]⟩ : ByteArray) (ji4), bt (⟨#[48, 49, 50, 51, 52, 53, 54, 55, 56, 57, 97, 98, 99, 100, 101, 102]⟩ : ByteArray) (Int.tmod (rd l0 x4_1) 16)] : List Int) : List Int)).bind fun y202 => (if x3_1.length + y202.length < 140737488355328 then (bulletinref01_Hex.l0 k1 l0 (x3_1 ++ y202) (wrap64 (x4_1 + 1))) else (none))) else (none)) else (none)) else (none)) else (none)) = some r := by first | (rw [hji4] at H; exact H) | (simp only [hji4] at H ⊢; exact H)
          by_cases c5 : 0 ≤ (ji4)
          · rw [if_pos c5] at H
            have c5b0 : decide (0 ≤ (ji4)) = true := decide_eq_true c5
            clear c5
            by_cases c6 : (ji4) < 16
            · rw [if_pos c6] at H
              have c6b0 : decide ((ji4) < 16) = true := decide_eq_true c6
              clear c6
              obtain ⟨ji8, hji8⟩ : ∃ j_ : Int, (Int.tmod (rd l0 x4_1) 16) = j_ := ⟨_, rfl⟩
              replace H : (if 0 ≤ (ji8) then (if (ji8) < 16 then ((some (([bt (⟨#[48, 49, 50, 51, 52, 53, 54, 55, 56, 57, 97, 98, 99, 100, 101, 102]⟩ : ByteArray) (ji4), bt (⟨#[48, 49, 50, 51, 52, 53, 54, 55, 56, 57, 97, 98, 99, 100, 101, 102]⟩ : ByteArray) (ji8)] : List Int) : List Int)).bind fun y202 => (if x3_1.length + y202.length < 140737488355328 then (bulletinref01_Hex.l0 k1 l0 (x3_1 ++ y202) (wrap64 (x4_1 + 1))) else (none))) else (none)) else (none)) = some r := by first | (rw [hji8] at H; exact H) | (simp only [hji8] at H ⊢; exact H)
              by_cases c9 : 0 ≤ (ji8)
              · rw [if_pos c9] at H
                have c9b0 : decide (0 ≤ (ji8)) = true := decide_eq_true c9
                clear c9
                by_cases c10 : (ji8) < 16
                · rw [if_pos c10] at H
                  have c10b0 : decide ((ji8) < 16) = true := decide_eq_true c10
                  clear c10
                  obtain ⟨y202, hy202⟩ : ∃ y_ : List Int, y_ = (([bt (⟨#[48, 49, 50, 51, 52, 53, 54, 55, 56, 57, 97, 98, 99, 100, 101, 102]⟩ : ByteArray) (ji4), bt (⟨#[48, 49, 50, 51, 52, 53, 54, 55, 56, 57, 97, 98, 99, 100, 101, 102]⟩ : ByteArray) (ji8)] : List Int)) := ⟨_, rfl⟩
                  replace H : (if x3_1.length + y202.length < 140737488355328 then (bulletinref01_Hex.l0 k1 l0 (x3_1 ++ y202) (wrap64 (x4_1 + 1))) else (none)) = some r := by first | (rw [hy202]; with_reducible exact H) | (have H2_ := (Option.bind_some _ _).symm.trans H; rw [hy202]; with_reducible exact H2_) | (have H2_ := (Option.bind_some _ _).symm.trans H; with_reducible exact H2_) | with_reducible exact H | (rw [hy202]; exact H) | exact H
                  have Ny202 := Aside0.mk hy202
                  clear hy202
                  by_cases c12 : x3_1.length + y202.length < 140737488355328
                  · rw [if_pos c12] at H
                    have LMc12 := Aside0.mk c12
                    clear c12
                    obtain ⟨y205, hy205⟩ : ∃ y_ : List Int, y_ = (x3_1 ++ y202) := ⟨_, rfl⟩
                    replace H : (bulletinref01_Hex.l0 k1 l0 y205 (wrap64 (x4_1 + 1))) = some r := by first | (rw [hy205]; with_reducible exact H) | (have H2_ := (Option.bind_some _ _).symm.trans H; rw [hy205]; with_reducible exact H2_) | (have H2_ := (Option.bind_some _ _).symm.trans H; with_reducible exact H2_) | with_reducible exact H | (rw [hy205]; exact H) | exact H
                    have Ny205 := Aside0.mk hy205
                    clear hy205
                    have H' := Aside0.mk H
                    clear H
                    try go_wp2
                    have n0_ := Aside0.mk (Kd.R_drew HO_3.out)
                    have n1_ := Aside0.mk (below_drew1 HB.out)
                    clear HO_3
                    clear HB
                    have HO_3 := n0_
                    have HB := n1_
                    clear n0_ n1_
                    have p200 : 0 ≤ (x4_1 : Int) := of_decide_eq_true (by first | (with_reducible assumption) | assumption)
                    have q200 : x4_1 < (l0.length : Int) := of_decide_eq_true (by first | (with_reducible assumption) | assumption)
                    obtain ⟨ad200, e200, hx200_0⟩ := Kd.at_int HR0.out x4_1 p200 q200
                    have hw200_0 := hx200_0
                    cases e200
                    replace hx200_0 := (HB.out.cell (World.block_lt_of_cell? w _ hx200_0)).trans hx200_0
                    replace p200 := eq_true p200
                    replace q200 := eq_true q200
                    have p7 : 0 ≤ ((ji4) : Int) := of_decide_eq_true (by first | (with_reducible assumption) | assumption)
                    have q7 : (ji4) < (16 : Int) := of_decide_eq_true (by first | (with_reducible assumption) | assumption)
                    have hx7 := bt_at (⟨#[48, 49, 50, 51, 52, 53, 54, 55, 56, 57, 97, 98, 99, 100, 101, 102]⟩ : ByteArray) (ji4)
                    replace p7 := eq_true p7
                    replace q7 := eq_true q7
                    have p201 : 0 ≤ (x4_1 : Int) := of_decide_eq_true (by first | (with_reducible assumption) | assumption)
                    have q201 : x4_1 < (l0.length : Int) := of_decide_eq_true (by first | (with_reducible assumption) | assumption)
                    obtain ⟨ad201, e201, hx201_0⟩ := Kd.at_int HR0.out x4_1 p201 q201
                    have hw201_0 := hx201_0
                    obtain rfl : ad200 = ad201 := (by injection e201)
                    replace hx201_0 := (HB.out.cell (World.block_lt_of_cell? w _ hx201_0)).trans hx201_0
                    replace p201 := eq_true p201
                    replace q201 := eq_true q201
                    have p11 : 0 ≤ ((ji8) : Int) := of_decide_eq_true (by first | (with_reducible assumption) | assumption)
                    have q11 : (ji8) < (16 : Int) := of_decide_eq_true (by first | (with_reducible assumption) | assumption)
                    have hx11 := bt_at (⟨#[48, 49, 50, 51, 52, 53, 54, 55, 56, 57, 97, 98, 99, 100, 101, 102]⟩ : ByteArray) (ji8)
                    replace p11 := eq_true p11
                    replace q11 := eq_true q11
                    refine start_ (n := 16) (S := fun w' => w'.cell? (ad200.add (x4_1).toNat) = some (.int .u8 (rd l0 x4_1)) ∧ w'.cell? (ad200.add (x4_1).toNat) = some (.int .u8 (rd l0 x4_1))) (ds := []) #[false, false, false, false, false, false, false, false, false, false, false, false, false, false, false, false] (by kernel_rfl) rfl rfl ⟨((HB.out.cell (World.block_lt_of_cell? w _ hw200_0)).trans hw200_0), ((HB.out.cell (World.block_lt_of_cell? w _ hw201_0)).trans hw201_0)⟩ (fun hHeld => ?_); refine with_tabW bulletinref01_Hex.tab5 bulletinref01_Hex.bits5 (fun HT_ HW_ => ?_)
                    generalize wr.drew = w13 at HO_3 HB hx200_0 hx201_0 hHeld ⊢
                    refine pure_ (i := 0) (N := some 11) (v := ?_) (a' := ?_) #[true, false, false, false, false, false, false, false, false, false, false, false, false, false, false, false] rfl rfl (any_of HT_.out (by kernel_rfl)) (fun _ _ _ h => h) (Or.inl ⟨by rfl, ?_⟩) ?_ ?_
                    rotate_left
                    · intro w'
                      go_simp
                      with_reducible rfl
                    rotate_left
                    · simp only [Act.put, List.setIfInBounds_toArray, List.set_cons_zero, List.set_cons_succ, i64_w, i32_w]
                      rfl
                    refine pure_ (i := 1) (N := some 12) (v := ?_) (a' := ?_) #[true, true, false, false, false, false, false, false, false, false, false, false, false, false, false, false] rfl rfl (any_of HT_.out (by kernel_rfl)) (fun _ _ _ h => h) (Or.inl ⟨by rfl, ?_⟩) ?_ ?_
                    rotate_left
                    · intro w'
                      go_simp
                      with_reducible rfl
                    rotate_left
                    · simp only [Act.put, List.setIfInBounds_toArray, List.set_cons_zero, List.set_cons_succ, i64_w, i32_w]
                      rfl
                    refine pure_ (i := 2) (N := some 13) (v := ?_) (a' := ?_) #[true, true, true, false, false, false, false, false, false, false, false, false, false, false, false, false] rfl rfl (any_of HT_.out (by kernel_rfl)) (fun _ _ _ h => h) (Or.inl ⟨by rfl, ?_⟩) ?_ ?_
                    rotate_left
                    · intro w'
                      go_simp
                      with_reducible rfl
                    rotate_left
                    · simp only [Act.put, List.setIfInBounds_toArray, List.set_cons_zero, List.set_cons_succ, i64_w, i32_w]
                      rfl
                    refine pure_ (i := 3) (N := some 14) (v := ?_) (a' := ?_) #[true, true, true, true, false, false, false, false, false, false, false, false, false, false, false, false] rfl rfl (any_of HT_.out (by kernel_rfl)) (fun _ _ _ h => h) (Or.inl ⟨by rfl, ?_⟩) ?_ ?_
                    rotate_left
                    · intro w'
                      go_simp
                      with_reducible rfl
                    rotate_left
                    · simp only [Act.put, List.setIfInBounds_toArray, List.set_cons_zero, List.set_cons_succ, i64_w, i32_w]
                      rfl
                    refine pure_ (i := 7) (N := some 18) (v := ?_) (a' := ?_) #[true, true, true, true, false, false, false, true, false, false, false, false, false, false, false, false] rfl rfl (any_of HT_.out (by kernel_rfl)) (fun _ _ _ h => h) (Or.inl ⟨by rfl, ?_⟩) ?_ ?_
                    rotate_left
                    · intro w'
                      go_simp
                      with_reducible rfl
                    rotate_left
                    · simp only [Act.put, List.setIfInBounds_toArray, List.set_cons_zero, List.set_cons_succ, i64_w, i32_w]
                      rfl
                    refine pure_ (i := 8) (N := some 19) (v := ?_) (a' := ?_) #[true, true, true, true, false, false, false, true, true, false, false, false, false, false, false, false] rfl rfl (any_of HT_.out (by kernel_rfl)) (fun _ _ _ h => h) (Or.inl ⟨by rfl, ?_⟩) ?_ ?_
                    rotate_left
                    · intro w'
                      go_simp
                      with_reducible rfl
                    rotate_left
                    · simp only [Act.put, List.setIfInBounds_toArray, List.set_cons_zero, List.set_cons_succ, i64_w, i32_w]
                      rfl
                    refine pure_ (i := 9) (N := some 20) (v := ?_) (a' := ?_) #[true, true, true, true, false, false, false, true, true, true, false, false, false, false, false, false] rfl rfl (any_of HT_.out (by kernel_rfl)) (fun _ _ _ h => h) (Or.inl ⟨by rfl, ?_⟩) ?_ ?_
                    rotate_left
                    · intro w'
                      go_simp
                      with_reducible rfl
                    rotate_left
                    · simp only [Act.put, List.setIfInBounds_toArray, List.set_cons_zero, List.set_cons_succ, i64_w, i32_w]
                      rfl
                    refine take_ (i := 4) (N := some 15) (v := ?_) (a' := ?_) #[true, true, true, true, true, false, false, true, true, true, false, false, false, false, false, false] rfl rfl (take_ofW HT_.out HW_.out (by kernel_rfl)) (fun _ _ _ h => h) (Or.inl ⟨by rfl, ?_⟩) hHeld ?_ ?_
                    rotate_left
                    · rintro w' ⟨s0, s1⟩
                      go_simp
                      with_reducible rfl
                    rotate_left
                    · simp only [Act.put, List.setIfInBounds_toArray, List.set_cons_zero, List.set_cons_succ, i64_w, i32_w]
                      rfl
                    refine pure_ (i := 5) (N := some 16) (v := ?_) (a' := ?_) #[true, true, true, true, true, true, false, true, true, true, false, false, false, false, false, false] rfl rfl (any_of HT_.out (by kernel_rfl)) (fun _ _ _ h => h) (Or.inl ⟨by rfl, ?_⟩) ?_ ?_
                    rotate_left
                    · intro w'
                      go_simp
                      with_reducible rfl
                    rotate_left
                    · simp only [Act.put, List.setIfInBounds_toArray, List.set_cons_zero, List.set_cons_succ, i64_w, i32_w]
                      rfl
                    refine take_ (i := 6) (N := some 17) (v := ?_) (a' := ?_) #[true, true, true, true, true, true, true, true, true, true, false, false, false, false, false, false] rfl rfl (take_ofW HT_.out HW_.out (by kernel_rfl)) (fun _ _ _ h => h) (Or.inl ⟨by rfl, ?_⟩) hHeld ?_ ?_
                    rotate_left
                    · rintro w' ⟨s0, s1⟩
                      go_simp
                      with_reducible rfl
                    rotate_left
                    · simp only [Act.put, List.setIfInBounds_toArray, List.set_cons_zero, List.set_cons_succ, i64_w, i32_w]
                      rfl
                    refine take_ (i := 10) (N := some 21) (v := ?_) (a' := ?_) #[true, true, true, true, true, true, true, true, true, true, true, false, false, false, false, false] rfl rfl (take_ofW HT_.out HW_.out (by kernel_rfl)) (fun _ _ _ h => h) (Or.inl ⟨by rfl, ?_⟩) hHeld ?_ ?_
                    rotate_left
                    · rintro w' ⟨s0, s1⟩
                      go_simp
                      with_reducible rfl
                    rotate_left
                    · simp only [Act.put, List.setIfInBounds_toArray, List.set_cons_zero, List.set_cons_succ, i64_w, i32_w]
                      rfl
                    refine pure_ (i := 11) (N := some 22) (v := ?_) (a' := ?_) #[true, true, true, true, true, true, true, true, true, true, true, true, false, false, false, false] rfl rfl (any_of HT_.out (by kernel_rfl)) (fun _ _ _ h => h) (Or.inl ⟨by rfl, ?_⟩) ?_ ?_
                    rotate_left
                    · intro w'
                      go_simp
                      with_reducible rfl
                    rotate_left
                    · simp only [Act.put, List.setIfInBounds_toArray, List.set_cons_zero, List.set_cons_succ, i64_w, i32_w]
                      rfl
                    refine take_ (i := 12) (N := some 23) (v := ?_) (a' := ?_) #[true, true, true, true, true, true, true, true, true, true, true, true, true, false, false, false] rfl rfl (take_ofW HT_.out HW_.out (by kernel_rfl)) (fun _ _ _ h => h) (Or.inl ⟨by rfl, ?_⟩) hHeld ?_ ?_
                    rotate_left
                    · rintro w' ⟨s0, s1⟩
                      go_simp
                      with_reducible rfl
                    rotate_left
                    · simp only [Act.put, List.setIfInBounds_toArray, List.set_cons_zero, List.set_cons_succ, i64_w, i32_w]
                      rfl
                    refine one_ (i := 13) (N := some 24) #[true, true, true, true, true, true, true, true, true, true, true, true, true, true, false, false] rfl rfl (one_of HT_.out (by kernel_rfl)) (by decide) (fun K hK => ?_)
                    refine Kd.R_lit_step (Kd.int .u8) _ 5 ?hg (N := 24) ?hd (xs := ([bt (⟨#[48, 49, 50, 51, 52, 53, 54, 55, 56, 57, 97, 98, 99, 100, 101, 102]⟩ : ByteArray) (ji4), bt (⟨#[48, 49, 50, 51, 52, 53, 54, 55, 56, 57, 97, 98, 99, 100, 101, 102]⟩ : ByteArray) (ji8)] : List Int)) (inner := [.int .u8 (bt (⟨#[48, 49, 50, 51, 52, 53, 54, 55, 56, 57, 97, 98, 99, 100, 101, 102]⟩ : ByteArray) (ji4)), .int .u8 (bt (⟨#[48, 49, 50, 51, 52, 53, 54, 55, 56, 57, 97, 98, 99, 100, 101, 102]⟩ : ByteArray) (ji8))]) (ok := fun _ => True) (okp := fun _ => True) ?hr ?hp (fun _ hk => hk) trivial (Below.refl _ _) (Nat.le_refl _) (by simp) ?_; (case hd => rfl); (case hg => rfl); (case hr => first | (go_simp; done) | (go_simp; rfl)); (case hp => exact (Reps.one (show Kd.M (Kd.int .u8) _ _ _ (bt (⟨#[48, 49, 50, 51, 52, 53, 54, 55, 56, 57, 97, 98, 99, 100, 101, 102]⟩ : ByteArray) (ji4)) [.int .u8 (bt (⟨#[48, 49, 50, 51, 52, 53, 54, 55, 56, 57, 97, 98, 99, 100, 101, 102]⟩ : ByteArray) (ji4))] from rfl) (Reps.one (show Kd.M (Kd.int .u8) _ _ _ (bt (⟨#[48, 49, 50, 51, 52, 53, 54, 55, 56, 57, 97, 98, 99, 100, 101, 102]⟩ : ByteArray) (ji8)) [.int .u8 (bt (⟨#[48, 49, 50, 51, 52, 53, 54, 55, 56, 57, 97, 98, 99, 100, 101, 102]⟩ : ByteArray) (ji8))] from rfl) (Reps.none _ _))))
                    intro v203 w14 ho15 hb hg_ hnew_
                    clear hg_ hnew_
                    (first | rw [← Ny202.out] at ho15 | (simp only [Int.reduceToNat] at ho15; rw [← Ny202.out] at ho15))
                    have n0_ := Aside0.mk (Kd.R_elder' (by (with_reducible repeat (first | apply Kd.R_alloc | apply Kd.R_drewN | apply Kd.R_drew)); exact HO_3.out) (Kd.R_base ho15) hb)
                    have n1_ := Aside0.mk (Kd.R_lower (Kd.R_new' ho15 (Kd.R_lt (by (with_reducible repeat (first | apply Kd.R_alloc | apply Kd.R_drewN | apply Kd.R_drew)); exact HO_3.out))) (below_size (by repeat (first | (with_reducible first | exact HB.out | apply below_alloc | apply pw_below_drewN | apply below_drew1) | exact HB.out))))
                    have n2_ := Aside0.mk (below_step (by repeat (first | (with_reducible first | exact HB.out | apply below_alloc | apply pw_below_drewN | apply below_drew1) | exact HB.out)) hb)
                    clear HO_3
                    clear HB
                    have HO_3 := n0_
                    have HO204 := n1_
                    have HB := n2_
                    clear n0_ n1_ n2_
                    clear hb ho15
                    obtain ⟨Ao17, co17, eo17⟩ := Kd.R_slice HO204.out
                    (first | subst eo17 | (injection eo17 with f1_ f2_ f3_; have f4_ := f1_.symm; have f5_ := f3_.symm; clear f1_ f2_ f3_; subst f4_; subst f5_))
                    refine hK.out _ _ ⟨((HB.out.cell (World.block_lt_of_cell? w _ hw200_0)).trans hw200_0), ((HB.out.cell (World.block_lt_of_cell? w _ hw201_0)).trans hw201_0)⟩ (fun hHeld => ?_)
                    clear hK K
                    refine norm_ (a' := ?_) ?_ ?_
                    rotate_left
                    · show Act.put _ (some 24) _ = _
                      simp only [Act.put, List.setIfInBounds_toArray, List.set_cons_zero, List.set_cons_succ, i64_w, i32_w]
                      rfl
                    refine one_ (i := 14) (N := some 25) #[true, true, true, true, true, true, true, true, true, true, true, true, true, true, true, false] rfl rfl (one_of HT_.out (by kernel_rfl)) (by decide) (fun K hK => ?_)
                    refine Kd.R_append_rows_step (Kd.int .u8) (w0 := w) w.heap.size (by rfl) (.tmp 11) (.tmp 24) 26 5 (.int .u8 0) 1 rfl Tryz.underlying26 info5 rfl (by decide) (by omega) u3 x3_1 y202 _ _ _ (fun k_ => some k_ ≠ (.slice Ao17 y202.length co17 : Value).ownBlock) (fun _ => False) rfl rfl ?aO ?aR (fun _ _ h => h) (fun _ h => h.elim) ?aF ?aB ?aS ?aL ?_
                    (case aR => repeat (first | exact (Kd.R_reads' HO204.out).2.2 | (with_reducible refine Kd.C_alloc ?_ _) | (with_reducible refine Kd.C_drewN ?_ _) | (with_reducible refine Kd.C_drew ?_)))
                    (case aB => exact (by repeat (first | (with_reducible first | exact HB.out | apply below_alloc | apply pw_below_drewN | apply below_drew1) | exact HB.out)))
                    (case aF => exact (fun k_ hk => Kd.fresh' (Kd.R_lt (by (with_reducible repeat (first | apply Kd.R_alloc | apply Kd.R_drewN | apply Kd.R_drew)); exact HO204.out)) k_ hk))
                    (case aO => exact (by (with_reducible repeat (first | apply Kd.R_alloc | apply Kd.R_drewN | apply Kd.R_drew)); exact Kd.R_mono HO_3.out (fun _ hk => hk.2)))
                    (case aS => exact (below_size (by repeat (first | (with_reducible first | exact HB.out | apply below_alloc | apply pw_below_drewN | apply below_drew1) | exact HB.out))))
                    (case aL => have := LMc12.out; omega)
                    intro v206 w16 ho hb hg hat
                    rw [← Ny205.out] at ho
                    have n0_ := Aside0.mk (Kd.R_after (ok := (fun _ => True)) (by (with_reducible repeat (first | apply Kd.R_alloc | apply Kd.R_drewN | apply Kd.R_drew)); exact HO204.out) hg hat)
                    have n1_ := Aside0.mk (hb)
                    have n2_ := Aside0.mk (ho)
                    clear HO204
                    clear HB
                    clear HO_3
                    have HO204 := n0_
                    have HB := n1_
                    have HO207 := n2_
                    clear n0_ n1_ n2_
                    clear ho hb hg hat
                    refine hK.out _ _ ⟨((HB.out.cell (World.block_lt_of_cell? w _ hw200_0)).trans hw200_0), ((HB.out.cell (World.block_lt_of_cell? w _ hw201_0)).trans hw201_0)⟩ (fun hHeld => ?_)
                    clear hK K
                    refine norm_ (a' := ?_) ?_ ?_
                    rotate_left
                    · show Act.put _ (some 25) _ = _
                      simp only [Act.put, List.setIfInBounds_toArray, List.set_cons_zero, List.set_cons_succ, i64_w, i32_w]
                      rfl
                    refine pure_ (i := 15) (N := some 3) (v := ?_) (a' := ?_) #[true, true, true, true, true, true, true, true, true, true, true, true, true, true, true, true] rfl rfl (any_of HT_.out (by kernel_rfl)) (fun _ _ _ h => h) (Or.inl ⟨by rfl, ?_⟩) ?_ ?_
                    rotate_left
                    · intro w'
                      go_simp
                      with_reducible rfl
                    rotate_left
                    · simp only [Act.put, List.setIfInBounds_toArray, List.set_cons_zero, List.set_cons_succ, i64_w, i32_w]
                      rfl
                    refine done_ (done_of HT_.out (by kernel_rfl)) ?_
                    try go_wp2
                    go_roundg k1
                    case measure => have := HK1.out; omega
                    case rel => exact ⟨(y205), (wrap64 (x4_1 + 1)), (by first | rfl | (simp; done) | (simp [*]; done)), H', ⟨by have := HK1.out; omega⟩, ⟨by (with_reducible repeat (first | apply Kd.R_alloc | apply Kd.R_drewN | apply Kd.R_drew)); exact Kd.R_mono HO207.out (fun _ hk => trivial)⟩, ⟨by repeat (first | (with_reducible first | exact HB.out | apply below_alloc | apply pw_below_drewN | apply below_drew1) | exact HB.out)⟩⟩
                  · rw [if_neg c12] at H
                    exact absurd H (by simp)
                · rw [if_neg c10] at H
                  exact absurd H (by simp)
              · rw [if_neg c9] at H
                exact absurd H (by simp)
            · rw [if_neg c6] at H
              exact absurd H (by simp)
          · rw [if_neg c5] at H
            exact absurd H (by simp)
        · rw [if_neg c3] at H
          exact absurd H (by simp)
      · rw [if_neg c2] at H
        have c2b0 : decide (x4_1 < (l0.length : Int)) = false := decide_eq_false c2
        clear c2
        obtain rfl := Option.some.inj H
        have hcv18 := own_string (P := Tryz.prog) Tryz.underlying26 Tryz.underlying5 Tryz.underlying9 (Kd.own_of_R HO_3.out)
        go_wp2
        go_ret
        exact ⟨by first | rfl | (simp [errW_none, errW_some] <;> rfl) | (simp [*, errW_none, errW_some] <;> rfl), by repeat (first | (with_reducible first | exact HB.out | apply below_alloc | apply pw_below_drewN | apply below_drew1) | exact HB.out)⟩


/-! ### bulletinref01_Digit: function 102 -/
def bulletinref01_Digit.f (a0 : Int) : Option (Bool) := if a0 ≥ 48 then (some (decide (a0 ≤ 57))) else (some false)
set_option maxHeartbeats 8000000 in
set_option maxRecDepth 100000 in
theorem bulletinref01_Digit.calls (a0 : Int) (r : Bool) (w : World) (h : bulletinref01_Digit.f a0 = some r) :
    Calls Tryz.prog 102 #[.int .u8 a0] w fun e w' => e = .returned (.bool r) ∧ Drawn0 w w' := by
  have H : (if a0 ≥ 48 then (some (decide (a0 ≤ 57))) else (some false)) = some r := h
  clear h
  by_cases c2 : a0 ≥ 48
  · rw [if_pos c2] at H
    have c2b0 : decide (48 ≤ a0) = true := decide_eq_true c2
    clear c2
    obtain rfl := Option.some.inj H
    go_enter Tryz.func102, Tryz.ntmps102
    go_wp2
    go_ret
    exact ⟨by first | rfl | (simp; done) | (simp [*]; done), by repeat (first | exact Drawn0.refl _ | apply Drawn0.step)⟩
  · rw [if_neg c2] at H
    have c2b0 : decide (48 ≤ a0) = false := decide_eq_false c2
    clear c2
    obtain rfl := Option.some.inj H
    go_enter Tryz.func102, Tryz.ntmps102
    go_wp2
    go_ret
    exact ⟨by first | rfl | (simp; done) | (simp [*]; done), by repeat (first | exact Drawn0.refl _ | apply Drawn0.step)⟩

/-! ### bulletinref01_nibble: function 87 -/
def bulletinref01_nibble.f (a0 : Int) : Option (Int) := (bulletinref01_Digit.f a0).bind fun t208 => (if t208 = true then (some (wrap64 ((wrap64 (a0)) - 48))) else (if a0 ≥ 97 then (if a0 ≤ 102 then (some (wrap64 ((wrap64 (a0)) - 87))) else (some (-1))) else (some (-1))))
set_option maxHeartbeats 8000000 in
set_option maxRecDepth 100000 in
theorem bulletinref01_nibble.calls (a0 : Int) (r : Int) (w : World) (h : bulletinref01_nibble.f a0 = some r) :
    Calls Tryz.prog 87 #[.int .u8 a0] w fun e w' => e = .returned (.int .i64 r) ∧ Drawn0 w w' := by
  have H : ((bulletinref01_Digit.f a0).bind fun t208 => (if t208 = true then (some (wrap64 ((wrap64 (a0)) - 48))) else (if a0 ≥ 97 then (if a0 ≤ 102 then (some (wrap64 ((wrap64 (a0)) - 87))) else (some (-1))) else (some (-1))))) = some r := h
  clear h
  replace H := Option.bind_eq_some_iff.mp H
  obtain ⟨t208, A20, H⟩ := H
  replace H : (if t208 = true then (some (wrap64 ((wrap64 (a0)) - 48))) else (if a0 ≥ 97 then (if a0 ≤ 102 then (some (wrap64 ((wrap64 (a0)) - 87))) else (some (-1))) else (some (-1)))) = some r := H
  have A2 := Aside0.mk A20
  clear A20
  by_cases c3 : t208 = true
  · subst c3
    have H1 : (some (wrap64 ((wrap64 (a0)) - 48))) = some r := by rw [if_pos rfl] at H; exact H
    clear H
    have H := H1
    clear H1
    obtain rfl := Option.some.inj H
    go_enter Tryz.func87, Tryz.ntmps87
    go_wp2_with (first | ((with_reducible refine gate_callee (f := 102) rfl ?_); refine goesL_ (some 4) rfl rfl Tryz.func102 (by kernel_rfl) rfl #[.int .u8 a0] rfl (by (try simp only [List.map_toArray, List.map_cons, List.map_nil]); first | done | rfl | (simp only [List.length_drop, List.length_take]; rfl)) ?_; (with_reducible refine (bulletinref01_Digit.calls a0 true _ A2.out).mono ?_); rintro e w' ⟨rfl, ⟨nd, rfl⟩⟩; refine ⟨_, rfl, ?_⟩))
    go_ret
    exact ⟨by first | rfl | (simp; done) | (simp [*]; done), by repeat (first | exact Drawn0.refl _ | apply Drawn0.step)⟩
  · replace c3 := Bool.eq_false_iff.mpr c3
    subst c3
    have H1 : (if a0 ≥ 97 then (if a0 ≤ 102 then (some (wrap64 ((wrap64 (a0)) - 87))) else (some (-1))) else (some (-1))) = some r := by rw [if_neg (show ¬ (false = true) by decide)] at H; exact H
    clear H
    have H := H1
    clear H1
    by_cases c4 : a0 ≥ 97
    · rw [if_pos c4] at H
      have c4b0 : decide (97 ≤ a0) = true := decide_eq_true c4
      clear c4
      by_cases c5 : a0 ≤ 102
      · rw [if_pos c5] at H
        have c5b0 : decide (a0 ≤ 102) = true := decide_eq_true c5
        clear c5
        obtain rfl := Option.some.inj H
        go_enter Tryz.func87, Tryz.ntmps87
        go_wp2_with (first | ((with_reducible refine gate_callee (f := 102) rfl ?_); refine goesL_ (some 4) rfl rfl Tryz.func102 (by kernel_rfl) rfl #[.int .u8 a0] rfl (by (try simp only [List.map_toArray, List.map_cons, List.map_nil]); first | done | rfl | (simp only [List.length_drop, List.length_take]; rfl)) ?_; (with_reducible refine (bulletinref01_Digit.calls a0 false _ A2.out).mono ?_); rintro e w' ⟨rfl, ⟨nd, rfl⟩⟩; refine ⟨_, rfl, ?_⟩))
        go_ret
        exact ⟨by first | rfl | (simp; done) | (simp [*]; done), by repeat (first | exact Drawn0.refl _ | apply Drawn0.step)⟩
      · rw [if_neg c5] at H
        have c5b0 : decide (a0 ≤ 102) = false := decide_eq_false c5
        clear c5
        obtain rfl := Option.some.inj H
        go_enter Tryz.func87, Tryz.ntmps87
        go_wp2_with (first | ((with_reducible refine gate_callee (f := 102) rfl ?_); refine goesL_ (some 4) rfl rfl Tryz.func102 (by kernel_rfl) rfl #[.int .u8 a0] rfl (by (try simp only [List.map_toArray, List.map_cons, List.map_nil]); first | done | rfl | (simp only [List.length_drop, List.length_take]; rfl)) ?_; (with_reducible refine (bulletinref01_Digit.calls a0 false _ A2.out).mono ?_); rintro e w' ⟨rfl, ⟨nd, rfl⟩⟩; refine ⟨_, rfl, ?_⟩))
        go_ret
        exact ⟨by first | rfl | (simp; done) | (simp [*]; done), by repeat (first | exact Drawn0.refl _ | apply Drawn0.step)⟩
    · rw [if_neg c4] at H
      have c4b0 : decide (97 ≤ a0) = false := decide_eq_false c4
      clear c4
      obtain rfl := Option.some.inj H
      go_enter Tryz.func87, Tryz.ntmps87
      go_wp2_with (first | ((with_reducible refine gate_callee (f := 102) rfl ?_); refine goesL_ (some 4) rfl rfl Tryz.func102 (by kernel_rfl) rfl #[.int .u8 a0] rfl (by (try simp only [List.map_toArray, List.map_cons, List.map_nil]); first | done | rfl | (simp only [List.length_drop, List.length_take]; rfl)) ?_; (with_reducible refine (bulletinref01_Digit.calls a0 false _ A2.out).mono ?_); rintro e w' ⟨rfl, ⟨nd, rfl⟩⟩; refine ⟨_, rfl, ?_⟩))
      go_ret
      exact ⟨by first | rfl | (simp; done) | (simp [*]; done), by repeat (first | exact Drawn0.refl _ | apply Drawn0.step)⟩

/-! ### bulletinref01_Unhex: function 71 -/
def bulletinref01_Unhex.l0 : Nat → ByteArray → List Int → Int → Option (List Int × Int)
  | 0, _, _, _ => none
  | k + 1, x0, x4, x5 => if x5 < (x0.size : Int) then (if 0 ≤ x5 then ((bulletinref01_nibble.f (bt x0 x5)).bind fun t209 => (if 0 ≤ (wrap64 (x5 + 1)) then (if (wrap64 (x5 + 1)) < (x0.size : Int) then ((bulletinref01_nibble.f (bt x0 (wrap64 (x5 + 1)))).bind fun t210 => (if t209 < 0 then (some (([] : List Int), 3)) else (if t210 < 0 then (some (([] : List Int), 3)) else (if x4.length < 140737488355328 then (bulletinref01_Unhex.l0 k x0 (x4 ++ [(wrap64 ((wrap64 (16 * t209)) + t210)) % 256]) (wrap64 (x5 + 2))) else (none))))) else (none)) else (none))) else (none)) else (some (x4, 0))
def bulletinref01_Unhex.f (k : Nat) (a0 : ByteArray) : Option (List Int × Int) := if ((a0.size : Int) % 2) = 1 then (some (([] : List Int), 3)) else (bulletinref01_Unhex.l0 k a0 ([] : List Int) 0)
set_option maxHeartbeats 8000000 in
set_option maxRecDepth 100000 in
theorem bulletinref01_Unhex.calls (k : Nat) (a0 : ByteArray) (r1 : List Int) (r2 : Int) (w : World) (h : bulletinref01_Unhex.f k a0 = some (r1, r2)) :
    Calls Tryz.prog 71 #[.string a0] w fun e w' => ∃ v0_ : Value, e = .returned (.tuple #[v0_, .int .i64 r2]) ∧ Kd.R (Kd.int .u8) 5 w' w.heap.size (fun _ => True) v0_ r1 ∧ Below w.heap.size w w' := by
  have HB := Aside0.mk (Below.refl w.heap.size w)
  have H : (if ((a0.size : Int) % 2) = 1 then (some (([] : List Int), 3)) else (bulletinref01_Unhex.l0 k a0 ([] : List Int) 0)) = some (r1, r2) := h
  clear h
  by_cases c2 : ((a0.size : Int) % 2) = 1
  · rw [if_pos c2] at H
    have c2b0 : (((a0.size : Int) % 2) == 1) = true := beq_iff_eq.mpr c2
    have c2b1 : (((a0.size : Int) % 2) != 1) = false := bne_eq_false_iff_eq.mpr c2
    clear c2
    simp only [Option.some.injEq, Prod.mk.injEq] at H
    obtain ⟨rfl, rfl⟩ := H
    go_enter Tryz.func71, Tryz.ntmps71
    go_wp2
    repeat (go_quiet (fail); try go_wp2)
    go_ret2
    exact ⟨_, by first | rfl | (simp [errW_none, errW_some] <;> rfl) | (simp [*, errW_none, errW_some] <;> rfl), by first | exact Kd.R_nil _ _ _ _ _ | exact Kd.N_nil _ _ _ _ _ | exact Kd.V_nil _ _ _ _ _ | exact Kd.Q_nil _ _ _ _ _ | exact Kd.S_nil _ _ _ _ _, by repeat (first | (with_reducible first | exact HB.out | apply below_alloc | apply pw_below_drewN | apply below_drew1) | exact HB.out)⟩
  · rw [if_neg c2] at H
    have c2b0 : (((a0.size : Int) % 2) == 1) = false := beq_eq_false_iff_ne.mpr c2
    have c2b1 : (((a0.size : Int) % 2) != 1) = true := bne_iff_ne.mpr c2
    have H' := Aside0.mk H
    clear H
    go_enter Tryz.func71, Tryz.ntmps71
    go_wp2
    repeat (go_quiet (fail); try go_wp2)
    go_loopg [4, 5] k (fun kq v4 v5 w' => ∃ (x4_1 : List Int) (x5_1 : Int), v5 = .int .i64 x5_1 ∧ Aside0 (bulletinref01_Unhex.l0 kq a0 x4_1 x5_1 = some (r1, r2)) ∧ Aside0 (kq ≤ k) ∧ Aside0 (Kd.R (Kd.int .u8) 5 w' w.heap.size (fun _ => True) v4 x4_1) ∧ Aside0 (Below w.heap.size w w'))
    case atStart => exact ⟨(([] : List Int)), (0), (by first | rfl | (simp; done) | (simp [*]; done)), H', ⟨Nat.le_refl _⟩, ⟨by first | exact Kd.R_nil _ _ _ _ _ | exact Kd.N_nil _ _ _ _ _ | exact Kd.V_nil _ _ _ _ _ | exact Kd.Q_nil _ _ _ _ _ | exact Kd.S_nil _ _ _ _ _⟩, ⟨by repeat (first | (with_reducible first | exact HB.out | apply below_alloc | apply pw_below_drewN | apply below_drew1) | exact HB.out)⟩⟩
    case round =>
      clear H'
      try clear c2
      try clear c2b0
      try clear c2b1
      try clear p2
      obtain ⟨x4_1, x5_1, rfl, HA, HK1, HO_4, HB⟩ := hrel
      cases gk with
      | zero => exact absurd HA.out (by simp [bulletinref01_Unhex.l0])
      | succ k1 =>
        have H := HA.out
        clear HA
        simp only [bulletinref01_Unhex.l0] at H
        by_cases c3 : x5_1 < (a0.size : Int)
        · rw [if_pos c3] at H
          have c3b0 : decide (x5_1 < (a0.size : Int)) = true := decide_eq_true c3
          clear c3
          by_cases c4 : 0 ≤ x5_1
          · rw [if_pos c4] at H
            have c4b0 : decide (0 ≤ x5_1) = true := decide_eq_true c4
            clear c4
            replace H := Option.bind_eq_some_iff.mp H
            obtain ⟨t209, A60, H⟩ := H
            replace H : (if 0 ≤ (wrap64 (x5_1 + 1)) then (if (wrap64 (x5_1 + 1)) < (a0.size : Int) then ((bulletinref01_nibble.f (bt a0 (wrap64 (x5_1 + 1)))).bind fun t210 => (if t209 < 0 then (some (([] : List Int), 3)) else (if t210 < 0 then (some (([] : List Int), 3)) else (if x4_1.length < 140737488355328 then (bulletinref01_Unhex.l0 k1 a0 (x4_1 ++ [(wrap64 ((wrap64 (16 * t209)) + t210)) % 256]) (wrap64 (x5_1 + 2))) else (none))))) else (none)) else (none)) = some (r1, r2) := H
            have A6 := Aside0.mk A60
            clear A60
            obtain ⟨ji7, hji7⟩ : ∃ j_ : Int, (wrap64 (x5_1 + 1)) = j_ := ⟨_, rfl⟩
            replace H : (if 0 ≤ (ji7) then (if (ji7) < (a0.size : Int) then ((bulletinref01_nibble.f (bt a0 (ji7))).bind fun t210 => (if t209 < 0 then (some (([] : List Int), 3)) else (if t210 < 0 then (some (([] : List Int), 3)) else (if x4_1.length < 140737488355328 then (bulletinref01_Unhex.l0 k1 a0 (x4_1 ++ [(wrap64 ((wrap64 (16 * t209)) + t210)) % 256]) (wrap64 (x5_1 + 2))) else (none))))) else (none)) else (none)) = some (r1, r2) := by first | (rw [hji7] at H; exact H) | (simp only [hji7] at H ⊢; exact H)
            (try rw [hji7] at A6)
            have hji7w : (IntKind.i64.wrap (x5_1 + 1)) = ji7 := (i64_w _).trans hji7
            by_cases c8 : 0 ≤ (ji7)
            · rw [if_pos c8] at H
              have c8b0 : decide (0 ≤ (ji7)) = true := decide_eq_true c8
              clear c8
              by_cases c9 : (ji7) < (a0.size : Int)
              · rw [if_pos c9] at H
                have c9b0 : decide ((ji7) < (a0.size : Int)) = true := decide_eq_true c9
                clear c9
                replace H := Option.bind_eq_some_iff.mp H
                obtain ⟨t210, A110, H⟩ := H
                replace H : (if t209 < 0 then (some (([] : List Int), 3)) else (if t210 < 0 then (some (([] : List Int), 3)) else (if x4_1.length < 140737488355328 then (bulletinref01_Unhex.l0 k1 a0 (x4_1 ++ [(wrap64 ((wrap64 (16 * t209)) + t210)) % 256]) (wrap64 (x5_1 + 2))) else (none)))) = some (r1, r2) := H
                have A11 := Aside0.mk A110
                clear A110
                by_cases c12 : t209 < 0
                · rw [if_pos c12] at H
                  have c12b0 : decide (t209 < 0) = true := decide_eq_true c12
                  clear c12
                  simp only [Option.some.injEq, Prod.mk.injEq] at H
                  obtain ⟨rfl, rfl⟩ := H
                  have p5 : 0 ≤ (x5_1 : Int) := of_decide_eq_true (by first | (with_reducible assumption) | assumption)
                  have q5 : x5_1 < (a0.size : Int) := of_decide_eq_true (by first | (with_reducible assumption) | assumption)
                  have hx5 := bt_at a0 x5_1
                  replace p5 := eq_true p5
                  replace q5 := eq_true q5
                  go_wp2_with (first | (go_at_call 87; (with_reducible refine (bulletinref01_nibble.calls (bt a0 x5_1) t209 _ A6.out).mono ?_); rintro e w' ⟨rfl, ⟨nd, rfl⟩⟩; (try first | exact ⟨rfl, _, World.drewN_drewN _ _ _⟩ | exact ⟨rfl, _, Eq.trans (World.drewN_drewN _ _ _) (congrArg (World.drewN _) (Nat.add_assoc _ _ _))⟩); have p10 : 0 ≤ ((ji7) : Int) := of_decide_eq_true (by first | (with_reducible assumption) | assumption); have q10 : (ji7) < (a0.size : Int) := of_decide_eq_true (by first | (with_reducible assumption) | assumption); have hx10 := bt_at a0 (ji7); replace p10 := eq_true p10; replace q10 := eq_true q10) | (go_at_call 87; (with_reducible refine (bulletinref01_nibble.calls (bt a0 (ji7)) t210 _ A11.out).mono ?_); rintro e w' ⟨rfl, ⟨nd, rfl⟩⟩; (try first | exact ⟨rfl, _, World.drewN_drewN _ _ _⟩ | exact ⟨rfl, _, Eq.trans (World.drewN_drewN _ _ _) (congrArg (World.drewN _) (Nat.add_assoc _ _ _))⟩)))
                  repeat (go_quiet (first | (go_at_call 87; (with_reducible refine (bulletinref01_nibble.calls (bt a0 x5_1) t209 _ A6.out).mono ?_); rintro e w' ⟨rfl, ⟨nd, rfl⟩⟩; (try first | exact ⟨rfl, _, World.drewN_drewN _ _ _⟩ | exact ⟨rfl, _, Eq.trans (World.drewN_drewN _ _ _) (congrArg (World.drewN _) (Nat.add_assoc _ _ _))⟩); have p10 : 0 ≤ ((ji7) : Int) := of_decide_eq_true (by first | (with_reducible assumption) | assumption); have q10 : (ji7) < (a0.size : Int) := of_decide_eq_true (by first | (with_reducible assumption) | assumption); have hx10 := bt_at a0 (ji7); replace p10 := eq_true p10; replace q10 := eq_true q10) | (go_at_call 87; (with_reducible refine (bulletinref01_nibble.calls (bt a0 (ji7)) t210 _ A11.out).mono ?_); rintro e w' ⟨rfl, ⟨nd, rfl⟩⟩; (try first | exact ⟨rfl, _, World.drewN_drewN _ _ _⟩ | exact ⟨rfl, _, Eq.trans (World.drewN_drewN _ _ _) (congrArg (World.drewN _) (Nat.add_assoc _ _ _))⟩))); try go_wp2_with (first | (go_at_call 87; (with_reducible refine (bulletinref01_nibble.calls (bt a0 x5_1) t209 _ A6.out).mono ?_); rintro e w' ⟨rfl, ⟨nd, rfl⟩⟩; (try first | exact ⟨rfl, _, World.drewN_drewN _ _ _⟩ | exact ⟨rfl, _, Eq.trans (World.drewN_drewN _ _ _) (congrArg (World.drewN _) (Nat.add_assoc _ _ _))⟩); have p10 : 0 ≤ ((ji7) : Int) := of_decide_eq_true (by first | (with_reducible assumption) | assumption); have q10 : (ji7) < (a0.size : Int) := of_decide_eq_true (by first | (with_reducible assumption) | assumption); have hx10 := bt_at a0 (ji7); replace p10 := eq_true p10; replace q10 := eq_true q10) | (go_at_call 87; (with_reducible refine (bulletinref01_nibble.calls (bt a0 (ji7)) t210 _ A11.out).mono ?_); rintro e w' ⟨rfl, ⟨nd, rfl⟩⟩; (try first | exact ⟨rfl, _, World.drewN_drewN _ _ _⟩ | exact ⟨rfl, _, Eq.trans (World.drewN_drewN _ _ _) (congrArg (World.drewN _) (Nat.add_assoc _ _ _))⟩))))
                  go_ret2
                  exact ⟨_, by first | rfl | (simp [errW_none, errW_some] <;> rfl) | (simp only [← hji7]; first | rfl | (simp [errW_none, errW_some] <;> rfl)) | (simp [*, errW_none, errW_some] <;> rfl), by first | exact Kd.R_nil _ _ _ _ _ | exact Kd.N_nil _ _ _ _ _ | exact Kd.V_nil _ _ _ _ _ | exact Kd.Q_nil _ _ _ _ _ | exact Kd.S_nil _ _ _ _ _, by repeat (first | (with_reducible first | exact HB.out | apply below_alloc | apply pw_below_drewN | apply below_drew1) | exact HB.out)⟩
                · rw [if_neg c12] at H
                  have c12b0 : decide (t209 < 0) = false := decide_eq_false c12
                  clear c12
                  by_cases c13 : t210 < 0
                  · rw [if_pos c13] at H
                    have c13b0 : decide (t210 < 0) = true := decide_eq_true c13
                    clear c13
                    simp only [Option.some.injEq, Prod.mk.injEq] at H
                    obtain ⟨rfl, rfl⟩ := H
                    have p5 : 0 ≤ (x5_1 : Int) := of_decide_eq_true (by first | (with_reducible assumption) | assumption)
                    have q5 : x5_1 < (a0.size : Int) := of_decide_eq_true (by first | (with_reducible assumption) | assumption)
                    have hx5 := bt_at a0 x5_1
                    replace p5 := eq_true p5
                    replace q5 := eq_true q5
                    go_wp2_with (first | (go_at_call 87; (with_reducible refine (bulletinref01_nibble.calls (bt a0 x5_1) t209 _ A6.out).mono ?_); rintro e w' ⟨rfl, ⟨nd, rfl⟩⟩; (try first | exact ⟨rfl, _, World.drewN_drewN _ _ _⟩ | exact ⟨rfl, _, Eq.trans (World.drewN_drewN _ _ _) (congrArg (World.drewN _) (Nat.add_assoc _ _ _))⟩); have p10 : 0 ≤ ((ji7) : Int) := of_decide_eq_true (by first | (with_reducible assumption) | assumption); have q10 : (ji7) < (a0.size : Int) := of_decide_eq_true (by first | (with_reducible assumption) | assumption); have hx10 := bt_at a0 (ji7); replace p10 := eq_true p10; replace q10 := eq_true q10) | (go_at_call 87; (with_reducible refine (bulletinref01_nibble.calls (bt a0 (ji7)) t210 _ A11.out).mono ?_); rintro e w' ⟨rfl, ⟨nd, rfl⟩⟩; (try first | exact ⟨rfl, _, World.drewN_drewN _ _ _⟩ | exact ⟨rfl, _, Eq.trans (World.drewN_drewN _ _ _) (congrArg (World.drewN _) (Nat.add_assoc _ _ _))⟩)))
                    repeat (go_quiet (first | (go_at_call 87; (with_reducible refine (bulletinref01_nibble.calls (bt a0 x5_1) t209 _ A6.out).mono ?_); rintro e w' ⟨rfl, ⟨nd, rfl⟩⟩; (try first | exact ⟨rfl, _, World.drewN_drewN _ _ _⟩ | exact ⟨rfl, _, Eq.trans (World.drewN_drewN _ _ _) (congrArg (World.drewN _) (Nat.add_assoc _ _ _))⟩); have p10 : 0 ≤ ((ji7) : Int) := of_decide_eq_true (by first | (with_reducible assumption) | assumption); have q10 : (ji7) < (a0.size : Int) := of_decide_eq_true (by first | (with_reducible assumption) | assumption); have hx10 := bt_at a0 (ji7); replace p10 := eq_true p10; replace q10 := eq_true q10) | (go_at_call 87; (with_reducible refine (bulletinref01_nibble.calls (bt a0 (ji7)) t210 _ A11.out).mono ?_); rintro e w' ⟨rfl, ⟨nd, rfl⟩⟩; (try first | exact ⟨rfl, _, World.drewN_drewN _ _ _⟩ | exact ⟨rfl, _, Eq.trans (World.drewN_drewN _ _ _) (congrArg (World.drewN _) (Nat.add_assoc _ _ _))⟩))); try go_wp2_with (first | (go_at_call 87; (with_reducible refine (bulletinref01_nibble.calls (bt a0 x5_1) t209 _ A6.out).mono ?_); rintro e w' ⟨rfl, ⟨nd, rfl⟩⟩; (try first | exact ⟨rfl, _, World.drewN_drewN _ _ _⟩ | exact ⟨rfl, _, Eq.trans (World.drewN_drewN _ _ _) (congrArg (World.drewN _) (Nat.add_assoc _ _ _))⟩); have p10 : 0 ≤ ((ji7) : Int) := of_decide_eq_true (by first | (with_reducible assumption) | assumption); have q10 : (ji7) < (a0.size : Int) := of_decide_eq_true (by first | (with_reducible assumption) | assumption); have hx10 := bt_at a0 (ji7); replace p10 := eq_true p10; replace q10 := eq_true q10) | (go_at_call 87; (with_reducible refine (bulletinref01_nibble.calls (bt a0 (ji7)) t210 _ A11.out).mono ?_); rintro e w' ⟨rfl, ⟨nd, rfl⟩⟩; (try first | exact ⟨rfl, _, World.drewN_drewN _ _ _⟩ | exact ⟨rfl, _, Eq.trans (World.drewN_drewN _ _ _) (congrArg (World.drewN _) (Nat.add_assoc _ _ _))⟩))))
                    go_ret2
                    exact ⟨_, by first | rfl | (simp [errW_none, errW_some] <;> rfl) | (simp only [← hji7]; first | rfl | (simp [errW_none, errW_some] <;> rfl)) | (simp [*, errW_none, errW_some] <;> rfl), by first | exact Kd.R_nil _ _ _ _ _ | exact Kd.N_nil _ _ _ _ _ | exact Kd.V_nil _ _ _ _ _ | exact Kd.Q_nil _ _ _ _ _ | exact Kd.S_nil _ _ _ _ _, by repeat (first | (with_reducible first | exact HB.out | apply below_alloc | apply pw_below_drewN | apply below_drew1) | exact HB.out)⟩
                  · rw [if_neg c13] at H
                    have c13b0 : decide (t210 < 0) = false := decide_eq_false c13
                    clear c13
                    by_cases c14 : x4_1.length < 140737488355328
                    · rw [if_pos c14] at H
                      have LMc14 := Aside0.mk c14
                      clear c14
                      obtain ⟨y211, hy211⟩ : ∃ y_ : List Int, y_ = (x4_1 ++ [(wrap64 ((wrap64 (16 * t209)) + t210)) % 256]) := ⟨_, rfl⟩
                      replace H : (bulletinref01_Unhex.l0 k1 a0 y211 (wrap64 (x5_1 + 2))) = some (r1, r2) := by first | (rw [hy211]; with_reducible exact H) | (have H2_ := (Option.bind_some _ _).symm.trans H; rw [hy211]; with_reducible exact H2_) | (have H2_ := (Option.bind_some _ _).symm.trans H; with_reducible exact H2_) | with_reducible exact H | (rw [hy211]; exact H) | exact H
                      have Ny211 := Aside0.mk hy211
                      clear hy211
                      have H' := Aside0.mk H
                      clear H
                      have p5 : 0 ≤ (x5_1 : Int) := of_decide_eq_true (by first | (with_reducible assumption) | assumption)
                      have q5 : x5_1 < (a0.size : Int) := of_decide_eq_true (by first | (with_reducible assumption) | assumption)
                      have hx5 := bt_at a0 x5_1
                      replace p5 := eq_true p5
                      replace q5 := eq_true q5
                      go_wp2_with (first | (go_at_call 87; (with_reducible refine (bulletinref01_nibble.calls (bt a0 x5_1) t209 _ A6.out).mono ?_); rintro e w' ⟨rfl, ⟨nd, rfl⟩⟩; (try first | exact ⟨rfl, _, World.drewN_drewN _ _ _⟩ | exact ⟨rfl, _, Eq.trans (World.drewN_drewN _ _ _) (congrArg (World.drewN _) (Nat.add_assoc _ _ _))⟩); have p10 : 0 ≤ ((ji7) : Int) := of_decide_eq_true (by first | (with_reducible assumption) | assumption); have q10 : (ji7) < (a0.size : Int) := of_decide_eq_true (by first | (with_reducible assumption) | assumption); have hx10 := bt_at a0 (ji7); replace p10 := eq_true p10; replace q10 := eq_true q10) | (go_at_call 87; (with_reducible refine (bulletinref01_nibble.calls (bt a0 (ji7)) t210 _ A11.out).mono ?_); rintro e w' ⟨rfl, ⟨nd, rfl⟩⟩; (try first | exact ⟨rfl, _, World.drewN_drewN _ _ _⟩ | exact ⟨rfl, _, Eq.trans (World.drewN_drewN _ _ _) (congrArg (World.drewN _) (Nat.add_assoc _ _ _))⟩)) | ((with_reducible refine gate_builtin (b := .append) (xs := #[.tmp 33, .tmp 39]) rfl ?_); at_builtin; refine Kd.R_append (Kd.int .u8) (w0 := w) w.heap.size rfl (.tmp 33) (.tmp 39) 26 5 (.int .u8 0) 1 rfl Tryz.underlying26 info5 rfl (by decide) (by omega) u4 x4_1 ((wrap64 ((wrap64 (16 * t209)) + t210)) % 256) [.int .u8 ((wrap64 ((wrap64 (16 * t209)) + t210)) % 256)] (fun _ => True) (fun _ => False) rfl rfl ?aP (fun _ hk => hk.elim) ?aF ?aO ?aB ?aS ?aL ?_; (case aP => exact rfl); (case aB => exact (by repeat (first | (with_reducible first | exact HB.out | apply below_alloc | apply pw_below_drewN | apply below_drew1) | exact HB.out))); (case aF => exact (fun _ _ => trivial)); (case aO => exact (by (with_reducible repeat (first | apply Kd.R_alloc | apply Kd.R_drewN | apply Kd.R_drew)); exact HO_4.out)); (case aS => exact (below_size (by repeat (first | (with_reducible first | exact HB.out | apply below_alloc | apply pw_below_drewN | apply below_drew1) | exact HB.out)))); (case aL => have := LMc14.out; omega); intro v212 w15 ho hb hg hat; rw [← Ny211.out] at ho; have n0_ := Aside0.mk (hb); have n1_ := Aside0.mk (ho); clear HB; clear HO_4; have HB := n0_; have HO213 := n1_; clear n0_ n1_; clear ho hb hg hat))
                      repeat (go_quiet (first | (go_at_call 87; (with_reducible refine (bulletinref01_nibble.calls (bt a0 x5_1) t209 _ A6.out).mono ?_); rintro e w' ⟨rfl, ⟨nd, rfl⟩⟩; (try first | exact ⟨rfl, _, World.drewN_drewN _ _ _⟩ | exact ⟨rfl, _, Eq.trans (World.drewN_drewN _ _ _) (congrArg (World.drewN _) (Nat.add_assoc _ _ _))⟩); have p10 : 0 ≤ ((ji7) : Int) := of_decide_eq_true (by first | (with_reducible assumption) | assumption); have q10 : (ji7) < (a0.size : Int) := of_decide_eq_true (by first | (with_reducible assumption) | assumption); have hx10 := bt_at a0 (ji7); replace p10 := eq_true p10; replace q10 := eq_true q10) | (go_at_call 87; (with_reducible refine (bulletinref01_nibble.calls (bt a0 (ji7)) t210 _ A11.out).mono ?_); rintro e w' ⟨rfl, ⟨nd, rfl⟩⟩; (try first | exact ⟨rfl, _, World.drewN_drewN _ _ _⟩ | exact ⟨rfl, _, Eq.trans (World.drewN_drewN _ _ _) (congrArg (World.drewN _) (Nat.add_assoc _ _ _))⟩)) | ((with_reducible refine gate_builtin (b := .append) (xs := #[.tmp 33, .tmp 39]) rfl ?_); at_builtin; refine Kd.R_append (Kd.int .u8) (w0 := w) w.heap.size rfl (.tmp 33) (.tmp 39) 26 5 (.int .u8 0) 1 rfl Tryz.underlying26 info5 rfl (by decide) (by omega) u4 x4_1 ((wrap64 ((wrap64 (16 * t209)) + t210)) % 256) [.int .u8 ((wrap64 ((wrap64 (16 * t209)) + t210)) % 256)] (fun _ => True) (fun _ => False) rfl rfl ?aP (fun _ hk => hk.elim) ?aF ?aO ?aB ?aS ?aL ?_; (case aP => exact rfl); (case aB => exact (by repeat (first | (with_reducible first | exact HB.out | apply below_alloc | apply pw_below_drewN | apply below_drew1) | exact HB.out))); (case aF => exact (fun _ _ => trivial)); (case aO => exact (by (with_reducible repeat (first | apply Kd.R_alloc | apply Kd.R_drewN | apply Kd.R_drew)); exact HO_4.out)); (case aS => exact (below_size (by repeat (first | (with_reducible first | exact HB.out | apply below_alloc | apply pw_below_drewN | apply below_drew1) | exact HB.out)))); (case aL => have := LMc14.out; omega); intro v212 w15 ho hb hg hat; rw [← Ny211.out] at ho; have n0_ := Aside0.mk (hb); have n1_ := Aside0.mk (ho); clear HB; clear HO_4; have HB := n0_; have HO213 := n1_; clear n0_ n1_; clear ho hb hg hat)); try go_wp2_with (first | (go_at_call 87; (with_reducible refine (bulletinref01_nibble.calls (bt a0 x5_1) t209 _ A6.out).mono ?_); rintro e w' ⟨rfl, ⟨nd, rfl⟩⟩; (try first | exact ⟨rfl, _, World.drewN_drewN _ _ _⟩ | exact ⟨rfl, _, Eq.trans (World.drewN_drewN _ _ _) (congrArg (World.drewN _) (Nat.add_assoc _ _ _))⟩); have p10 : 0 ≤ ((ji7) : Int) := of_decide_eq_true (by first | (with_reducible assumption) | assumption); have q10 : (ji7) < (a0.size : Int) := of_decide_eq_true (by first | (with_reducible assumption) | assumption); have hx10 := bt_at a0 (ji7); replace p10 := eq_true p10; replace q10 := eq_true q10) | (go_at_call 87; (with_reducible refine (bulletinref01_nibble.calls (bt a0 (ji7)) t210 _ A11.out).mono ?_); rintro e w' ⟨rfl, ⟨nd, rfl⟩⟩; (try first | exact ⟨rfl, _, World.drewN_drewN _ _ _⟩ | exact ⟨rfl, _, Eq.trans (World.drewN_drewN _ _ _) (congrArg (World.drewN _) (Nat.add_assoc _ _ _))⟩)) | ((with_reducible refine gate_builtin (b := .append) (xs := #[.tmp 33, .tmp 39]) rfl ?_); at_builtin; refine Kd.R_append (Kd.int .u8) (w0 := w) w.heap.size rfl (.tmp 33) (.tmp 39) 26 5 (.int .u8 0) 1 rfl Tryz.underlying26 info5 rfl (by decide) (by omega) u4 x4_1 ((wrap64 ((wrap64 (16 * t209)) + t210)) % 256) [.int .u8 ((wrap64 ((wrap64 (16 * t209)) + t210)) % 256)] (fun _ => True) (fun _ => False) rfl rfl ?aP (fun _ hk => hk.elim) ?aF ?aO ?aB ?aS ?aL ?_; (case aP => exact rfl); (case aB => exact (by repeat (first | (with_reducible first | exact HB.out | apply below_alloc | apply pw_below_drewN | apply below_drew1) | exact HB.out))); (case aF => exact (fun _ _ => trivial)); (case aO => exact (by (with_reducible repeat (first | apply Kd.R_alloc | apply Kd.R_drewN | apply Kd.R_drew)); exact HO_4.out)); (case aS => exact (below_size (by repeat (first | (with_reducible first | exact HB.out | apply below_alloc | apply pw_below_drewN | apply below_drew1) | exact HB.out)))); (case aL => have := LMc14.out; omega); intro v212 w15 ho hb hg hat; rw [← Ny211.out] at ho; have n0_ := Aside0.mk (hb); have n1_ := Aside0.mk (ho); clear HB; clear HO_4; have HB := n0_; have HO213 := n1_; clear n0_ n1_; clear ho hb hg hat)))
                      go_roundg k1
                      case measure => have := HK1.out; omega
                      case rel => exact ⟨(y211), (wrap64 (x5_1 + 2)), (by first | rfl | (simp; done) | (simp [*]; done)), H', ⟨by have := HK1.out; omega⟩, ⟨by (with_reducible repeat (first | apply Kd.R_alloc | apply Kd.R_drewN | apply Kd.R_drew)); exact HO213.out⟩, ⟨by repeat (first | (with_reducible first | exact HB.out | apply below_alloc | apply pw_below_drewN | apply below_drew1) | exact HB.out)⟩⟩
                    · rw [if_neg c14] at H
                      exact absurd H (by simp)
              · rw [if_neg c9] at H
                exact absurd H (by simp)
            · rw [if_neg c8] at H
              exact absurd H (by simp)
          · rw [if_neg c4] at H
            exact absurd H (by simp)
        · rw [if_neg c3] at H
          have c3b0 : decide (x5_1 < (a0.size : Int)) = false := decide_eq_false c3
          clear c3
          simp only [Option.some.injEq, Prod.mk.injEq] at H
          obtain ⟨rfl, rfl⟩ := H
          go_wp2
          repeat (go_quiet (fail); try go_wp2)
          go_ret2
          exact ⟨_, by first | rfl | (simp [errW_none, errW_some] <;> rfl) | (simp [*, errW_none, errW_some] <;> rfl), by (with_reducible repeat (first | apply Kd.R_alloc | apply Kd.R_drewN | apply Kd.R_drew)); exact HO_4.out, by repeat (first | (with_reducible first | exact HB.out | apply below_alloc | apply pw_below_drewN | apply below_drew1) | exact HB.out)⟩


end Go.Proofs.YtceopllngemnnaaGreatDoor.PRef


/-
  SHA-256's words: rotations and one round, of the program and of the document's answer: what they return. For all numbers.
-/
namespace Go.Proofs.YtceopllngemnnaaGreatDoor
open Go.RowKit Go.Proofs.YtceopllngemnnaaGreatDoorW.PrintWords Go.Proofs.YtceopllngemnnaaGreatDoorW.PrintMore Go.Proofs.YtceopllngemnnaaGreatDoor.PRef

/-- A word turned to the right. -/
def rot (x n : Int) : Int := bits .or .u32 (shl .u32 x (32 - n)) (shr .u32 x n)

theorem or_comm32 (x y : Int) : bits .or .u32 x y = bits .or .u32 y x := by
  simp only [bits]; rw [BitVec.or_comm]

theorem rot_tab : ((List.range 31).all fun k => Go.bits .and .u64 (IntKind.u64.wrap (wrap64 (-((k : Int) + 1)))) 31 == 32 - ((k : Int) + 1) && IntKind.u64.wrap (32 - (32 - ((k : Int) + 1))) == (k : Int) + 1) = true := by kernel_rfl

theorem right_f (x n : Int) (h0 : 1 ≤ n) (h1 : n ≤ 31) : sha256_right.f x n = some (rot x n) := by
  have := List.all_eq_true.mp rot_tab (n - 1).toNat (List.mem_range.mpr (by omega))
  have e : (((n - 1).toNat : Nat) : Int) + 1 = n := by omega
  rw [e, Bool.and_eq_true] at this
  have e1 : Go.bits .and .u64 (IntKind.u64.wrap (wrap64 (-n))) 31 = 32 - n := by simpa using this.1
  have e2 : IntKind.u64.wrap (32 - (32 - n)) = n := by simpa using this.2
  unfold sha256_right.f bits_RotateLeft32.f
  have e3 : 32 - (32 - n) = n := by omega
  rw [e1, e2, if_pos (by omega), if_pos (by omega)]
  rfl

theorem right_any (x n : Int) (w : World) (h0 : 1 ≤ n) (h1 : n ≤ 31) :
    Calls Tryz.prog 142 #[.int .u32 x, .int .i64 n] w fun e w' => e = .returned (.int .u32 (rot x n)) ∧ ∃ m, w' = w.drewN m :=
  (sha256_right.calls x n _ w (right_f x n h0 h1)).mono fun _ _ ⟨h, ⟨m, hm⟩⟩ => ⟨h, m, hm⟩

theorem rotate_any (x n : Int) (w : World) (h0 : 1 ≤ n) (h1 : n ≤ 31) :
    Calls Tryz.prog 65 #[.int .u32 x, .int .i64 n] w fun e w' => e = .returned (.int .u32 (rot x n)) ∧ ∃ m, w' = w.drewN m := by
  have e1 : wrap64 (32 - n) = 32 - n := by unfold wrap64; omega
  refine (bulletinref05_rotate.calls x n (rot x n) w ?_).mono fun _ _ ⟨h, ⟨m, hm⟩⟩ => ⟨h, m, hm⟩
  unfold bulletinref05_rotate.f
  rw [if_pos (by omega), e1, if_pos (by omega), or_comm32]
  rfl

/-- A callee that may draw, met where draws have been made. -/
theorem quiet_more {P : Program} {f : FuncId} {args : Array Value} {w : World} {a n : Nat} {v : Value}
    (h : Calls P f args (w.drewN (a + n)) fun e w' => e = .returned v ∧ ∃ m, w' = (w.drewN (a + n)).drewN m) : Calls P f args (w.drewN (a + n)) fun e w'' => e = .returned v ∧ ∃ m, w'' = w.drewN (a + m) :=
  h.mono fun _ _ ⟨he, m, hm⟩ => ⟨he, n + m, by rw [hm, World.drewN_drewN, Nat.add_assoc]⟩

structure St where
  a : Int
  b : Int
  c : Int
  d : Int
  e : Int
  f : Int
  g : Int
  h : Int

def St.vals (s : St) : Array Value := #[.int .u32 s.a, .int .u32 s.b, .int .u32 s.c, .int .u32 s.d, .int .u32 s.e, .int .u32 s.f, .int .u32 s.g, .int .u32 s.h]

def rndT (s : St) (k w : Int) : Int :=
  s.h + bits .xor .u32 (bits .xor .u32 (rot s.e 6) (rot s.e 11)) (rot s.e 25) + bits .xor .u32 (bits .and .u32 s.e s.f) (bits .and .u32 (bits .xor .u32 IntKind.u32.max s.e) s.g) + k + w
def rndU (s : St) : Int :=
  bits .xor .u32 (bits .xor .u32 (rot s.a 2) (rot s.a 13)) (rot s.a 22) + bits .xor .u32 (bits .xor .u32 (bits .and .u32 s.a s.b) (bits .and .u32 s.a s.c)) (bits .and .u32 s.b s.c)
def rnd (s : St) (k w : Int) : St := ⟨(rndT s k w + rndU s) % 4294967296, s.a, s.b, s.c, (s.d + rndT s k w) % 4294967296, s.e, s.f, s.g⟩

theorem size175 : (Tryz.prog.info? 175).map (·.size) = some 8 := by kernel_rfl

theorem blk_second (W : World) (o o' : Array Value × TypeId) (n : Nat) : (((W.alloc (.cells o.1 o.2)).alloc (.cells o'.1 o'.2)).drewN n).heap[W.heap.size + 1]? = some (.cells o'.1 o'.2 (0, 0)) := by
  have := blk_new (W.alloc (.cells o.1 o.2)) (.cells o'.1 o'.2)
  simpa using this

set_option maxHeartbeats 1000000 in
set_option maxRecDepth 100000 in
theorem round_any (s : St) (k w : Int) (W : World) :
    Calls Tryz.prog 143 #[.agg s.vals, .int .u32 k, .int .u32 w] W fun e w' => e = .returned (.agg (rnd s k w).vals) ∧ Below W.heap.size W w' := by
  obtain ⟨V, hV⟩ : ∃ V, (rnd s k w).vals = V := ⟨_, rfl⟩
  obtain ⟨a, b, c, d, e, f, g, h⟩ := s
  rw [hV]
  have HV := Aside0.mk hV
  clear hV
  unfold St.vals
  go_enter Tryz.func143, Tryz.ntmps143
  go_wp2_with fail
  go_quiet ((go_at_call 142; exact Calls.quiet_of (right_any _ _ _ (by omega) (by omega))))
  go_wp2_with fail
  go_quiet ((go_at_call 142; exact quiet_more (right_any _ _ _ (by omega) (by omega))))
  go_wp2_with fail
  refine bodyPost_ret (results_cell_row rfl _ _ (W.heap.size + 1) 175 V (0, 0) _ ?hp ?hg Tryz.underlying175 rfl ?hi) rfl ?_
  case hp => rfl
  case hg =>
    refine (blk_set (blk_set (blk_set (blk_set (blk_set (blk_set (blk_set (blk_set (blk_second W (_, _) (_, _) _) 0 _) 1 _) 2 _) 3 _) 4 _) 5 _) 6 _) 7 _).trans ?_
    rw [← HV.out]
    simp only [List.setIfInBounds_toArray, List.set_cons_zero, List.set_cons_succ, St.vals, rnd, rndT, rndU]
  case hi => rw [← HV.out]; exact size175
  exact ⟨rfl, below_set (below_set (below_set (below_set (below_set (below_set (below_set (below_set (pw_below_drewN (below_alloc (below_alloc (Below.refl _ _) _) _) _) (by simp)) (by simp)) (by simp)) (by simp)) (by simp)) (by simp)) (by simp)) (by simp)⟩

end Go.Proofs.YtceopllngemnnaaGreatDoor


/-
  SHA-256's blocks: load, process and the constants of the program: what they return. For all bytes.
-/
namespace Go.Proofs.YtceopllngemnnaaGreatDoor
open Go.RowKit Go.Proofs.YtceopllngemnnaaGreatDoorW.PrintWords Go.Proofs.YtceopllngemnnaaGreatDoorW.PrintMore Go.Proofs.YtceopllngemnnaaGreatDoor.PRef

/-- Word t of a block of bytes. -/
def word (b : List Int) (t : Nat) : Int :=
  bits .or .u32 (bits .or .u32 (bits .or .u32 (rd b (4 * (t : Int)) % 4294967296 * 16777216 % 4294967296) (rd b (4 * (t : Int) + 1) % 4294967296 * 65536 % 4294967296)) (rd b (4 * (t : Int) + 2) % 4294967296 * 256 % 4294967296)) (rd b (4 * (t : Int) + 3) % 4294967296)
def blk16 (b : List Int) : List Int := (List.range 16).map (word b)
def u32s (l : List Int) : Array Value := (nums .u32 l).toArray

/-- A block of the heap. -/
def Blk (W : World) (g : Nat) (cs : Array Value) (t : TypeId) : Prop := W.heap[g]? = some (.cells cs t (0, 0))

theorem Blk.below {W W' : World} {g : Nat} {cs : Array Value} {t : TypeId} (h : Blk W g cs t) (hb : Below W.heap.size W W') : Blk W' g cs t := (hb.block g (blk_lt h)).trans h
theorem u32s_get (l : List Int) (k : Nat) (hk : k < l.length) : (u32s l)[k]? = some (.int .u32 (rd l k)) := by
  simp [u32s, nums, rd, List.getD_eq_getElem?_getD, List.getElem?_eq_getElem hk]
theorem Blk.u32 {W : World} {g t : Nat} {l : List Int} (h : Blk W g (u32s l) t) (k : Nat) (hk : k < l.length) : W.cell? ⟨g, k, none⟩ = some (.int .u32 (rd l k)) ∧ W.frozen? ⟨g, k, none⟩ = false :=
  ⟨by rw [Lib.cell_of_heap h]; exact u32s_get l k hk, Lib.frozen_of_heap h k⟩
theorem Blk.put {W : World} {g t : Nat} {l : List Int} (h : Blk W g (u32s l) t) (k : Nat) (x : Int) : Blk (W.setCell ⟨g, k, none⟩ (.int .u32 x)) g (u32s (l.set k x)) t := by
  refine (blk_set h k _).trans ?_
  simp [u32s, nums, List.map_set]

theorem u32s_size (l : List Int) : (u32s l).size = l.length := by simp [u32s, nums]
theorem u32s_one (l : List Int) : (u32s l).all (·.oneCell') = true := by
  rw [Array.all_eq_true_iff_forall_mem]
  intro v hv
  simp [u32s, nums] at hv
  obtain ⟨x, _, rfl⟩ := hv
  rfl

theorem Blk.setRow {W : World} {g t : Nat} {old : Array Value} (h : Blk W g old t) (cs : Array Value) : Blk (W.setRow g cs) g cs t := setRow_heap W g old cs t (0, 0) h
theorem Blk.setRow_ne {W : World} {g g' t : Nat} {c : Array Value} (h : Blk W g c t) (cs : Array Value) (hne : g ≠ g') : Blk (W.setRow g' cs) g c t := (setRow_other W g' g cs hne).trans h
theorem Blk.set_ne {W : World} {g t : Nat} {c : Array Value} (h : Blk W g c t) {p : Addr} (v : Value) (hne : g ≠ p.block) : Blk (W.setCell p v) g c t := blk_far h hne v
section
variable {P : Program} {ops : Array Oper} {rest : List Oper} {o : Oper} {a : Act} {Q : Exit → Act → World → Prop}
/-- A whole array or struct out of a block. -/
theorem load_blk {W : World} {g t t' : Nat} {cs : Array Value} {d : TypeDesc} (hgd : o.guard = none) {p : Tmp} (ho : o.op = .load t (.tmp p)) (haddr : a.eval (.tmp p) = .pointer (some ⟨g, 0, none⟩)) (h : Blk W g cs t')
    (hu : P.underlying t = some d) (hd : (match d with | .struct _ | .array _ _ => true | _ => false) = true) (hi : (P.info? t).map (·.size) = some cs.size) (hk : wpList P ops Q rest (a.put o.dst (.agg cs)) W) : wpList P ops Q (o :: rest) a W := by
  refine Kd.event_run hgd ?_ hk
  have := run_loadVar_row W g t' t cs (0, 0) d h hu hd hi
  simp [execOp, ho, haddr, Instr.loadAt, Instr.sureAddr, this]
/-- A whole array or struct into a block. -/
theorem store_blk {W : World} {g t t' : Nat} {old cs : Array Value} (hgd : o.guard = none) {p : Tmp} {x : Operand} (ho : o.op = .store t (.tmp p) x) (hN : o.dst = none) (haddr : a.eval (.tmp p) = .pointer (some ⟨g, 0, none⟩)) (hv : a.eval x = .agg cs) (h : Blk W g old t')
    (hi : (P.info? t).map (·.size) = some cs.size) (hs : old.size = cs.size) (h1 : cs.all (·.oneCell') = true) (hk : wpList P ops Q rest a (W.setRow g cs)) : wpList P ops Q (o :: rest) a W := by
  refine store_event hgd ho hN ?_ (fun w' e => e ▸ hk)
  have := run_storeVar_row W g t' t old cs h hi hs h1
  simp [execOp, ho, haddr, hv, Instr.storeAt, Instr.sureAddr, this]
end

theorem size191 : (Tryz.prog.info? 191).map (·.size) = some 16 := by kernel_rfl

theorem words_step (b : List Int) (k : Nat) (hk : k < 16) : ((List.range 16).map fun j => if j < k then word b j else 0).set k (word b k) = (List.range 16).map fun j => if j < k + 1 then word b j else 0 := by
  apply List.ext_getElem
  · simp
  · intro i h1 h2
    simp only [List.getElem_set, List.getElem_map, List.getElem_range]
    by_cases e : k = i
    · subst e; simp
    · rw [if_neg e]
      by_cases h : i < k
      · rw [if_pos h, if_pos (by omega)]
      · rw [if_neg h, if_neg (by omega)]
theorem words_full (b : List Int) : ((List.range 16).map fun j => if j < 16 then word b j else 0) = blk16 b := by
  apply List.map_congr_left
  intro j hj
  rw [if_pos (List.mem_range.mp hj)]

theorem zero16 : (#[.int .u32 0, .int .u32 0, .int .u32 0, .int .u32 0, .int .u32 0, .int .u32 0, .int .u32 0, .int .u32 0, .int .u32 0, .int .u32 0, .int .u32 0, .int .u32 0, .int .u32 0, .int .u32 0, .int .u32 0, .int .u32 0] : Array Value) = u32s (List.replicate 16 0) := rfl
theorem zero16b {b : List Int} : (#[.int .u32 0, .int .u32 0, .int .u32 0, .int .u32 0, .int .u32 0, .int .u32 0, .int .u32 0, .int .u32 0, .int .u32 0, .int .u32 0, .int .u32 0, .int .u32 0, .int .u32 0, .int .u32 0, .int .u32 0, .int .u32 0] : Array Value) = u32s ((List.range 16).map fun j => if j < 0 then word b j else 0) := rfl

set_option maxHeartbeats 4000000 in
set_option maxRecDepth 100000 in
theorem load_any (A : Option Addr) (c n : Nat) (b : List Int) (W : World) (hC : Kd.C (Kd.int .u8) W A n b) (h64 : 64 ≤ n) (hb : ∀ x ∈ b, 0 ≤ x ∧ x ≤ 255) :
    Calls Tryz.prog 138 #[.slice A n c] W fun e w' => e = .returned (.agg (u32s (blk16 b))) ∧ Below W.heap.size W w' := by
  obtain ⟨V, hV⟩ : ∃ V, u32s (blk16 b) = V := ⟨_, rfl⟩
  rw [hV]
  have HV := Aside0.mk hV
  clear hV
  have hlen : b.length = n := hC.1
  have HC := Aside0.mk (hlen ▸ hC : Kd.C (Kd.int .u8) W A b.length b)
  have HBd := Aside0.mk hb
  clear hC hb
  go_enter Tryz.func138, Tryz.ntmps138
  go_wp2_with fail
  go_loopg [4, 5] 16 (fun gf x4 i wx => ∃ k : Nat, k ≤ 16 ∧ i = .int .i64 k ∧ Hid (16 ≤ k + gf) ∧ Aside0 (Blk wx (W.heap.size + 1) (u32s ((List.range 16).map fun j => if j < k then word b j else 0)) 191) ∧ Aside0 (Blk wx W.heap.size (u32s (List.replicate 16 0)) 191) ∧ Aside0 (Below W.heap.size W wx))
  case atStart => exact ⟨0, Nat.zero_le _, rfl, by unfold Hid; omega, ⟨zero16b ▸ blk_second W (_, _) (_, _) 0⟩, ⟨zero16 ▸ blk_alloc (blk_new W _) _⟩, ⟨below_alloc (below_alloc (Below.refl _ _) _) _⟩⟩
  case round =>
    obtain ⟨k, hk, rfl, HG, HR, HZ, HB⟩ := hrel
    by_cases hlt : k < 16
    · have hcell := HR.out.u32 k (by simp; omega)
      have hc := hcell.1
      have hf := hcell.2
      clear hcell
      have q0 : IntKind.i64.wrap (4 * (k : Int)) = 4 * k := IntWalk.i64_in _ (by omega)
      have q1 : IntKind.i64.wrap (4 * (k : Int) + 1) = 4 * k + 1 := IntWalk.i64_in _ (by omega)
      have q2 : IntKind.i64.wrap (4 * (k : Int) + 2) = 4 * k + 2 := IntWalk.i64_in _ (by omega)
      have q3 : IntKind.i64.wrap (4 * (k : Int) + 3) = 4 * k + 3 := IntWalk.i64_in _ (by omega)
      obtain ⟨ad, hA, h0⟩ := Kd.at_int (Kd.C_below HC.out HB.out) (4 * (k : Int)) (by omega) (by omega)
      subst hA
      obtain ⟨ad1, hA1, h1⟩ := Kd.at_int (Kd.C_below HC.out HB.out) (4 * (k : Int) + 1) (by omega) (by omega)
      obtain rfl : ad = ad1 := by injection hA1
      obtain ⟨ad2, hA2, h2⟩ := Kd.at_int (Kd.C_below HC.out HB.out) (4 * (k : Int) + 2) (by omega) (by omega)
      obtain rfl : ad = ad2 := by injection hA2
      obtain ⟨ad3, hA3, h3⟩ := Kd.at_int (Kd.C_below HC.out HB.out) (4 * (k : Int) + 3) (by omega) (by omega)
      obtain rfl : ad = ad3 := by injection hA3
      clear hA1 hA2 hA3
      obtain ⟨n0, t0⟩ : ∃ m, (4 * (k : Int)).toNat = m := ⟨_, rfl⟩
      obtain ⟨n1, t1⟩ : ∃ m, (4 * (k : Int) + 1).toNat = m := ⟨_, rfl⟩
      obtain ⟨n2, t2⟩ : ∃ m, (4 * (k : Int) + 2).toNat = m := ⟨_, rfl⟩
      obtain ⟨n3, t3⟩ : ∃ m, (4 * (k : Int) + 3).toNat = m := ⟨_, rfl⟩
      rw [t0] at h0
      rw [t1] at h1
      rw [t2] at h2
      rw [t3] at h3
      have u0 : 4 * k = n0 := by omega
      have u1 : 4 * k + 1 = n1 := by omega
      have u2 : 4 * k + 2 = n2 := by omega
      have u3 : 4 * k + 3 = n3 := by omega
      clear hk
      go_wp2_with fail
      go_region
      go_wp2_with fail
      go_roundg (gk - 1)
      case measure => have := HG.out; omega
      case rel =>
        refine ⟨k + 1, by omega, by go_num, by have := HG.out; unfold Hid; omega, ⟨?_⟩, ⟨HZ.out.set_ne (p := ⟨W.heap.size + 1, k, none⟩) _ (by simp)⟩, ⟨below_drew (HB.out.setCell (p := ⟨W.heap.size + 1, k, none⟩) (by simp) _)⟩⟩
        rw [← words_step b k hlt]
        exact HR.out.put k _
    · obtain rfl : k = 16 := by omega
      have hR := HR.out
      rw [words_full, HV.out] at hR
      have hs : V.size = 16 := by rw [← HV.out]; simp [u32s_size, blk16]
      have h1 : V.all (·.oneCell') = true := by rw [← HV.out]; exact u32s_one _
      have HRV := Aside0.mk hR
      have HZ2 := Aside0.mk HZ.out
      have HO := Aside0.mk h1
      have HSZ := Aside0.mk hs
      clear hR h1 hs
      go_wp2_with (first
        | ((with_reducible refine gate_dst (N := 44) rfl ?_); refine load_blk rfl rfl rfl HRV.out Tryz.underlying191 rfl (by rw [HSZ.out]; exact size191) ?_)
        | ((with_reducible refine gate_store (t := 191) (p := 2) (v := .tmp 44) rfl ?_); refine store_blk rfl rfl rfl rfl rfl HZ2.out (by rw [HSZ.out]; exact size191) (by rw [HSZ.out]; simp [u32s_size]) HO.out ?_))
      refine bodyPost_ret (results_cell_row rfl _ _ W.heap.size 191 V (0, 0) _ ?hp (HZ2.out.setRow V) Tryz.underlying191 rfl (by rw [HSZ.out]; exact size191)) rfl ?_
      case hp => rfl
      exact ⟨rfl, below_setRow HB.out (Nat.le_refl _) _⟩

end Go.Proofs.YtceopllngemnnaaGreatDoor


/-
  SHA-256's constants, of the program and of the document's answer, and process of the program: what they return.
-/
namespace Go.Proofs.YtceopllngemnnaaGreatDoor
open Go.RowKit Go.Proofs.YtceopllngemnnaaGreatDoorW.PrintWords Go.Proofs.YtceopllngemnnaaGreatDoorW.PrintMore Go.Proofs.YtceopllngemnnaaGreatDoor.PRef

def kT : List Int := [1116352408, 1899447441, 3049323471, 3921009573, 961987163, 1508970993, 2453635748, 2870763221, 3624381080, 310598401, 607225278, 1426881987, 1925078388, 2162078206, 2614888103, 3248222580, 3835390401, 4022224774, 264347078, 604807628, 770255983, 1249150122, 1555081692, 1996064986, 2554220882, 2821834349, 2952996808, 3210313671, 3336571891, 3584528711, 113926993, 338241895, 666307205, 773529912, 1294757372, 1396182291, 1695183700, 1986661051, 2177026350, 2456956037, 2730485921, 2820302411, 3259730800, 3345764771, 3516065817, 3600352804, 4094571909, 275423344, 430227734, 506948616, 659060556, 883997877, 958139571, 1322822218, 1537002063, 1747873779, 1955562222, 2024104815, 2227730452, 2361852424, 2428436474, 2756734187, 3204031479, 3329325298]
theorem size112 : (Tryz.prog.info? 112).map (·.size) = some 64 := by kernel_rfl
theorem zero112 : (Tryz.prog.info? 112).map (fun i => (i.zero, i.size)) = some (some (.agg (u32s (List.replicate 64 0))), 64) := by kernel_rfl

section
variable {P : Program} {ops : Array Oper} {rest : List Oper} {o : Oper} {a : Act} {Q : Exit → Act → World → Prop}
/-- A variable that is an array or a struct. -/
theorem alloc_blk {W : World} {t n : Nat} {N : Tmp} {cs : Array Value} (hgd : o.guard = none) (ho : o.op = .alloc t) (hd : o.dst = some N) (hz : (P.info? t).map (fun i => (i.zero, i.size)) = some (some (.agg cs), n))
    (hk : ∀ g w1, g = W.heap.size → Blk w1 g cs t → Below W.heap.size W w1 → wpList P ops Q rest (a.put (some N) (.pointer (some ⟨g, 0, none⟩))) w1) : wpList P ops Q (o :: rest) a W := by
  refine Kd.event_run hgd (v := .pointer (some ⟨W.heap.size, 0, none⟩)) (w1 := W.alloc (.cells cs t (0, 0))) ?_ (by rw [hd]; exact hk _ _ rfl (blk_new W _) (below_alloc (Below.refl _ _) _))
  have h0 := (zero_of_info hz).1 W
  simp [go_sem, execOp, ho, h0, Instr.alloc, Value.cells, newVar]
end

set_option maxHeartbeats 1000000 in
set_option maxRecDepth 100000 in
theorem const_any (W : World) : Calls Tryz.prog 141 #[] W fun e w' => e = .returned (.agg (u32s kT)) ∧ Below W.heap.size W w' := by
  go_enter Tryz.func141, Tryz.ntmps141
  go_wp2_with (first
    | ((with_reducible refine gate_dst (N := 0) rfl ?_); refine alloc_blk rfl rfl rfl zero112 ?_; intro g w1 hg hz hb; have HG := Aside0.mk hg; have HZ := Aside0.mk hz; have HB := Aside0.mk hb; clear hg hz hb)
    | ((with_reducible refine gate_store (t := 112) (p := 0) (v := .tmp 1) rfl ?_); refine store_blk (cs := u32s kT) rfl rfl rfl rfl rfl HZ.out size112 (by simp [u32s_size]; rfl) (u32s_one _) ?_))
  refine bodyPost_ret (results_cell_row rfl _ _ g 112 (u32s kT) (0, 0) _ ?hp (HZ.out.setRow _) Tryz.underlying112 rfl size112) rfl ?_
  case hp => rfl
  exact ⟨rfl, below_setRow HB.out (by rw [HG.out]; exact Nat.le_refl _) _⟩

end Go.Proofs.YtceopllngemnnaaGreatDoor


/-
  SHA-256's process of the program: what it returns. For all states and blocks.
-/
namespace Go.Proofs.YtceopllngemnnaaGreatDoor
open Go.RowKit Go.Proofs.YtceopllngemnnaaGreatDoorW.PrintWords Go.Proofs.YtceopllngemnnaaGreatDoorW.PrintLast Go.Proofs.YtceopllngemnnaaGreatDoorW.PrintMore Go.Proofs.YtceopllngemnnaaGreatDoor.PRef

def sg1 (x : Int) : Int := bits .xor .u32 (bits .xor .u32 (rot x 17) (rot x 19)) (x / 1024)
def sg0 (x : Int) : Int := bits .xor .u32 (bits .xor .u32 (rot x 7) (rot x 18)) (x / 8)
/-- The words of the rounds of a block of sixteen words. -/
def fw (b : List Int) (t : Nat) : Int := if h : t < 16 then rd b (t : Int) else (sg1 (fw b (t - 2)) + fw b (t - 7) + sg0 (fw b (t - 15)) + fw b (t - 16)) % 4294967296
termination_by t
decreasing_by all_goals omega
/-- The state behind t rounds. -/
def comp (s : St) (F : Nat → Int) : Nat → St
  | 0 => s
  | t + 1 => rnd (comp s F t) (rd kT (t : Int)) (F t)
def plusS (s o : St) : St := ⟨(s.a + o.a) % 4294967296, (s.b + o.b) % 4294967296, (s.c + o.c) % 4294967296, (s.d + o.d) % 4294967296, (s.e + o.e) % 4294967296, (s.f + o.f) % 4294967296, (s.g + o.g) % 4294967296, (s.h + o.h) % 4294967296⟩
def procS (s : St) (b : List Int) : St := plusS (comp s (fw b) 64) s

theorem plus_any (s o : St) (W : World) : Calls Tryz.prog 144 #[.agg s.vals, .agg o.vals] W fun e w' => e = .returned (.agg (plusS s o).vals) ∧ Below W.heap.size W w' := by
  refine sha256_words_plus.calls _ _ _ _ _ _ _ _ _ _ _ _ _ _ _ _ _ _ _ _ _ _ _ _ W ?_
  rfl

/-- What the sixteen words hold behind t rounds: the last words that belong to each place. -/
def Win (b : List Int) (t : Nat) (l : List Int) : Prop := l.length = 16 ∧ ∀ u, u < max t 16 → max t 16 ≤ u + 16 → rd l ((u % 16 : Nat) : Int) = fw b u

theorem Win.first (b : List Int) (h : b.length = 16) (t : Nat) (ht : t ≤ 16) : Win b t b := by
  refine ⟨h, fun u h1 h2 => ?_⟩
  have hu : u < 16 := by omega
  rw [fw, dif_pos hu, Nat.mod_eq_of_lt hu]

theorem rd_set (l : List Int) (i j : Nat) (x : Int) (hi : i < l.length) : rd (l.set i x) (j : Int) = if j = i then x else rd l (j : Int) := by
  simp only [rd, Int.toNat_natCast, List.getD_eq_getElem?_getD, List.getElem?_set]
  by_cases h : j = i
  · subst h; simp [hi]
  · simp [h, Ne.symm h]

theorem Win.step {b l : List Int} {t : Nat} (h : Win b t l) (ht : 16 ≤ t) : Win b (t + 1) (l.set (t % 16) (fw b t)) := by
  obtain ⟨h1, h2⟩ := h
  refine ⟨by simpa using h1, fun u hu1 hu2 => ?_⟩
  rw [rd_set l (t % 16) (u % 16) _ (by omega)]
  by_cases e : u = t
  · subst e; rw [if_pos rfl]
  · rw [if_neg (by omega)]
    exact h2 u (by omega) (by omega)

theorem fw_step (b : List Int) (t : Nat) (h : 16 ≤ t) : fw b t = (sg1 (fw b (t - 2)) + fw b (t - 7) + sg0 (fw b (t - 15)) + fw b (t - 16)) % 4294967296 := by
  rw [fw, dif_neg (by omega)]
theorem swap4 (a b c d : Int) : (a + b + c + d) % 4294967296 = (d + (a + b + c)) % 4294967296 := by rw [Int.add_comm (a + b + c) d]
theorem Win.next {b l : List Int} {t n15 n2 n7 : Nat} (h : Win b t l) (ht : 16 ≤ t) (e15 : t = n15 + 15) (e2 : t = n2 + 2) (e7 : t = n7 + 7) :
    fw b t = (rd l ((t % 16 : Nat) : Int) + (sg1 (rd l ((n2 % 16 : Nat) : Int)) + rd l ((n7 % 16 : Nat) : Int) + sg0 (rd l ((n15 % 16 : Nat) : Int)))) % 4294967296 := by
  have a15 : t - 15 = n15 := by omega
  have a2 : t - 2 = n2 := by omega
  have a7 : t - 7 = n7 := by omega
  have e16 : t % 16 = (t - 16) % 16 := by omega
  rw [fw_step b t ht, a15, a2, a7, e16, h.2 n15 (by omega) (by omega), h.2 n2 (by omega) (by omega), h.2 n7 (by omega) (by omega), h.2 (t - 16) (by omega) (by omega)]
  exact swap4 _ _ _ _

theorem wrap3 (a b c d : Int) : IntKind.u32.wrap (d + IntKind.u32.wrap (IntKind.u32.wrap (a + b) + c)) = (d + (a + b + c)) % 4294967296 := by
  simp only [IntKind.wrap_u32]; omega

theorem zero175 : (Tryz.prog.info? 175).map (fun i => (i.zero, i.size)) = some (some (.agg #[.int .u32 0, .int .u32 0, .int .u32 0, .int .u32 0, .int .u32 0, .int .u32 0, .int .u32 0, .int .u32 0]), 8) := by kernel_rfl
theorem size110 : (Tryz.prog.info? 110).map (·.size) = some 1 := by kernel_rfl
theorem vals_one (s : St) : s.vals.all (·.oneCell') = true := by simp [St.vals, Value.oneCell']

section
variable {P : Program} {ops : Array Oper} {rest : List Oper} {o : Oper} {a : Act} {Q : Exit → Act → World → Prop}
/-- A parameter that is an array or a struct, in a block of its own. -/
theorem box_blk {W : World} {t : Nat} {N : Tmp} {x : Operand} {cs : Array Value} (hgd : o.guard = none) (ho : o.op = .box t x) (hd : o.dst = some N) (hx : a.eval x = .agg cs) (hi : (P.info? t).map (·.size) = some cs.size) (h1 : cs.all (·.oneCell') = true)
    (hk : ∀ g w1, g = W.heap.size → Blk w1 g cs t → Below W.heap.size W w1 → wpList P ops Q rest (a.put (some N) (.pointer (some ⟨g, 0, none⟩))) w1) : wpList P ops Q (o :: rest) a W := by
  refine Kd.event_run hgd (v := .pointer (some ⟨W.heap.size, 0, none⟩)) (w1 := W.alloc (.cells cs t (0, 0))) ?_ (by rw [hd]; exact hk _ _ rfl (blk_new W _) (below_alloc (Below.refl _ _) _))
  have e : ∀ v : Value, v = .agg cs → ((do let v' ← Instr.box t v; pure (Next.value v')) : Sem Next).run P W = .ok (.value (.pointer (some ⟨W.heap.size, 0, none⟩))) (W.alloc (.cells cs t (0, 0))) := by
    rintro v rfl
    simp [go_sem, Instr.box, Value.cells, newVar]
  have := e _ hx
  simpa only [execOp, ho] using this
end

theorem index112 (K : Array Value) (t : Nat) (x : Int) (w : World) (h : t < 64) (hx : K[t]? = some (.int .u32 x)) :
    (Instr.index 112 (.agg K) (.int .i64 t)).run Tryz.prog w = .ok (.int .u32 x) w := by
  have h1 : (t : Int) < 64 := by omega
  simp [go_sem, Instr.index, Tryz.underlying112, part, hx, h1]
  omega

section
variable {P : Program} {ops : Array Oper} {o : Oper} {a : Act} {Q : Exit → Act → World → Prop} {Kc : Act → World → Prop}
theorem skip_step {W w1 : World} (hw : Region.wanted o (yielded ops a.tmps) = true) (hN : o.dst = none) (hrun : (execOp a.eval o).run P W = .ok .skip w1) (h : Kc (a.put none undef) w1) : if Region.wanted o (yielded ops a.tmps) = true then Oper.wp P o a W Kc Q else Kc (a.put none undef) W := by
  rw [if_pos hw]
  unfold Oper.wp
  rw [hrun]
  show Kc (a.put o.dst undef) w1
  rw [hN]
  exact h
theorem load_blk_step {W : World} {g t t' : Nat} {cs : Array Value} {d : TypeDesc} (hw : Region.wanted o (yielded ops a.tmps) = true) {p : Tmp} (ho : o.op = .load t (.tmp p)) (haddr : a.eval (.tmp p) = .pointer (some ⟨g, 0, none⟩)) (h : Blk W g cs t')
    (hu : P.underlying t = some d) (hd : (match d with | .struct _ | .array _ _ => true | _ => false) = true) (hi : (P.info? t).map (·.size) = some cs.size) (hk : Kc (a.put o.dst (.agg cs)) W) : if Region.wanted o (yielded ops a.tmps) = true then Oper.wp P o a W Kc Q else Kc (a.put o.dst undef) W := by
  refine event_step hw ?_ hk
  have := run_loadVar_row W g t' t cs (0, 0) d h hu hd hi
  simp [execOp, ho, haddr, Instr.loadAt, Instr.sureAddr, this]
theorem store_blk_step {W : World} {g t t' : Nat} {old cs : Array Value} (hw : Region.wanted o (yielded ops a.tmps) = true) {p : Tmp} {x : Operand} (ho : o.op = .store t (.tmp p) x) (hN : o.dst = none) (haddr : a.eval (.tmp p) = .pointer (some ⟨g, 0, none⟩)) (hv : a.eval x = .agg cs) (h : Blk W g old t')
    (hi : (P.info? t).map (·.size) = some cs.size) (hs : old.size = cs.size) (h1 : cs.all (·.oneCell') = true) (hk : Kc (a.put none undef) (W.setRow g cs)) : if Region.wanted o (yielded ops a.tmps) = true then Oper.wp P o a W Kc Q else Kc (a.put none undef) W := by
  refine skip_step hw hN ?_ hk
  have := run_storeVar_row W g t' t old cs h hi hs h1
  simp [execOp, ho, haddr, hv, Instr.storeAt, Instr.sureAddr, this]
theorem store_u32_step {W : World} {g t i : Nat} {l : List Int} {x : Int} (hw : Region.wanted o (yielded ops a.tmps) = true) {p : Tmp} {y : Operand} {ty : TypeId} (ho : o.op = .store ty (.tmp p) y) (hN : o.dst = none) (haddr : a.eval (.tmp p) = .pointer (some ⟨g, i, none⟩)) (hv : a.eval y = .int .u32 x) (h : Blk W g (u32s l) t) (hi : i < l.length)
    (hs : (P.info? ty).map (·.size) = some 1) (hk : ∀ w1, w1 = W.setCell ⟨g, i, none⟩ (.int .u32 x) → Kc (a.put none undef) w1) : if Region.wanted o (yielded ops a.tmps) = true then Oper.wp P o a W Kc Q else Kc (a.put none undef) W := by
  refine skip_step hw hN ?_ (hk _ rfl)
  obtain ⟨hc, hf⟩ := h.u32 i hi
  cases hq : P.info? ty with
  | none => simp [hq] at hs
  | some j =>
    have h1 : j.size = 1 := by simpa [hq] using hs
    have e : ∀ av yv : Value, av = .pointer (some ⟨g, i, none⟩) → yv = .int .u32 x → ((do Instr.storeAt ty av yv; pure Next.skip) : Sem Next).run P W = .ok .skip (W.setCell ⟨g, i, none⟩ (.int .u32 x)) := by
      rintro _ _ rfl rfl
      simp [Instr.storeAt, Instr.sureAddr, storeVar, sizeOf, typeInfo, hq, h1, Value.cells, storeCells, go_sem, hc, hf]
    have := e _ _ haddr hv
    simpa only [execOp, ho] using this
end

/-- Region tables, printed by rg.py. -/
def r137_9.T : Bool × List (List Nat × List Nat) := (true, [([], []), ([], []), ([], []), ([2], [2]), ([3], [3]), ([0, 1, 4], [0, 1, 4]), ([5, 5, 0, 1, 2, 3, 4, 5], [5])])
def r137_9.B : List Nat := [0, 0, 0, 4, 12, 31, 63]
theorem r137_9.tab : rtab .any (opsOf Tryz.f137 9) = r137_9.T := by kernel_rfl
theorem r137_9.bits : waitsOk r137_9.T.2 r137_9.B = true := by kernel_rfl
def r137_8.T : Bool × List (List Nat × List Nat) := (true, [([], []), ([0], [0]), ([1], [1]), ([], []), ([3], [3]), ([], []), ([5, 4], [5]), ([4, 6], [4, 6]), ([], []), ([8], [8]), ([7, 9], [7, 9]), ([], []), ([11], [11]), ([12], [12]), ([13], [13]), ([14], [14]), ([10, 15], [10, 15]), ([], []), ([17, 6], [17]), ([], []), ([19, 18], [19]), ([18, 20], [18, 20]), ([], []), ([22], [22]), ([21, 23], [21, 23]), ([16, 24], [16, 24]), ([2, 25], [2, 25]), ([0, 0, 1, 2, 3, 4, 5, 6, 7, 8, 9, 10, 11, 12, 13, 14, 15, 16, 17, 18, 19, 20, 21, 22, 23, 24, 25, 26], [0]), ([27, 26, 20, 0, 1, 2, 3, 4, 5, 6, 7, 8, 9, 10, 11, 12, 13, 14, 15, 16, 17, 18, 19, 20, 21, 22, 23, 24, 25, 26], [26, 27])])
def r137_8.B : List Nat := [0, 1, 3, 0, 8, 0, 56, 120, 0, 256, 1016, 0, 2048, 6144, 14336, 30720, 65528, 0, 131192, 0, 917624, 1966200, 0, 4194304, 16646264, 33554424, 67108863, 134217727, 268435455]
theorem r137_8.tab : rtab .any (opsOf Tryz.f137 8) = r137_8.T := by kernel_rfl
theorem r137_8.bits : waitsOk r137_8.T.2 r137_8.B = true := by kernel_rfl

set_option maxHeartbeats 4000000 in
set_option maxRecDepth 100000 in
theorem process_any (s : St) (b : List Int) (W : World) (hb : b.length = 16) :
    Calls Tryz.prog 137 #[.agg s.vals, .agg (u32s b)] W fun e w' => e = .returned (.agg (procS s b).vals) ∧ Below W.heap.size W w' := by
  obtain ⟨V, hV⟩ : ∃ V, s.vals = V := ⟨_, rfl⟩
  obtain ⟨B, hB⟩ : ∃ B, u32s b = B := ⟨_, rfl⟩
  obtain ⟨R, hR⟩ : ∃ R, (procS s b).vals = R := ⟨_, rfl⟩
  obtain ⟨K, hK⟩ : ∃ K, u32s kT = K := ⟨_, rfl⟩
  have HV := Aside0.mk hV
  have HBB := Aside0.mk hB
  have HR := Aside0.mk hR
  have HK := Aside0.mk hK
  have hvs : Aside0 (V.size = 8) := ⟨hV ▸ rfl⟩
  have hv1 : Aside0 (V.all (·.oneCell') = true) := ⟨hV ▸ vals_one s⟩
  have hbs : Aside0 (B.size = 16) := ⟨by rw [← hB, u32s_size, hb]⟩
  have hb1 : Aside0 (B.all (·.oneCell') = true) := ⟨hB ▸ u32s_one b⟩
  have hkc : Aside0 (∀ W, Calls Tryz.prog 141 #[] W fun e w' => e = .returned (.agg K) ∧ Below W.heap.size W w') := ⟨hK ▸ const_any⟩
  rw [hV, hB, hR]
  clear hV hB hR hK
  go_enter Tryz.func137, Tryz.ntmps137
  go_wp2_with (first
    | ((with_reducible refine gate_dst (N := 2) rfl ?_); refine box_blk rfl rfl rfl rfl (by rw [hvs.out]; exact size175) hv1.out ?_; intro g2 w1 hg hz hb'; have G2 := Aside0.mk hg; have Z2 := Aside0.mk hz; have HB := Aside0.mk hb'; clear hg hz hb')
    | ((with_reducible refine gate_dst (N := 3) rfl ?_); refine box_blk rfl rfl rfl rfl (by rw [hbs.out]; exact size191) hb1.out ?_; intro g3 w2 hg hz hb'; have G3 := Aside0.mk hg; have Z3 := Aside0.mk hz; have L3 := Aside0.mk (show g2 < g3 by rw [hg]; exact blk_lt Z2.out); have Y2 := Aside0.mk (Z2.out.below hb'); have HB2 := Aside0.mk (below_step HB.out hb'); clear hg hz hb' Z2)
    | ((with_reducible refine gate_dst (N := 4) rfl ?_); refine alloc_blk rfl rfl rfl zero175 ?_; intro g4 w3 hg hz hb'; have G4 := Aside0.mk (show g2 < g4 ∧ g3 < g4 by rw [hg]; exact ⟨blk_lt Y2.out, blk_lt Z3.out⟩); have Z4 := Aside0.mk hz; have X2 := Aside0.mk (Y2.out.below hb'); have X3 := Aside0.mk (Z3.out.below hb'); have HB3 := Aside0.mk (below_step HB2.out hb'); clear hg hz hb' Y2 Z3 HB HB2)
    | ((with_reducible refine gate_dst (N := 11) rfl ?_); refine load_blk rfl rfl rfl X2.out Tryz.underlying175 rfl (by rw [hvs.out]; exact size175) ?_)
    | ((with_reducible refine gate_dst (N := 5) rfl ?_); refine alloc_blk rfl rfl rfl zero175 ?_; intro g5 w4 hg hz hb'; have G5 := Aside0.mk (show g2 < g5 ∧ g3 < g5 ∧ g4 < g5 by rw [hg]; exact ⟨blk_lt X2.out, blk_lt X3.out, blk_lt Z4.out⟩); have Z5 := Aside0.mk hz; have U2 := Aside0.mk (X2.out.below hb'); have U3 := Aside0.mk (X3.out.below hb'); have U4 := Aside0.mk (Z4.out.below hb'); have HB4 := Aside0.mk (below_step HB3.out hb'); clear hg hz hb' X2 X3 Z4 HB3)
    | ((with_reducible refine gate_store (t := 175) (p := 5) (v := .tmp 11) rfl ?_); refine store_blk rfl rfl rfl rfl rfl Z5.out (by rw [hvs.out]; exact size175) (by rw [hvs.out]; rfl) hv1.out ?_))
  have hn : g2 < g5 ∧ g3 < g5 ∧ g4 < g5 := G5.out
  have P2 := Aside0.mk (U2.out.setRow_ne (g' := g5) V (by omega))
  have P3 := Aside0.mk (U3.out.setRow_ne (g' := g5) V (by omega))
  have P4 := Aside0.mk (U4.out.setRow_ne (g' := g5) V (by omega))
  have P5 := Aside0.mk (Z5.out.setRow V)
  have HB5 := Aside0.mk (below_setRow HB4.out (show W.heap.size ≤ g5 by have := G2.out; omega) V)
  clear U2 U3 U4 Z5 HB4 hn
  refine (hkc.out _).mono ?_
  rintro e w5 ⟨rfl, hb5⟩
  have S2 := Aside0.mk (P2.out.below hb5)
  have S3 := Aside0.mk (P3.out.below hb5)
  have S4 := Aside0.mk (P4.out.below hb5)
  have S5 := Aside0.mk (P5.out.below hb5)
  have HB6 := Aside0.mk (below_step HB5.out hb5)
  clear P2 P3 P4 P5 HB5 hb5 hkc
  go_wp2_with fail
  go_loopg [13] 64 (fun gf i wx => ∃ t : Nat, t ≤ 64 ∧ i = .int .i64 t ∧ Hid (64 ≤ t + gf) ∧ Aside0 (∃ l, Win b t l ∧ Blk wx g3 (u32s l) 191) ∧ Aside0 (Blk wx g5 (comp s (fw b) t).vals 175) ∧ Aside0 (Blk wx g2 V 175) ∧
    Aside0 (Blk wx g4 #[.int .u32 0, .int .u32 0, .int .u32 0, .int .u32 0, .int .u32 0, .int .u32 0, .int .u32 0, .int .u32 0] 175) ∧ Aside0 (Below W.heap.size W wx))
  case atStart => exact ⟨0, Nat.zero_le _, rfl, by unfold Hid; omega, ⟨b, Win.first b hb 0 (by omega), HBB.out ▸ S3.out⟩, ⟨HV.out ▸ S5.out⟩, S2, S4, HB6⟩
  case round =>
    clear S2 S3 S4 S5 HB6
    obtain ⟨t, ht, rfl, HG, HW, H5, H2, H4, HB⟩ := hrel
    obtain ⟨l, hwin, hblk⟩ := HW.out
    have HWin := Aside0.mk hwin
    have H3 := Aside0.mk hblk
    clear hwin hblk HW
    by_cases hlt : t < 64
    · have hkx : K[t]? = some (.int .u32 (rd kT (t : Int))) := by rw [← HK.out]; exact u32s_get kT t (by simpa [kT] using hlt)
      have hix := fun w => index112 K t _ w hlt hkx
      clear hkx
      obtain ⟨kt, hkt⟩ : ∃ x, rd kT (t : Int) = x := ⟨_, rfl⟩
      rw [hkt] at hix
      have HKT := Aside0.mk hkt
      clear hkt
      obtain ⟨st, hst⟩ : ∃ st, comp s (fw b) t = st := ⟨_, rfl⟩
      have HST := Aside0.mk H5.out
      rw [hst] at HST
      have HCP := Aside0.mk hst
      clear hst H5
      have HLen := Aside0.mk HWin.out.1
      obtain ⟨x0, hxx⟩ : ∃ x0, fw b t = x0 := ⟨_, rfl⟩
      have HX := Aside0.mk hxx
      obtain ⟨m, hm⟩ : ∃ m : Nat, t % 16 = m := ⟨_, rfl⟩
      have hm16 : m < 16 := by omega
      have hmi : (t : Int) % 16 = (m : Int) := by omega
      have p0 : (0 : Int) ≤ (m : Int) := by omega
      have p1 : (m : Int) < 16 := by omega
      have HM := Aside0.mk hm
      by_cases h16 : t < 16
      · have hx0 : rd l ((t % 16 : Nat) : Int) = x0 := by rw [HWin.out.2 t (by omega) (by omega)]; exact hxx
        rw [hm] at hx0
        have HX0 := Aside0.mk hx0
        clear hx0 hxx hm
        go_wp2_with fail
        have hx0 := HX0.out
        clear HX0
        refine start_ (n := 7) (S := fun w' => Blk w' g3 (u32s l) 191 ∧ Blk w' g5 (St.vals st) 175 ∧ Blk w' g2 V 175 ∧ Blk w' g4 #[.int .u32 0, .int .u32 0, .int .u32 0, .int .u32 0, .int .u32 0, .int .u32 0, .int .u32 0, .int .u32 0] 175 ∧ Below W.heap.size W w') (ds := [6]) #[false, false, false, false, false, false, false] (by kernel_rfl) rfl rfl ⟨H3.out, HST.out, H2.out, H4.out, below_drew HB.out⟩ (fun hHeld => ?_)
        refine with_tabW r137_9.tab r137_9.bits (fun HT_ HW_ => ?_)
        generalize wr.drew = wd at hHeld ⊢
        have HH := Aside0.mk hHeld
        clear hHeld
        refine pure_ (i := 1) (N := some 60) (v := ?_) (a' := ?_) #[false, true, false, false, false, false, false] rfl rfl (any_of HT_.out (by kernel_rfl)) (fun _ _ _ h => h) (Or.inl ⟨by rfl, ?_⟩) ?_ ?_
        rotate_left
        · intro w'
          go_simp
          with_reducible rfl
        rotate_left
        · simp only [Act.put, List.setIfInBounds_toArray, List.set_cons_zero, List.set_cons_succ, i64_w, i32_w]
          rfl
        refine pure_ (i := 2) (N := some 61) (v := ?_) (a' := ?_) #[false, true, true, false, false, false, false] rfl rfl (any_of HT_.out (by kernel_rfl)) (fun _ _ _ h => h) (Or.inl ⟨by rfl, ?_⟩) ?_ ?_
        rotate_left
        · intro w'
          go_simp
          with_reducible rfl
        rotate_left
        · simp only [Act.put, List.setIfInBounds_toArray, List.set_cons_zero, List.set_cons_succ, i64_w, i32_w]
          rfl
        refine pure_ (i := 3) (N := some 62) (v := ?_) (a' := ?_) #[false, true, true, true, false, false, false] rfl rfl (any_of HT_.out (by kernel_rfl)) (fun _ _ _ h => h) (Or.inl ⟨by rfl, ?_⟩) ?_ ?_
        rotate_left
        · intro w'
          go_simp
          with_reducible rfl
        rotate_left
        · simp only [Act.put, List.setIfInBounds_toArray, List.set_cons_zero, List.set_cons_succ, i64_w, i32_w]
          rfl
        refine take_ (i := 4) (N := some 63) (v := ?_) (a' := ?_) #[false, true, true, true, true, false, false] rfl rfl (take_ofW HT_.out HW_.out (by kernel_rfl)) (fun _ _ _ h => h) (Or.inl ⟨by rfl, ?_⟩) HH.out ?_ ?_
        rotate_left
        · intro w' hS'
          have c0 := (hS'.1.u32 m (by rw [HLen.out]; omega)).1
          rw [hx0] at c0
          go_simp
          with_reducible rfl
        rotate_left
        · simp only [Act.put, List.setIfInBounds_toArray, List.set_cons_zero, List.set_cons_succ, i64_w, i32_w]
          rfl
        refine one_ (i := 0) (N := some 59) #[true, true, true, true, true, false, false] rfl rfl (one_of HT_.out (by kernel_rfl)) (by decide) (fun K hK => ?_)
        refine load_blk_step rfl rfl rfl HH.out.2.1 Tryz.underlying175 rfl size175 ?_
        refine hK.out _ _ HH.out (fun _ => ?_)
        clear hK K
        refine norm_ (a' := ?_) ?_ ?_
        rotate_left
        · show Act.put _ (some 59) _ = _
          simp only [Act.put, List.setIfInBounds_toArray, List.set_cons_zero, List.set_cons_succ, i64_w, i32_w]
          rfl
        refine one_ (i := 5) (N := some 64) #[true, true, true, true, true, true, false] rfl rfl (one_of HT_.out (by kernel_rfl)) (by decide) (fun K hK => ?_)
        refine goes_ Tryz.func143 (by kernel_rfl) rfl #[.agg (St.vals st), .int .u32 kt, .int .u32 x0] (by rfl) rfl rfl (by simp only [List.map_toArray, List.map_cons, List.map_nil]; rfl) ?_
        refine (round_any st kt x0 _).mono ?_
        rintro e w' ⟨rfl, hb⟩
        refine ⟨_, rfl, hK.out _ _ ⟨HH.out.1.below hb, HH.out.2.1.below hb, HH.out.2.2.1.below hb, HH.out.2.2.2.1.below hb, below_step HH.out.2.2.2.2 hb⟩ (fun hHeld => ?_)⟩
        have HH2 := Aside0.mk hHeld
        clear hHeld hb HH
        have HH := HH2
        clear HH2
        clear hK K
        refine norm_ (a' := ?_) ?_ ?_
        rotate_left
        · show Act.put _ (some 64) _ = _
          simp only [Act.put, List.setIfInBounds_toArray, List.set_cons_zero, List.set_cons_succ, i64_w, i32_w]
          rfl
        refine last_ (i := 6) (N := none) #[true, true, true, true, true, true, true] rfl rfl (one_of HT_.out (by kernel_rfl)) (by decide) (fun K hK => ?_)
        refine store_blk_step rfl rfl rfl rfl rfl HH.out.2.1 size175 rfl (vals_one _) ?_
        refine hK.out _ _ ?_
        clear hK K
        refine done_ (done_of HT_.out (by kernel_rfl)) ?_
        clear hx0
        go_wp2_with fail
        go_roundg (gk - 1)
        case measure => have := HG.out; omega
        case rel =>
          refine ⟨t + 1, by omega, by go_num, by have := HG.out; unfold Hid; omega, ⟨l, ?_, HH.out.1.setRow_ne _ (by have := G5.out; omega)⟩, ⟨?_⟩, ⟨HH.out.2.2.1.setRow_ne _ (by have := G5.out; omega)⟩, ⟨HH.out.2.2.2.1.setRow_ne _ (by have := G5.out; omega)⟩, ⟨below_setRow HH.out.2.2.2.2 (by have := G5.out; have := G2.out; omega) _⟩⟩
          · have h := HWin.out
            refine ⟨h.1, fun u h1 h2 => h.2 u (by omega) (by omega)⟩
          · show Blk _ g5 (St.vals (rnd (comp s (fw b) t) (rd kT (t : Int)) (fw b t))) 175
            rw [HCP.out, HKT.out, HX.out]
            exact HH.out.2.1.setRow _
      · obtain ⟨n15, e15⟩ : ∃ n : Nat, t = n + 15 := ⟨t - 15, by omega⟩
        obtain ⟨n2, e2⟩ : ∃ n : Nat, t = n + 2 := ⟨t - 2, by omega⟩
        obtain ⟨n7, e7⟩ : ∃ n : Nat, t = n + 7 := ⟨t - 7, by omega⟩
        have q15 : IntKind.i64.wrap ((t : Int) - 15) = (n15 : Int) := by rw [IntWalk.i64_in _ (by omega)]; omega
        have q2 : IntKind.i64.wrap ((t : Int) - 2) = (n2 : Int) := by rw [IntWalk.i64_in _ (by omega)]; omega
        have q7 : IntKind.i64.wrap ((t : Int) - 7) = (n7 : Int) := by rw [IntWalk.i64_in _ (by omega)]; omega
        obtain ⟨y15, hy15⟩ : ∃ y, rd l ((n15 % 16 : Nat) : Int) = y := ⟨_, rfl⟩
        obtain ⟨y2, hy2⟩ : ∃ y, rd l ((n2 % 16 : Nat) : Int) = y := ⟨_, rfl⟩
        obtain ⟨y7, hy7⟩ : ∃ y, rd l ((n7 % 16 : Nat) : Int) = y := ⟨_, rfl⟩
        obtain ⟨y16, hy16⟩ : ∃ y, rd l ((t % 16 : Nat) : Int) = y := ⟨_, rfl⟩
        obtain ⟨m15, hm15⟩ : ∃ m : Nat, n15 % 16 = m := ⟨_, rfl⟩
        obtain ⟨m2, hm2⟩ : ∃ m : Nat, n2 % 16 = m := ⟨_, rfl⟩
        obtain ⟨m7, hm7⟩ : ∃ m : Nat, n7 % 16 = m := ⟨_, rfl⟩
        have i15 : (n15 : Int) % 16 = (m15 : Int) := by omega
        have i2 : (n2 : Int) % 16 = (m2 : Int) := by omega
        have i7 : (n7 : Int) % 16 = (m7 : Int) := by omega
        have j15 : Int.tmod (n15 : Int) 16 = (m15 : Int) := by rw [Int.tmod_eq_emod_of_nonneg (by omega)]; exact i15
        have j2 : Int.tmod (n2 : Int) 16 = (m2 : Int) := by rw [Int.tmod_eq_emod_of_nonneg (by omega)]; exact i2
        have j7 : Int.tmod (n7 : Int) 16 = (m7 : Int) := by rw [Int.tmod_eq_emod_of_nonneg (by omega)]; exact i7
        have b15 : (m15 : Int) < 16 := by omega
        have b2 : (m2 : Int) < 16 := by omega
        have b7 : (m7 : Int) < 16 := by omega
        have z15 : (0 : Int) ≤ (m15 : Int) := by omega
        have z2 : (0 : Int) ≤ (m2 : Int) := by omega
        have z7 : (0 : Int) ≤ (m7 : Int) := by omega
        have hfw : x0 = (y16 + (sg1 y2 + y7 + sg0 y15)) % 4294967296 := by
          rw [← hxx, ← hy15, ← hy2, ← hy7, ← hy16]
          exact HWin.out.next (by omega) e15 e2 e7
        have HF := Aside0.mk hfw
        have c15 := (H3.out.u32 m15 (by rw [HLen.out]; omega)).1
        have c2 := (H3.out.u32 m2 (by rw [HLen.out]; omega)).1
        rw [hm15] at hy15
        rw [hm2] at hy2
        rw [hm7] at hy7
        rw [hm] at hy16
        rw [hy15] at c15
        rw [hy2] at c2
        have HY7 := Aside0.mk hy7
        have HY16 := Aside0.mk hy16
        clear hfw hxx hy15 hy2 hy7 hy16 e15 e2 e7 hm hm15 hm2 hm7
        go_wp2_with fail
        go_quiet (fail)
        clear c15 c2
        have HQ3 := Aside0.mk (show Blk (wr.drewN nq) g3 (u32s l) 191 from H3.out)
        have HQST := Aside0.mk (show Blk (wr.drewN nq) g5 (St.vals st) 175 from HST.out)
        have HQ2 := Aside0.mk (show Blk (wr.drewN nq) g2 V 175 from H2.out)
        have HQ4 := Aside0.mk (show Blk (wr.drewN nq) g4 #[.int .u32 0, .int .u32 0, .int .u32 0, .int .u32 0, .int .u32 0, .int .u32 0, .int .u32 0, .int .u32 0] 175 from H4.out)
        have HQB := Aside0.mk (pw_below_drewN HB.out nq)
        generalize wr.drewN nq = wq at HQ3 HQST HQ2 HQ4 HQB ⊢
        clear H3 HST H2 H4 HB
        go_wp2_with fail
        have hy7 := HY7.out
        have hy16 := HY16.out
        refine start_ (n := 29) (S := fun w' => Blk w' g3 (u32s l) 191 ∧ Blk w' g5 (St.vals st) 175 ∧ Blk w' g2 V 175 ∧ Blk w' g4 #[.int .u32 0, .int .u32 0, .int .u32 0, .int .u32 0, .int .u32 0, .int .u32 0, .int .u32 0, .int .u32 0] 175 ∧ Below W.heap.size W w') (ds := [28]) #[false, false, false, false, false, false, false, false, false, false, false, false, false, false, false, false, false, false, false, false, false, false, false, false, false, false, false, false, false] (by kernel_rfl) rfl rfl ⟨HQ3.out, HQST.out, HQ2.out, HQ4.out, below_drew HQB.out⟩ (fun hHeld => ?_)
        refine with_tabW r137_8.tab r137_8.bits (fun HT_ HW_ => ?_)
        generalize wq.drew = wd at hHeld ⊢
        have HH := Aside0.mk hHeld
        clear hHeld
        refine pure_ (i := 0) (N := some 31) (v := ?_) (a' := ?_) #[true, false, false, false, false, false, false, false, false, false, false, false, false, false, false, false, false, false, false, false, false, false, false, false, false, false, false, false, false] rfl rfl (any_of HT_.out (by kernel_rfl)) (fun _ _ _ h => h) (Or.inl ⟨by rfl, ?_⟩) ?_ ?_
        rotate_left
        · intro w'
          go_simp
          with_reducible rfl
        rotate_left
        · simp only [Act.put, List.setIfInBounds_toArray, List.set_cons_zero, List.set_cons_succ, i64_w, i32_w]
          rfl
        refine pure_ (i := 1) (N := some 32) (v := ?_) (a' := ?_) #[true, true, false, false, false, false, false, false, false, false, false, false, false, false, false, false, false, false, false, false, false, false, false, false, false, false, false, false, false] rfl rfl (any_of HT_.out (by kernel_rfl)) (fun _ _ _ h => h) (Or.inl ⟨by rfl, ?_⟩) ?_ ?_
        rotate_left
        · intro w'
          go_simp
          with_reducible rfl
        rotate_left
        · simp only [Act.put, List.setIfInBounds_toArray, List.set_cons_zero, List.set_cons_succ, i64_w, i32_w]
          rfl
        refine pure_ (i := 3) (N := some 34) (v := ?_) (a' := ?_) #[true, true, false, true, false, false, false, false, false, false, false, false, false, false, false, false, false, false, false, false, false, false, false, false, false, false, false, false, false] rfl rfl (any_of HT_.out (by kernel_rfl)) (fun _ _ _ h => h) (Or.inl ⟨by rfl, ?_⟩) ?_ ?_
        rotate_left
        · intro w'
          go_simp
          with_reducible rfl
        rotate_left
        · simp only [Act.put, List.setIfInBounds_toArray, List.set_cons_zero, List.set_cons_succ, i64_w, i32_w]
          rfl
        refine pure_ (i := 5) (N := some 36) (v := ?_) (a' := ?_) #[true, true, false, true, false, true, false, false, false, false, false, false, false, false, false, false, false, false, false, false, false, false, false, false, false, false, false, false, false] rfl rfl (any_of HT_.out (by kernel_rfl)) (fun _ _ _ h => h) (Or.inl ⟨by rfl, ?_⟩) ?_ ?_
        rotate_left
        · intro w'
          go_simp
          with_reducible rfl
        rotate_left
        · simp only [Act.put, List.setIfInBounds_toArray, List.set_cons_zero, List.set_cons_succ, i64_w, i32_w]
          rfl
        refine pure_ (i := 8) (N := some 39) (v := ?_) (a' := ?_) #[true, true, false, true, false, true, false, false, true, false, false, false, false, false, false, false, false, false, false, false, false, false, false, false, false, false, false, false, false] rfl rfl (any_of HT_.out (by kernel_rfl)) (fun _ _ _ h => h) (Or.inl ⟨by rfl, ?_⟩) ?_ ?_
        rotate_left
        · intro w'
          go_simp
          with_reducible rfl
        rotate_left
        · simp only [Act.put, List.setIfInBounds_toArray, List.set_cons_zero, List.set_cons_succ, i64_w, i32_w]
          rfl
        refine pure_ (i := 9) (N := some 40) (v := ?_) (a' := ?_) #[true, true, false, true, false, true, false, false, true, true, false, false, false, false, false, false, false, false, false, false, false, false, false, false, false, false, false, false, false] rfl rfl (any_of HT_.out (by kernel_rfl)) (fun _ _ _ h => h) (Or.inl ⟨by rfl, ?_⟩) ?_ ?_
        rotate_left
        · intro w'
          go_simp
          with_reducible rfl
        rotate_left
        · simp only [Act.put, List.setIfInBounds_toArray, List.set_cons_zero, List.set_cons_succ, i64_w, i32_w]
          rfl
        refine pure_ (i := 11) (N := some 42) (v := ?_) (a' := ?_) #[true, true, false, true, false, true, false, false, true, true, false, true, false, false, false, false, false, false, false, false, false, false, false, false, false, false, false, false, false] rfl rfl (any_of HT_.out (by kernel_rfl)) (fun _ _ _ h => h) (Or.inl ⟨by rfl, ?_⟩) ?_ ?_
        rotate_left
        · intro w'
          go_simp
          with_reducible rfl
        rotate_left
        · simp only [Act.put, List.setIfInBounds_toArray, List.set_cons_zero, List.set_cons_succ, i64_w, i32_w]
          rfl
        refine pure_ (i := 12) (N := some 43) (v := ?_) (a' := ?_) #[true, true, false, true, false, true, false, false, true, true, false, true, true, false, false, false, false, false, false, false, false, false, false, false, false, false, false, false, false] rfl rfl (any_of HT_.out (by kernel_rfl)) (fun _ _ _ h => h) (Or.inl ⟨by rfl, ?_⟩) ?_ ?_
        rotate_left
        · intro w'
          go_simp
          with_reducible rfl
        rotate_left
        · simp only [Act.put, List.setIfInBounds_toArray, List.set_cons_zero, List.set_cons_succ, i64_w, i32_w]
          rfl
        refine pure_ (i := 13) (N := some 44) (v := ?_) (a' := ?_) #[true, true, false, true, false, true, false, false, true, true, false, true, true, true, false, false, false, false, false, false, false, false, false, false, false, false, false, false, false] rfl rfl (any_of HT_.out (by kernel_rfl)) (fun _ _ _ h => h) (Or.inl ⟨by rfl, ?_⟩) ?_ ?_
        rotate_left
        · intro w'
          go_simp
          with_reducible rfl
        rotate_left
        · simp only [Act.put, List.setIfInBounds_toArray, List.set_cons_zero, List.set_cons_succ, i64_w, i32_w]
          rfl
        refine pure_ (i := 14) (N := some 45) (v := ?_) (a' := ?_) #[true, true, false, true, false, true, false, false, true, true, false, true, true, true, true, false, false, false, false, false, false, false, false, false, false, false, false, false, false] rfl rfl (any_of HT_.out (by kernel_rfl)) (fun _ _ _ h => h) (Or.inl ⟨by rfl, ?_⟩) ?_ ?_
        rotate_left
        · intro w'
          go_simp
          with_reducible rfl
        rotate_left
        · simp only [Act.put, List.setIfInBounds_toArray, List.set_cons_zero, List.set_cons_succ, i64_w, i32_w]
          rfl
        refine pure_ (i := 17) (N := some 48) (v := ?_) (a' := ?_) #[true, true, false, true, false, true, false, false, true, true, false, true, true, true, true, false, false, true, false, false, false, false, false, false, false, false, false, false, false] rfl rfl (any_of HT_.out (by kernel_rfl)) (fun _ _ _ h => h) (Or.inl ⟨by rfl, ?_⟩) ?_ ?_
        rotate_left
        · intro w'
          go_simp
          with_reducible rfl
        rotate_left
        · simp only [Act.put, List.setIfInBounds_toArray, List.set_cons_zero, List.set_cons_succ, i64_w, i32_w]
          rfl
        refine pure_ (i := 19) (N := some 50) (v := ?_) (a' := ?_) #[true, true, false, true, false, true, false, false, true, true, false, true, true, true, true, false, false, true, false, true, false, false, false, false, false, false, false, false, false] rfl rfl (any_of HT_.out (by kernel_rfl)) (fun _ _ _ h => h) (Or.inl ⟨by rfl, ?_⟩) ?_ ?_
        rotate_left
        · intro w'
          go_simp
          with_reducible rfl
        rotate_left
        · simp only [Act.put, List.setIfInBounds_toArray, List.set_cons_zero, List.set_cons_succ, i64_w, i32_w]
          rfl
        refine pure_ (i := 22) (N := some 53) (v := ?_) (a' := ?_) #[true, true, false, true, false, true, false, false, true, true, false, true, true, true, true, false, false, true, false, true, false, false, true, false, false, false, false, false, false] rfl rfl (any_of HT_.out (by kernel_rfl)) (fun _ _ _ h => h) (Or.inl ⟨by rfl, ?_⟩) ?_ ?_
        rotate_left
        · intro w'
          go_simp
          with_reducible rfl
        rotate_left
        · simp only [Act.put, List.setIfInBounds_toArray, List.set_cons_zero, List.set_cons_succ, i64_w, i32_w]
          rfl
        refine pure_ (i := 23) (N := some 54) (v := ?_) (a' := ?_) #[true, true, false, true, false, true, false, false, true, true, false, true, true, true, true, false, false, true, false, true, false, false, true, true, false, false, false, false, false] rfl rfl (any_of HT_.out (by kernel_rfl)) (fun _ _ _ h => h) (Or.inl ⟨by rfl, ?_⟩) ?_ ?_
        rotate_left
        · intro w'
          go_simp
          with_reducible rfl
        rotate_left
        · simp only [Act.put, List.setIfInBounds_toArray, List.set_cons_zero, List.set_cons_succ, i64_w, i32_w]
          rfl
        refine take_ (i := 2) (N := some 33) (v := ?_) (a' := ?_) #[true, true, true, true, false, true, false, false, true, true, false, true, true, true, true, false, false, true, false, true, false, false, true, true, false, false, false, false, false] rfl rfl (take_ofW HT_.out HW_.out (by kernel_rfl)) (fun _ _ _ h => h) (Or.inl ⟨by rfl, ?_⟩) HH.out ?_ ?_
        rotate_left
        · intro w' hS'
          have c0 := (hS'.1.u32 m (by rw [HLen.out]; omega)).1
          rw [hy16] at c0
          go_simp
          with_reducible rfl
        rotate_left
        · simp only [Act.put, List.setIfInBounds_toArray, List.set_cons_zero, List.set_cons_succ, i64_w, i32_w]
          rfl
        refine take_ (i := 15) (N := some 46) (v := ?_) (a' := ?_) #[true, true, true, true, false, true, false, false, true, true, false, true, true, true, true, true, false, true, false, true, false, false, true, true, false, false, false, false, false] rfl rfl (take_ofW HT_.out HW_.out (by kernel_rfl)) (fun _ _ _ h => h) (Or.inl ⟨by rfl, ?_⟩) HH.out ?_ ?_
        rotate_left
        · intro w' hS'
          have c0 := (hS'.1.u32 m7 (by rw [HLen.out]; omega)).1
          rw [hy7] at c0
          go_simp
          with_reducible rfl
        rotate_left
        · simp only [Act.put, List.setIfInBounds_toArray, List.set_cons_zero, List.set_cons_succ, i64_w, i32_w]
          rfl
        refine one_ (i := 4) (N := some 35) #[true, true, true, true, true, true, false, false, true, true, false, true, true, true, true, true, false, true, false, true, false, false, true, true, false, false, false, false, false] rfl rfl (one_of HT_.out (by kernel_rfl)) (by decide) (fun K hK => ?_)
        refine goes_ Tryz.func142 (by kernel_rfl) rfl #[.int .u32 y2, .int .i64 17] (by rfl) rfl rfl (by simp only [List.map_toArray, List.map_cons, List.map_nil]; rfl) ?_
        refine (right_any y2 17 _ (by omega) (by omega)).mono ?_
        rintro e w' ⟨rfl, nd, rfl⟩
        refine ⟨_, rfl, hK.out _ _ ⟨HH.out.1, HH.out.2.1, HH.out.2.2.1, HH.out.2.2.2.1, pw_below_drewN HH.out.2.2.2.2 _⟩ (fun hHeld => ?_)⟩
        have HH2 := Aside0.mk hHeld
        clear hHeld HH
        have HH := HH2
        clear HH2
        clear hK K
        refine norm_ (a' := ?_) ?_ ?_
        rotate_left
        · show Act.put _ (some 35) _ = _
          simp only [Act.put, List.setIfInBounds_toArray, List.set_cons_zero, List.set_cons_succ, i64_w, i32_w]
          rfl
        refine one_ (i := 6) (N := some 37) #[true, true, true, true, true, true, true, false, true, true, false, true, true, true, true, true, false, true, false, true, false, false, true, true, false, false, false, false, false] rfl rfl (one_of HT_.out (by kernel_rfl)) (by decide) (fun K hK => ?_)
        refine goes_ Tryz.func142 (by kernel_rfl) rfl #[.int .u32 y2, .int .i64 19] (by rfl) rfl rfl (by simp only [List.map_toArray, List.map_cons, List.map_nil]; rfl) ?_
        refine (right_any y2 19 _ (by omega) (by omega)).mono ?_
        rintro e w' ⟨rfl, nd, rfl⟩
        refine ⟨_, rfl, hK.out _ _ ⟨HH.out.1, HH.out.2.1, HH.out.2.2.1, HH.out.2.2.2.1, pw_below_drewN HH.out.2.2.2.2 _⟩ (fun hHeld => ?_)⟩
        have HH2 := Aside0.mk hHeld
        clear hHeld HH
        have HH := HH2
        clear HH2
        clear hK K
        refine norm_ (a' := ?_) ?_ ?_
        rotate_left
        · show Act.put _ (some 37) _ = _
          simp only [Act.put, List.setIfInBounds_toArray, List.set_cons_zero, List.set_cons_succ, i64_w, i32_w]
          rfl
        refine pure_ (i := 7) (N := some 38) (v := ?_) (a' := ?_) #[true, true, true, true, true, true, true, true, true, true, false, true, true, true, true, true, false, true, false, true, false, false, true, true, false, false, false, false, false] rfl rfl (any_of HT_.out (by kernel_rfl)) (fun _ _ _ h => h) (Or.inl ⟨by rfl, ?_⟩) ?_ ?_
        rotate_left
        · intro w'
          go_simp
          with_reducible rfl
        rotate_left
        · simp only [Act.put, List.setIfInBounds_toArray, List.set_cons_zero, List.set_cons_succ, i64_w, i32_w]
          rfl
        refine pure_ (i := 10) (N := some 41) (v := ?_) (a' := ?_) #[true, true, true, true, true, true, true, true, true, true, true, true, true, true, true, true, false, true, false, true, false, false, true, true, false, false, false, false, false] rfl rfl (any_of HT_.out (by kernel_rfl)) (fun _ _ _ h => h) (Or.inl ⟨by rfl, ?_⟩) ?_ ?_
        rotate_left
        · intro w'
          go_simp
          with_reducible rfl
        rotate_left
        · simp only [Act.put, List.setIfInBounds_toArray, List.set_cons_zero, List.set_cons_succ, i64_w, i32_w]
          rfl
        refine pure_ (i := 16) (N := some 47) (v := ?_) (a' := ?_) #[true, true, true, true, true, true, true, true, true, true, true, true, true, true, true, true, true, true, false, true, false, false, true, true, false, false, false, false, false] rfl rfl (any_of HT_.out (by kernel_rfl)) (fun _ _ _ h => h) (Or.inl ⟨by rfl, ?_⟩) ?_ ?_
        rotate_left
        · intro w'
          go_simp
          with_reducible rfl
        rotate_left
        · simp only [Act.put, List.setIfInBounds_toArray, List.set_cons_zero, List.set_cons_succ, i64_w, i32_w]
          rfl
        refine one_ (i := 18) (N := some 49) #[true, true, true, true, true, true, true, true, true, true, true, true, true, true, true, true, true, true, true, true, false, false, true, true, false, false, false, false, false] rfl rfl (one_of HT_.out (by kernel_rfl)) (by decide) (fun K hK => ?_)
        refine goes_ Tryz.func142 (by kernel_rfl) rfl #[.int .u32 y15, .int .i64 7] (by rfl) rfl rfl (by simp only [List.map_toArray, List.map_cons, List.map_nil]; rfl) ?_
        refine (right_any y15 7 _ (by omega) (by omega)).mono ?_
        rintro e w' ⟨rfl, nd, rfl⟩
        refine ⟨_, rfl, hK.out _ _ ⟨HH.out.1, HH.out.2.1, HH.out.2.2.1, HH.out.2.2.2.1, pw_below_drewN HH.out.2.2.2.2 _⟩ (fun hHeld => ?_)⟩
        have HH2 := Aside0.mk hHeld
        clear hHeld HH
        have HH := HH2
        clear HH2
        clear hK K
        refine norm_ (a' := ?_) ?_ ?_
        rotate_left
        · show Act.put _ (some 49) _ = _
          simp only [Act.put, List.setIfInBounds_toArray, List.set_cons_zero, List.set_cons_succ, i64_w, i32_w]
          rfl
        refine one_ (i := 20) (N := some 51) #[true, true, true, true, true, true, true, true, true, true, true, true, true, true, true, true, true, true, true, true, true, false, true, true, false, false, false, false, false] rfl rfl (one_of HT_.out (by kernel_rfl)) (by decide) (fun K hK => ?_)
        refine goes_ Tryz.func142 (by kernel_rfl) rfl #[.int .u32 y15, .int .i64 18] (by rfl) rfl rfl (by simp only [List.map_toArray, List.map_cons, List.map_nil]; rfl) ?_
        refine (right_any y15 18 _ (by omega) (by omega)).mono ?_
        rintro e w' ⟨rfl, nd, rfl⟩
        refine ⟨_, rfl, hK.out _ _ ⟨HH.out.1, HH.out.2.1, HH.out.2.2.1, HH.out.2.2.2.1, pw_below_drewN HH.out.2.2.2.2 _⟩ (fun hHeld => ?_)⟩
        have HH2 := Aside0.mk hHeld
        clear hHeld HH
        have HH := HH2
        clear HH2
        clear hK K
        refine norm_ (a' := ?_) ?_ ?_
        rotate_left
        · show Act.put _ (some 51) _ = _
          simp only [Act.put, List.setIfInBounds_toArray, List.set_cons_zero, List.set_cons_succ, i64_w, i32_w]
          rfl
        refine pure_ (i := 21) (N := some 52) (v := ?_) (a' := ?_) #[true, true, true, true, true, true, true, true, true, true, true, true, true, true, true, true, true, true, true, true, true, true, true, true, false, false, false, false, false] rfl rfl (any_of HT_.out (by kernel_rfl)) (fun _ _ _ h => h) (Or.inl ⟨by rfl, ?_⟩) ?_ ?_
        rotate_left
        · intro w'
          go_simp
          with_reducible rfl
        rotate_left
        · simp only [Act.put, List.setIfInBounds_toArray, List.set_cons_zero, List.set_cons_succ, i64_w, i32_w]
          rfl
        refine pure_ (i := 24) (N := some 55) (v := ?_) (a' := ?_) #[true, true, true, true, true, true, true, true, true, true, true, true, true, true, true, true, true, true, true, true, true, true, true, true, true, false, false, false, false] rfl rfl (any_of HT_.out (by kernel_rfl)) (fun _ _ _ h => h) (Or.inl ⟨by rfl, ?_⟩) ?_ ?_
        rotate_left
        · intro w'
          go_simp
          with_reducible rfl
        rotate_left
        · simp only [Act.put, List.setIfInBounds_toArray, List.set_cons_zero, List.set_cons_succ, i64_w, i32_w]
          rfl
        refine pure_ (i := 25) (N := some 56) (v := ?_) (a' := ?_) #[true, true, true, true, true, true, true, true, true, true, true, true, true, true, true, true, true, true, true, true, true, true, true, true, true, true, false, false, false] rfl rfl (any_of HT_.out (by kernel_rfl)) (fun _ _ _ h => h) (Or.inl ⟨by rfl, ?_⟩) ?_ ?_
        rotate_left
        · intro w'
          go_simp
          with_reducible rfl
        rotate_left
        · simp only [Act.put, List.setIfInBounds_toArray, List.set_cons_zero, List.set_cons_succ, i64_w, i32_w]
          rfl
        refine pure_ (i := 26) (N := some 57) (v := ?_) (a' := ?_) #[true, true, true, true, true, true, true, true, true, true, true, true, true, true, true, true, true, true, true, true, true, true, true, true, true, true, true, false, false] rfl rfl (any_of HT_.out (by kernel_rfl)) (fun _ _ _ h => h) (Or.inl ⟨by rfl, ?_⟩) ?_ ?_
        rotate_left
        · intro w'
          go_simp
          with_reducible rfl
        rotate_left
        · simp only [Act.put, List.setIfInBounds_toArray, List.set_cons_zero, List.set_cons_succ, i64_w, i32_w]
          rfl
        refine pure_ (i := 27) (N := some 58) (v := ?_) (a' := ?_) #[true, true, true, true, true, true, true, true, true, true, true, true, true, true, true, true, true, true, true, true, true, true, true, true, true, true, true, true, false] rfl rfl (any_of HT_.out (by kernel_rfl)) (fun _ _ _ h => h) (Or.inl ⟨by rfl, ?_⟩) ?_ ?_
        rotate_left
        · intro w'
          go_simp
          with_reducible rfl
        rotate_left
        · simp only [Act.put, List.setIfInBounds_toArray, List.set_cons_zero, List.set_cons_succ, i64_w, i32_w]
          rfl
        refine last_ (i := 28) (N := none) #[true, true, true, true, true, true, true, true, true, true, true, true, true, true, true, true, true, true, true, true, true, true, true, true, true, true, true, true, true] rfl rfl (one_of HT_.out (by kernel_rfl)) (by decide) (fun K hK => ?_)
        refine store_u32_step (x := x0) (i := m) rfl rfl rfl rfl (by rw [HF.out]; exact congrArg (Value.int .u32) (wrap3 (sg1 y2) y7 (sg0 y15) y16)) HH.out.1 (by rw [HLen.out]; omega) size110 ?_
        intro w9 hw9
        have HQ3' := Aside0.mk (show Blk w9 g3 (u32s (l.set m x0)) 191 from hw9 ▸ HH.out.1.put m x0)
        have HQST' := Aside0.mk (show Blk w9 g5 (St.vals st) 175 from hw9 ▸ HH.out.2.1.set_ne (p := ⟨g3, m, none⟩) _ (by have := G5.out; show g5 ≠ g3; omega))
        have HQ2' := Aside0.mk (show Blk w9 g2 V 175 from hw9 ▸ HH.out.2.2.1.set_ne (p := ⟨g3, m, none⟩) _ (by have := L3.out; show g2 ≠ g3; omega))
        have HQ4' := Aside0.mk (show Blk w9 g4 #[.int .u32 0, .int .u32 0, .int .u32 0, .int .u32 0, .int .u32 0, .int .u32 0, .int .u32 0, .int .u32 0] 175 from hw9 ▸ HH.out.2.2.2.1.set_ne (p := ⟨g3, m, none⟩) _ (by have := G4.out; show g4 ≠ g3; omega))
        have HQB' := Aside0.mk (show Below W.heap.size W w9 from hw9 ▸ below_set HH.out.2.2.2.2 (by have := L3.out; have := G2.out; omega))
        clear hw9
        refine hK.out _ _ ?_
        clear hK K
        refine done_ (done_of HT_.out (by kernel_rfl)) ?_
        clear hy7 hy16 HH HQ3 HQST HQ2 HQ4 HQB
        go_wp2_with fail
        obtain ⟨l2, hl2⟩ : ∃ l2, l.set m x0 = l2 := ⟨_, rfl⟩
        have hwin2 : Win b (t + 1) l2 := by
          have h := HWin.out.step (by omega)
          rw [HM.out, HX.out, hl2] at h
          exact h
        have HWin2 := Aside0.mk hwin2
        have HLen2 := Aside0.mk hwin2.1
        have hx1 : rd l2 (m : Int) = x0 := by rw [← hl2, rd_set l m m x0 (by rw [HLen.out]; omega), if_pos rfl]
        rw [hl2] at HQ3'
        clear hl2 hwin2
        refine start_ (n := 7) (S := fun w' => Blk w' g3 (u32s l2) 191 ∧ Blk w' g5 (St.vals st) 175 ∧ Blk w' g2 V 175 ∧ Blk w' g4 #[.int .u32 0, .int .u32 0, .int .u32 0, .int .u32 0, .int .u32 0, .int .u32 0, .int .u32 0, .int .u32 0] 175 ∧ Below W.heap.size W w') (ds := [6]) #[false, false, false, false, false, false, false] (by kernel_rfl) rfl rfl ⟨HQ3'.out, HQST'.out, HQ2'.out, HQ4'.out, below_drew HQB'.out⟩ (fun hHeld => ?_)
        refine with_tabW r137_9.tab r137_9.bits (fun HT_ HW_ => ?_)
        generalize w9.drew = wd at hHeld ⊢
        have HH := Aside0.mk hHeld
        clear hHeld
        refine pure_ (i := 1) (N := some 60) (v := ?_) (a' := ?_) #[false, true, false, false, false, false, false] rfl rfl (any_of HT_.out (by kernel_rfl)) (fun _ _ _ h => h) (Or.inl ⟨by rfl, ?_⟩) ?_ ?_
        rotate_left
        · intro w'
          go_simp
          with_reducible rfl
        rotate_left
        · simp only [Act.put, List.setIfInBounds_toArray, List.set_cons_zero, List.set_cons_succ, i64_w, i32_w]
          rfl
        refine pure_ (i := 2) (N := some 61) (v := ?_) (a' := ?_) #[false, true, true, false, false, false, false] rfl rfl (any_of HT_.out (by kernel_rfl)) (fun _ _ _ h => h) (Or.inl ⟨by rfl, ?_⟩) ?_ ?_
        rotate_left
        · intro w'
          go_simp
          with_reducible rfl
        rotate_left
        · simp only [Act.put, List.setIfInBounds_toArray, List.set_cons_zero, List.set_cons_succ, i64_w, i32_w]
          rfl
        refine pure_ (i := 3) (N := some 62) (v := ?_) (a' := ?_) #[false, true, true, true, false, false, false] rfl rfl (any_of HT_.out (by kernel_rfl)) (fun _ _ _ h => h) (Or.inl ⟨by rfl, ?_⟩) ?_ ?_
        rotate_left
        · intro w'
          go_simp
          with_reducible rfl
        rotate_left
        · simp only [Act.put, List.setIfInBounds_toArray, List.set_cons_zero, List.set_cons_succ, i64_w, i32_w]
          rfl
        refine take_ (i := 4) (N := some 63) (v := ?_) (a' := ?_) #[false, true, true, true, true, false, false] rfl rfl (take_ofW HT_.out HW_.out (by kernel_rfl)) (fun _ _ _ h => h) (Or.inl ⟨by rfl, ?_⟩) HH.out ?_ ?_
        rotate_left
        · intro w' hS'
          have c0 := (hS'.1.u32 m (by rw [HLen2.out]; omega)).1
          rw [hx1] at c0
          go_simp
          with_reducible rfl
        rotate_left
        · simp only [Act.put, List.setIfInBounds_toArray, List.set_cons_zero, List.set_cons_succ, i64_w, i32_w]
          rfl
        refine one_ (i := 0) (N := some 59) #[true, true, true, true, true, false, false] rfl rfl (one_of HT_.out (by kernel_rfl)) (by decide) (fun K hK => ?_)
        refine load_blk_step rfl rfl rfl HH.out.2.1 Tryz.underlying175 rfl size175 ?_
        refine hK.out _ _ HH.out (fun _ => ?_)
        clear hK K
        refine norm_ (a' := ?_) ?_ ?_
        rotate_left
        · show Act.put _ (some 59) _ = _
          simp only [Act.put, List.setIfInBounds_toArray, List.set_cons_zero, List.set_cons_succ, i64_w, i32_w]
          rfl
        refine one_ (i := 5) (N := some 64) #[true, true, true, true, true, true, false] rfl rfl (one_of HT_.out (by kernel_rfl)) (by decide) (fun K hK => ?_)
        refine goes_ Tryz.func143 (by kernel_rfl) rfl #[.agg (St.vals st), .int .u32 kt, .int .u32 x0] (by rfl) rfl rfl (by simp only [List.map_toArray, List.map_cons, List.map_nil]; rfl) ?_
        refine (round_any st kt x0 _).mono ?_
        rintro e w' ⟨rfl, hb⟩
        refine ⟨_, rfl, hK.out _ _ ⟨HH.out.1.below hb, HH.out.2.1.below hb, HH.out.2.2.1.below hb, HH.out.2.2.2.1.below hb, below_step HH.out.2.2.2.2 hb⟩ (fun hHeld => ?_)⟩
        have HH2 := Aside0.mk hHeld
        clear hHeld hb HH
        have HH := HH2
        clear HH2
        clear hK K
        refine norm_ (a' := ?_) ?_ ?_
        rotate_left
        · show Act.put _ (some 64) _ = _
          simp only [Act.put, List.setIfInBounds_toArray, List.set_cons_zero, List.set_cons_succ, i64_w, i32_w]
          rfl
        refine last_ (i := 6) (N := none) #[true, true, true, true, true, true, true] rfl rfl (one_of HT_.out (by kernel_rfl)) (by decide) (fun K hK => ?_)
        refine store_blk_step rfl rfl rfl rfl rfl HH.out.2.1 size175 rfl (vals_one _) ?_
        refine hK.out _ _ ?_
        clear hK K
        refine done_ (done_of HT_.out (by kernel_rfl)) ?_
        clear hx1
        go_wp2_with fail
        go_roundg (gk - 1)
        case measure => have := HG.out; omega
        case rel =>
          refine ⟨t + 1, by omega, by go_num, by have := HG.out; unfold Hid; omega, ⟨l2, HWin2.out, HH.out.1.setRow_ne _ (by have := G5.out; omega)⟩, ⟨?_⟩, ⟨HH.out.2.2.1.setRow_ne _ (by have := G5.out; omega)⟩, ⟨HH.out.2.2.2.1.setRow_ne _ (by have := G5.out; omega)⟩, ⟨below_setRow HH.out.2.2.2.2 (by have := G5.out; have := G2.out; omega) _⟩⟩
          show Blk _ g5 (St.vals (rnd (comp s (fw b) t) (rd kT (t : Int)) (fw b t))) 175
          rw [HCP.out, HKT.out, HX.out]
          exact HH.out.2.1.setRow _
    · obtain rfl : t = 64 := by omega
      have hpl := plus_any (comp s (fw b) 64) s
      have HPL := Aside0.mk (show ∀ W, Calls Tryz.prog 144 #[.agg (St.vals (comp s (fw b) 64)), .agg V] W fun e w' => e = .returned (.agg R) ∧ Below W.heap.size W w' from by rw [← HV.out, ← HR.out]; exact hpl)
      have hrs : Aside0 (R.size = 8) := ⟨HR.out ▸ rfl⟩
      have hr1 : Aside0 (R.all (·.oneCell') = true) := ⟨HR.out ▸ vals_one _⟩
      clear hpl
      obtain ⟨C, hC⟩ : ∃ C, St.vals (comp s (fw b) 64) = C := ⟨_, rfl⟩
      rw [hC] at HPL H5
      have hcs : Aside0 (C.size = 8) := ⟨hC ▸ rfl⟩
      clear hC
      go_wp2_with (first
        | ((with_reducible refine gate_dst (N := 66) rfl ?_); refine load_blk rfl rfl rfl H5.out Tryz.underlying175 rfl (by rw [hcs.out]; exact size175) ?_)
        | ((with_reducible refine gate_dst (N := 67) rfl ?_); refine load_blk rfl rfl rfl H2.out Tryz.underlying175 rfl (by rw [hvs.out]; exact size175) ?_))
      refine (HPL.out _).mono ?_
      rintro e w7 ⟨rfl, hb7⟩
      have F4 := Aside0.mk (H4.out.below hb7)
      have FB := Aside0.mk (below_step HB.out hb7)
      clear hb7
      go_wp2_with (first
        | ((with_reducible refine gate_store (t := 175) (p := 4) (v := .tmp 68) rfl ?_); refine store_blk rfl rfl rfl rfl rfl F4.out (by rw [hrs.out]; exact size175) (by rw [hrs.out]; rfl) hr1.out ?_))
      refine bodyPost_ret (results_cell_row rfl _ _ g4 175 R (0, 0) _ ?hp (F4.out.setRow R) Tryz.underlying175 rfl (by rw [hrs.out]; exact size175)) rfl ?_
      case hp => rfl
      exact ⟨rfl, below_setRow FB.out (by have := G4.out; have := G2.out; omega) _⟩

end Go.Proofs.YtceopllngemnnaaGreatDoor


/-
  SHA-256 of the program: New, take, Write, Clone, Sum: what they return. For up to a million bytes.
-/
namespace Go.Proofs.YtceopllngemnnaaGreatDoor
open Go.RowKit Go.Proofs.YtceopllngemnnaaGreatDoorW.PrintWords Go.Proofs.YtceopllngemnnaaGreatDoorW.PrintLast Go.Proofs.YtceopllngemnnaaGreatDoorW.PrintMore Go.Proofs.YtceopllngemnnaaGreatDoor.PRef

def st0 : St := ⟨1779033703, 3144134277, 1013904242, 2773480762, 1359893119, 2600822924, 528734635, 1541459225⟩
/-- The cells of a Hash. -/
def hc (s : St) (v : Value) (n : Int) (g : Bool) : Array Value := #[.int .u32 s.a, .int .u32 s.b, .int .u32 s.c, .int .u32 s.d, .int .u32 s.e, .int .u32 s.f, .int .u32 s.g, .int .u32 s.h, v, .int .i64 n, .bool g]
/-- The state behind all complete blocks, and what is left. -/
def eat (s : St) (l : List Int) : St × List Int := if h : 64 ≤ l.length then eat (procS s (blk16 l)) (l.drop 64) else (s, l)
termination_by l.length
decreasing_by rw [List.length_drop]; omega
theorem eat_more (s : St) (l : List Int) (h : 64 ≤ l.length) : eat s l = eat (procS s (blk16 l)) (l.drop 64) := by rw [eat, dif_pos h]
theorem eat_end (s : St) (l : List Int) (h : ¬ 64 ≤ l.length) : eat s l = (s, l) := by rw [eat, dif_neg h]
theorem size178 : (Tryz.prog.info? 178).map (·.size) = some 11 := by kernel_rfl

theorem hc_one (s : St) (v : Value) (n : Int) (g : Bool) (h : v.oneCell' = true) : (hc s v n g).all (·.oneCell') = true := by simp [hc, Value.oneCell'] at h ⊢; exact h

theorem initial_any (W : World) : Calls Tryz.prog 126 #[] W fun e w' => e = .returned (.agg st0.vals) ∧ Below W.heap.size W w' :=
  sha256_initial.calls _ _ _ _ _ _ _ _ W rfl

set_option maxHeartbeats 1000000 in
set_option maxRecDepth 100000 in
theorem new_any (W : World) : Calls Tryz.prog 112 #[] W fun e w' => ∃ g, e = .returned (.pointer (some ⟨g, 0, none⟩)) ∧ Blk w' g (hc st0 (.slice none 0 0) 0 true) 178 ∧ W.heap.size ≤ g ∧ Below W.heap.size W w' := by
  go_enter Tryz.func112, Tryz.ntmps112
  go_wp2_with fail
  refine (initial_any _).mono ?_
  rintro e w1 ⟨rfl, hb1⟩
  have HB1 := Aside0.mk hb1
  clear hb1
  unfold St.vals st0
  go_wp2_with (first
    | ((with_reducible refine gate_dst (N := 3) rfl ?_); refine box_blk (cs := hc st0 (.slice none 0 0) 0 true) rfl rfl rfl rfl size178 (hc_one _ _ _ _ rfl) ?_; intro g w2 hg hz hb; have HG := Aside0.mk hg; have HZ := Aside0.mk hz; have HB2 := Aside0.mk (below_step HB1.out hb); clear hg hz hb))
  go_ret
  exact ⟨g, rfl, HZ.out, by rw [HG.out]; exact HB1.out.size, HB2.out⟩

/-- Region tables, printed by rg.py. -/
def r127_4.T : Bool × List (List Nat × List Nat) := (true, [([], []), ([], []), ([1], [1]), ([2], [2]), ([3], [3]), ([], []), ([5], [5]), ([4, 6, 6], [4, 6]), ([0, 0, 1, 2, 3, 4, 5, 6, 7], [0]), ([8, 0, 1, 2, 3, 4, 5, 6, 7], [8]), ([9, 7, 7, 0, 1, 2, 3, 4, 5, 6, 7], [7, 9])])
def r127_4.B : List Nat := [0, 0, 2, 6, 14, 0, 32, 126, 255, 511, 1023]
theorem r127_4.tab : rtab .any (opsOf Tryz.f127 4) = r127_4.T := by kernel_rfl
theorem r127_4.bits : waitsOk r127_4.T.2 r127_4.B = true := by kernel_rfl

theorem hash_cells {W : World} {g : Nat} {s : St} {v : Value} {n : Int} {bg : Bool} (h : Blk W g (hc s v n bg) 178) :
    W.cell? ⟨g, 0, none⟩ = some (.int .u32 s.a) ∧ W.cell? ⟨g, 1, none⟩ = some (.int .u32 s.b) ∧ W.cell? ⟨g, 2, none⟩ = some (.int .u32 s.c) ∧ W.cell? ⟨g, 3, none⟩ = some (.int .u32 s.d) ∧
    W.cell? ⟨g, 4, none⟩ = some (.int .u32 s.e) ∧ W.cell? ⟨g, 5, none⟩ = some (.int .u32 s.f) ∧ W.cell? ⟨g, 6, none⟩ = some (.int .u32 s.g) ∧ W.cell? ⟨g, 7, none⟩ = some (.int .u32 s.h) :=
  ⟨by rw [Lib.cell_of_heap h]; rfl, by rw [Lib.cell_of_heap h]; rfl, by rw [Lib.cell_of_heap h]; rfl, by rw [Lib.cell_of_heap h]; rfl, by rw [Lib.cell_of_heap h]; rfl, by rw [Lib.cell_of_heap h]; rfl, by rw [Lib.cell_of_heap h]; rfl, by rw [Lib.cell_of_heap h]; rfl⟩
theorem hash_more {W : World} {g : Nat} {s : St} {v : Value} {n : Int} {bg : Bool} (h : Blk W g (hc s v n bg) 178) :
    W.cell? ⟨g, 8, none⟩ = some v ∧ W.cell? ⟨g, 9, none⟩ = some (.int .i64 n) ∧ W.cell? ⟨g, 10, none⟩ = some (.bool bg) ∧ (∀ i, W.frozen? ⟨g, i, none⟩ = false) :=
  ⟨by rw [Lib.cell_of_heap h]; rfl, by rw [Lib.cell_of_heap h]; rfl, by rw [Lib.cell_of_heap h]; rfl, fun i => Lib.frozen_of_heap h i⟩

/-- Any number of stores into one block. -/
def puts (W : World) (g : Nat) : Nat → List Value → World
  | _, [] => W
  | i, v :: r => puts (W.setCell ⟨g, i, none⟩ v) g (i + 1) r

theorem puts_keep (g : Nat) : ∀ (vs : List Value) (i : Nat) (W W' : World), KeepBut W W' g none → KeepBut W (puts W' g i vs) g none
  | [], _, _, _, h => h
  | v :: r, i, W, W', h => puts_keep g r (i + 1) W _ (h.set_ i v)
theorem puts_below (g base : Nat) (hg : base ≤ g) : ∀ (vs : List Value) (i : Nat) (W W' : World), Below base W W' → Below base W (puts W' g i vs)
  | [], _, _, _, h => h
  | v :: r, i, W, W', h => puts_below g base hg r (i + 1) W _ (h.setCell (p := ⟨g, i, none⟩) hg v)

theorem hash_put {W : World} {g : Nat} {s : St} {v : Value} {n : Int} {bg : Bool} (s' : St) (h : Blk W g (hc s v n bg) 178) : Blk (puts W g 0 s'.vals.toList) g (hc s' v n bg) 178 := by
  unfold Blk
  simp only [puts, St.vals]
  refine (blk_set (blk_set (blk_set (blk_set (blk_set (blk_set (blk_set (blk_set h 0 _) 1 _) 2 _) 3 _) 4 _) 5 _) 6 _) 7 _).trans ?_
  simp only [hc, List.setIfInBounds_toArray, List.set_cons_zero, List.set_cons_succ]

section
variable {ops : Array Oper} {o : Oper} {a : Act} {Q : Exit → Act → World → Prop} {Kc : Act → World → Prop}
theorem store_hash_step {W : World} {g : Nat} {s s' : St} {v : Value} {n : Int} {bg : Bool} (hw : Region.wanted o (yielded ops a.tmps) = true) {p : Tmp} {y : Operand} (ho : o.op = .store 175 (.tmp p) y) (hN : o.dst = none) (haddr : a.eval (.tmp p) = .pointer (some ⟨g, 0, none⟩)) (hv : a.eval y = .agg s'.vals) (h : Blk W g (hc s v n bg) 178)
    (hk : ∀ w1, Blk w1 g (hc s' v n bg) 178 → KeepBut W w1 g none → (∀ base, base ≤ g → Below base W w1) → Kc (a.put none undef) w1) : if Region.wanted o (yielded ops a.tmps) = true then Oper.wp Tryz.prog o a W Kc Q else Kc (a.put none undef) W := by
  refine skip_step hw hN ?_ (hk (puts W g 0 s'.vals.toList) (hash_put s' h) (puts_keep g _ _ _ _ (KeepBut.refl W g none)) (fun base hb => puts_below g base hb _ _ _ _ (Below.refl _ _)))
  obtain ⟨c0, c1, c2, c3, c4, c5, c6, c7⟩ := hash_cells h
  obtain ⟨_, _, _, hf⟩ := hash_more h
  have e : ∀ av yv : Value, av = .pointer (some ⟨g, 0, none⟩) → yv = .agg s'.vals → ((do Instr.storeAt 175 av yv; pure Next.skip) : Sem Next).run Tryz.prog W = .ok .skip (puts W g 0 s'.vals.toList) := by
    rintro _ _ rfl rfl
    simp only [puts, St.vals]
    have hu := Tryz.underlying175
    go_simp
  have := e _ _ haddr hv
  simpa only [execOp, ho] using this
end

set_option maxHeartbeats 4000000 in
set_option maxRecDepth 100000 in
theorem take_any (s : St) (n : Int) (g base : Nat) (A B : Option Addr) (c mb cb : Nat) (r b : List Int) (W : World)
    (hH : Blk W g (hc s (.slice A r.length c) n true) 178) (hr : Kd.C (Kd.int .u8) W A r.length r) (hmc : r.length ≤ c) (hb : Kd.C (Kd.int .u8) W B b.length b) (hmb : mb = b.length)
    (hl : r.length + b.length ≤ 3000000) (hby : ∀ x ∈ r ++ b, 0 ≤ x ∧ x ≤ 255) (hbase : base ≤ g) :
    Calls Tryz.prog 127 #[.pointer (some ⟨g, 0, none⟩), .slice B mb cb] W fun e w' => e = .returned (.tuple #[]) ∧
      (∃ A' c', Blk w' g (hc (eat s (r ++ b)).1 (.slice A' (eat s (r ++ b)).2.length c') n true) 178 ∧ Kd.C (Kd.int .u8) w' A' (eat s (r ++ b)).2.length (eat s (r ++ b)).2 ∧ (eat s (r ++ b)).2.length ≤ c' ∧ (∀ ad, A' = some ad → ad.block ≠ g)) ∧ KeepBut W w' g none ∧ Below base W w' := by
  have HH0 := Aside0.mk hH
  have HR0 := Aside0.mk hr
  have HB0 := Aside0.mk hb
  have HBy0 := Aside0.mk hby
  have HLT := Aside0.mk (blk_lt hH)
  have HBG := Aside0.mk hbase
  have HBW := Aside0.mk (show base ≤ W.heap.size by have := blk_lt hH; omega)
  subst hmb
  obtain ⟨k8, k9, k10, kf⟩ := hash_more hH
  clear hH hr hb hby hbase kf
  have kp := fun k : Nat => k
  have info5' := info5
  go_enter Tryz.func127, Tryz.ntmps127
  go_wp2_with (first
    | ((with_reducible refine gate_dst (N := 17) rfl ?_); refine Kd.R_lit (Kd.int .u8) _ 5 ?hg (N := 17) ?hd (xs := ([] : List Int)) (inner := []) (ok := fun _ => True) (okp := fun _ => True) ?hr ?hp (fun _ hk => hk) trivial (Below.refl _ _) (Nat.le_refl _) (by simp) ?_; (case hd => rfl); (case hg => rfl); (case hr => first | (go_simp; done) | (go_simp; rfl)); (case hp => exact (Reps.none _ _)); intro v17 w4 ho hb4 hg_ hnew_; have HO := Aside0.mk ho; have HW4 := Aside0.mk hb4; clear hg_ hnew_ ho hb4; obtain ⟨j8, j9, j10, jf⟩ := hash_more (HH0.out.below HW4.out); clear jf)
    | ((with_reducible refine gate_builtin (b := .append) (xs := #[.tmp 17, .tmp 21]) rfl ?_); at_builtin; refine Kd.R_append_rows (Kd.int .u8) (w0 := W) W.heap.size rfl (.tmp 17) (.tmp 21) 26 5 (.int .u8 0) 1 rfl Tryz.underlying26 info5 rfl (by decide) (by omega) v17 [] r _ _ _ (fun _ => True) (fun _ => False) rfl rfl ?aO ?aR (fun _ _ h => h) (fun _ h => h.elim) ?aF ?aB ?aS ?aL ?_; (case aR => exact Kd.C_below HR0.out HW4.out); (case aB => exact HW4.out); (case aF => exact (fun _ _ => trivial)); (case aO => exact HO.out); (case aS => exact HW4.out.size); (case aL => simp; omega); intro v22 w5 ho hb hg hat; have HO2 := Aside0.mk ho; have HW5 := Aside0.mk hb; clear ho hb hg hat HO HW4)
    | ((with_reducible refine gate_builtin (b := .append) (xs := #[.tmp 22, .tmp 23]) rfl ?_); at_builtin; refine Kd.R_append_rows (Kd.int .u8) (w0 := W) W.heap.size rfl (.tmp 22) (.tmp 23) 26 5 (.int .u8 0) 1 rfl Tryz.underlying26 info5 rfl (by decide) (by omega) v22 ([] ++ r) b _ _ _ (fun _ => True) (fun _ => False) rfl rfl ?aO ?aR (fun _ _ h => h) (fun _ h => h.elim) ?aF ?aB ?aS ?aL ?_; (case aR => exact Kd.C_below HB0.out HW5.out); (case aB => exact HW5.out); (case aF => exact (fun _ _ => trivial)); (case aO => exact HO2.out); (case aS => exact HW5.out.size); (case aL => simp; omega); intro v24 w6 ho hb hg hat; have HO3 := Aside0.mk ho; have HW6 := Aside0.mk hb; clear ho hb hg hat HO2 HW5))
  obtain ⟨A4, c4, rfl, hc4, hC4⟩ := Kd.R_reads HO3.out
  have hne : ∀ ad, A4 = some ad → ad.block ≠ g := by
    rintro ad rfl
    have h1 := Kd.R_base HO3.out ad.block (by simp [Value.ownBlock])
    have := HLT.out
    omega
  have HC4 := Aside0.mk hC4
  have Hc4 := Aside0.mk hc4
  have HNE := Aside0.mk hne
  have HBL := Aside0.mk (HH0.out.below HW6.out)
  have HKP := Aside0.mk (KeepBut.of_below HW6.out g none)
  have HBE := Aside0.mk (HW6.out.mono HBW.out)
  obtain ⟨L, hL⟩ : ∃ L, r ++ b = L := ⟨_, rfl⟩
  have HLq := Aside0.mk hL
  have hlen : L.length = r.length + b.length := by rw [← hL]; simp
  have HLen := Aside0.mk hlen
  rw [hL] at HBy0
  rw [show ([] : List Int) ++ r ++ b = L by rw [← hL]; simp] at HC4 Hc4 ⊢
  clear hC4 hc4 hne HW6 HO3 k8 k9 k10 j8 j9 j10 HR0 HB0 hL hlen
  go_loopg [4] L.length (fun gf x4 wx => ∃ (s1 : St) (l : List Int) (A4 : Option Addr) (c4 : Nat), x4 = .slice A4 l.length c4 ∧ Hid (l.length ≤ gf) ∧ Aside0 (eat s1 l = eat s L) ∧ Aside0 (l.length ≤ c4) ∧ Aside0 (∀ ad, A4 = some ad → ad.block ≠ g) ∧ Aside0 (∀ x ∈ l, 0 ≤ x ∧ x ≤ 255) ∧
    Aside0 (Blk wx g (hc s1 (.slice A r.length c) n true) 178) ∧ Aside0 (Kd.C (Kd.int .u8) wx A4 l.length l) ∧ Aside0 (KeepBut W wx g none) ∧ Aside0 (Below base W wx))
  case atStart => exact ⟨s, L, A4, c4, rfl, by unfold Hid; exact Nat.le_refl _, ⟨rfl⟩, Hc4, HNE, HBy0, HBL, HC4, HKP, HBE⟩
  case round =>
    clear HC4 Hc4 HNE HBL HKP HBE
    obtain ⟨s1, l, A4, c4, rfl, HG, HEat, Hc4, HNe, HBy, H1, H2, H3, H4⟩ := hrel
    by_cases h64 : 64 ≤ l.length
    · have HL64 := Aside0.mk h64
      go_wp2_with fail
      refine start_ (n := 11) (S := fun w' => Blk w' g (hc s1 (.slice A r.length c) n true) 178 ∧ Kd.C (Kd.int .u8) w' A4 l.length l ∧ KeepBut W w' g none ∧ Below base W w') (ds := [10]) #[false, false, false, false, false, false, false, false, false, false, false] (by kernel_rfl) rfl rfl ⟨H1.out, H2.out, H3.out, below_drew H4.out⟩ (fun hHeld => ?_)
      refine with_tabW r127_4.tab r127_4.bits (fun HT_ HW_ => ?_)
      generalize wr.drew = wd at hHeld ⊢
      have HH := Aside0.mk hHeld
      clear hHeld
      refine pure_ (i := 0) (N := some 28) (v := ?_) (a' := ?_) #[true, false, false, false, false, false, false, false, false, false, false] rfl rfl (any_of HT_.out (by kernel_rfl)) (fun _ _ _ h => h) (Or.inl ⟨by rfl, ?_⟩) ?_ ?_
      rotate_left
      · intro w'
        go_simp
        with_reducible rfl
      rotate_left
      · simp only [Act.put, List.setIfInBounds_toArray, List.set_cons_zero, List.set_cons_succ, i64_w, i32_w]
        rfl
      refine pure_ (i := 1) (N := some 29) (v := ?_) (a' := ?_) #[true, true, false, false, false, false, false, false, false, false, false] rfl rfl (any_of HT_.out (by kernel_rfl)) (fun _ _ _ h => h) (Or.inl ⟨by rfl, ?_⟩) ?_ ?_
      rotate_left
      · intro w'
        go_simp
        with_reducible rfl
      rotate_left
      · simp only [Act.put, List.setIfInBounds_toArray, List.set_cons_zero, List.set_cons_succ, i64_w, i32_w]
        rfl
      refine pure_ (i := 2) (N := some 30) (v := ?_) (a' := ?_) #[true, true, true, false, false, false, false, false, false, false, false] rfl rfl (any_of HT_.out (by kernel_rfl)) (fun _ _ _ h => h) (Or.inl ⟨by rfl, ?_⟩) ?_ ?_
      rotate_left
      · intro w'
        go_simp
        with_reducible rfl
      rotate_left
      · simp only [Act.put, List.setIfInBounds_toArray, List.set_cons_zero, List.set_cons_succ, i64_w, i32_w]
        rfl
      refine pure_ (i := 3) (N := some 31) (v := ?_) (a' := ?_) #[true, true, true, true, false, false, false, false, false, false, false] rfl rfl (any_of HT_.out (by kernel_rfl)) (fun _ _ _ h => h) (Or.inl ⟨by rfl, ?_⟩) ?_ ?_
      rotate_left
      · intro w'
        go_simp
        with_reducible rfl
      rotate_left
      · simp only [Act.put, List.setIfInBounds_toArray, List.set_cons_zero, List.set_cons_succ, i64_w, i32_w]
        rfl
      refine pure_ (i := 5) (N := some 33) (v := ?_) (a' := ?_) #[true, true, true, true, false, true, false, false, false, false, false] rfl rfl (any_of HT_.out (by kernel_rfl)) (fun _ _ _ h => h) (Or.inl ⟨by rfl, ?_⟩) ?_ ?_
      rotate_left
      · intro w'
        go_simp
        with_reducible rfl
      rotate_left
      · simp only [Act.put, List.setIfInBounds_toArray, List.set_cons_zero, List.set_cons_succ, i64_w, i32_w]
        rfl
      refine take_ (i := 4) (N := some 32) (v := ?_) (a' := ?_) #[true, true, true, true, true, true, false, false, false, false, false] rfl rfl (take_ofW HT_.out HW_.out (by kernel_rfl)) (fun _ _ _ h => h) (Or.inl ⟨by rfl, ?_⟩) HH.out ?_ ?_
      rotate_left
      · intro w' hS'
        obtain ⟨c0, c1, c2, c3, c5, c6, c7, c8⟩ := hash_cells hS'.1
        go_simp
        with_reducible rfl
      rotate_left
      · simp only [Act.put, List.setIfInBounds_toArray, List.set_cons_zero, List.set_cons_succ, i64_w, i32_w]
        rfl
      refine one_ (i := 6) (N := some 34) #[true, true, true, true, true, true, true, false, false, false, false] rfl rfl (one_of HT_.out (by kernel_rfl)) (by decide) (fun K hK => ?_)
      refine goes_ Tryz.func138 (by kernel_rfl) rfl #[.slice A4 l.length c4] (by rfl) rfl rfl (by simp only [List.map_toArray, List.map_cons, List.map_nil]; rfl) ?_
      refine (load_any A4 c4 l.length l _ HH.out.2.1 HL64.out HBy.out).mono ?_
      rintro e w' ⟨rfl, hb⟩
      refine ⟨_, rfl, hK.out _ _ ⟨HH.out.1.below hb, Kd.C_below HH.out.2.1 hb, HH.out.2.2.1.trans (KeepBut.of_below hb g none) (.inl rfl), HH.out.2.2.2.trans (hb.mono (Nat.le_trans HBW.out HH.out.2.2.2.size))⟩ (fun hHeld => ?_)⟩
      have HH2 := Aside0.mk hHeld
      clear hHeld hb HH
      have HH := HH2
      clear HH2
      clear hK K
      refine norm_ (a' := ?_) ?_ ?_
      rotate_left
      · show Act.put _ (some 34) _ = _
        simp only [Act.put, List.setIfInBounds_toArray, List.set_cons_zero, List.set_cons_succ, i64_w, i32_w]
        rfl
      refine one_ (i := 7) (N := some 35) #[true, true, true, true, true, true, true, true, false, false, false] rfl rfl (one_of HT_.out (by kernel_rfl)) (by decide) (fun K hK => ?_)
      refine goes_ Tryz.func137 (by kernel_rfl) rfl #[.agg (St.vals s1), .agg (u32s (blk16 l))] (by rfl) rfl rfl (by simp only [List.map_toArray, List.map_cons, List.map_nil]; rfl) ?_
      refine (process_any s1 (blk16 l) _ (by simp [blk16])).mono ?_
      rintro e w' ⟨rfl, hb⟩
      refine ⟨_, rfl, hK.out _ _ ⟨HH.out.1.below hb, Kd.C_below HH.out.2.1 hb, HH.out.2.2.1.trans (KeepBut.of_below hb g none) (.inl rfl), HH.out.2.2.2.trans (hb.mono (Nat.le_trans HBW.out HH.out.2.2.2.size))⟩ (fun hHeld => ?_)⟩
      have HH2 := Aside0.mk hHeld
      clear hHeld hb HH
      have HH := HH2
      clear HH2
      clear hK K
      refine norm_ (a' := ?_) ?_ ?_
      rotate_left
      · show Act.put _ (some 35) _ = _
        simp only [Act.put, List.setIfInBounds_toArray, List.set_cons_zero, List.set_cons_succ, i64_w, i32_w]
        rfl
      refine pure_ (i := 8) (N := some 36) (v := ?_) (a' := ?_) #[true, true, true, true, true, true, true, true, true, false, false] rfl rfl (any_of HT_.out (by kernel_rfl)) (fun _ _ _ h => h) (Or.inl ⟨by rfl, ?_⟩) ?_ ?_
      rotate_left
      · intro w'
        go_simp
        with_reducible rfl
      rotate_left
      · simp only [Act.put, List.setIfInBounds_toArray, List.set_cons_zero, List.set_cons_succ, i64_w, i32_w]
        rfl
      refine pure_ (i := 9) (N := some 37) (v := ?_) (a' := ?_) #[true, true, true, true, true, true, true, true, true, true, false] rfl rfl (any_of HT_.out (by kernel_rfl)) (fun _ _ _ h => h) (Or.inl ⟨by rfl, ?_⟩) ?_ ?_
      rotate_left
      · intro w'
        go_simp
        with_reducible rfl
      rotate_left
      · simp only [Act.put, List.setIfInBounds_toArray, List.set_cons_zero, List.set_cons_succ, i64_w, i32_w]
        rfl
      refine last_ (i := 10) (N := none) #[true, true, true, true, true, true, true, true, true, true, true] rfl rfl (one_of HT_.out (by kernel_rfl)) (by decide) (fun K hK => ?_)
      refine store_hash_step (s' := procS s1 (blk16 l)) rfl rfl rfl rfl rfl HH.out.1 ?_
      intro w9 hw9 hk9 hb9
      have HX1 := Aside0.mk hw9
      have HX2 := Aside0.mk (Kd.C_keep (0 : Int) HH.out.2.1 hk9 (fun ad e _ => HNe.out ad e))
      have HX3 := Aside0.mk (HH.out.2.2.1.trans hk9 (.inl rfl))
      have HX4 := Aside0.mk (HH.out.2.2.2.trans (hb9 base HBG.out))
      clear hw9 hk9 hb9
      refine hK.out _ _ ?_
      clear hK K
      refine done_ (done_of HT_.out (by kernel_rfl)) ?_
      clear HH
      have hD := Kd.C_drop (m := 64) (c := c4) HX2.out h64 Hc4.out
      have HD1 := Aside0.mk (fun h : c4 = 64 => (show Kd.C (Kd.int .u8) w9 A4 (l.drop 64).length (l.drop 64) by rw [if_pos h] at hD; exact hD))
      have HD2 := Aside0.mk (fun h : c4 ≠ 64 => (show Kd.C (Kd.int .u8) w9 (A4.map (·.add 64)) (l.drop 64).length (l.drop 64) by rw [if_neg h] at hD; exact hD))
      clear hD
      have HLD := Aside0.mk (List.length_drop (i := 64) (l := l))
      have HE2 := Aside0.mk ((eat_more s1 l h64).symm.trans HEat.out)
      have HBy2 := Aside0.mk (fun x (hx : x ∈ l.drop 64) => HBy.out x (List.mem_of_mem_drop hx))
      have HNe2 : Aside0 (∀ ad, (A4.map (·.add 64)) = some ad → ad.block ≠ g) := ⟨by
        intro ad h
        rw [Option.map_eq_some_iff] at h
        obtain ⟨a', e', rfl⟩ := h
        exact HNe.out a' e'⟩
      by_cases h4 : c4 = 64
      · have HD := Aside0.mk (HD1.out h4)
        clear HD1 HD2
        subst h4
        go_wp2_with fail
        go_roundg (gk - 1)
        case measure => have := HG.out; omega
        case rel => exact ⟨procS s1 (blk16 l), l.drop 64, A4, 0, by rw [HLD.out], by have := HG.out; have := HLD.out; unfold Hid; omega, HE2, ⟨by have := Hc4.out; have := HLD.out; omega⟩, HNe, HBy2, HX1, HD, HX3, HX4⟩
      · have HD := Aside0.mk (HD2.out h4)
        clear HD1 HD2
        go_wp2_with fail
        go_roundg (gk - 1)
        case measure => have := HG.out; omega
        case rel => exact ⟨procS s1 (blk16 l), l.drop 64, A4.map (·.add 64), c4 - 64, by rw [HLD.out]; rfl, by have := HG.out; have := HLD.out; unfold Hid; omega, HE2, ⟨by have := Hc4.out; have := HLD.out; omega⟩, HNe2, HBy2, HX1, HD, HX3, HX4⟩
    · have he := HEat.out
      rw [eat_end s1 l h64] at he
      have HE1 := Aside0.mk (show s1 = (eat s (r ++ b)).1 by rw [HLq.out, ← he])
      have HE2 := Aside0.mk (show l = (eat s (r ++ b)).2 by rw [HLq.out, ← he])
      clear he
      obtain ⟨k8, k9, k10, kf⟩ := hash_more H1.out
      have kf8 := kf 8
      clear kf
      go_wp2_with fail
      go_end0
      refine ⟨rfl, ⟨A4, c4, ?_, ?_, ?_, HNe.out⟩, ?_, ?_⟩
      · rw [← HE1.out, ← HE2.out]
        exact blk_set H1.out 8 _
      · rw [← HE2.out]
        exact Kd.C_keep (0 : Int) H2.out ((KeepBut.refl _ g none).set_ 8 _) (fun ad e _ => HNe.out ad e)
      · rw [← HE2.out]; exact Hc4.out
      · exact H3.out.set_ 8 _
      · exact H4.out.setCell (p := ⟨g, 8, none⟩) HBG.out _

end Go.Proofs.YtceopllngemnnaaGreatDoor


/-
  SHA-256 of the program: Write and Clone: what they return. For up to a million bytes.
-/
namespace Go.Proofs.YtceopllngemnnaaGreatDoor
open Go.RowKit Go.Proofs.YtceopllngemnnaaGreatDoorW.PrintWords Go.Proofs.YtceopllngemnnaaGreatDoorW.PrintLast Go.Proofs.YtceopllngemnnaaGreatDoorW.PrintMore Go.Proofs.YtceopllngemnnaaGreatDoor.PRef

/-- A Hash in memory: the state, what is left, the number of bytes. -/
def IsHash (w : World) (g : Nat) (s : St) (r : List Int) (n : Int) : Prop :=
  ∃ A c, Blk w g (hc s (.slice A r.length c) n true) 178 ∧ Kd.C (Kd.int .u8) w A r.length r ∧ r.length ≤ c ∧ ∀ ad, A = some ad → ad.block ≠ g

theorem IsHash.below {w w' : World} {g : Nat} {s : St} {r : List Int} {n : Int} (h : IsHash w g s r n) (hb : Below w.heap.size w w') : IsHash w' g s r n := by
  obtain ⟨A, c, h1, h2, h3, h4⟩ := h
  exact ⟨A, c, h1.below hb, Kd.C_below h2 hb, h3, h4⟩

theorem take_hash (s : St) (n : Int) (g base : Nat) (B : Option Addr) (mb cb : Nat) (r b : List Int) (W : World)
    (hH : IsHash W g s r n) (hb : Kd.C (Kd.int .u8) W B b.length b) (hmb : mb = b.length)
    (hl : r.length + b.length ≤ 3000000) (hby : ∀ x ∈ r ++ b, 0 ≤ x ∧ x ≤ 255) (hbase : base ≤ g) :
    Calls Tryz.prog 127 #[.pointer (some ⟨g, 0, none⟩), .slice B mb cb] W fun e w' => e = .returned (.tuple #[]) ∧ IsHash w' g (eat s (r ++ b)).1 (eat s (r ++ b)).2 n ∧ KeepBut W w' g none ∧ Below base W w' := by
  obtain ⟨A, c, h1, h2, h3, h4⟩ := hH
  refine (take_any s n g base A B c mb cb r b W h1 h2 h3 hb hmb hl hby hbase).mono ?_
  rintro e w' ⟨rfl, ⟨A', c', k1, k2, k3, k4⟩, hk, hbw⟩
  exact ⟨rfl, ⟨A', c', k1, k2, k3, k4⟩, hk, hbw⟩

set_option maxHeartbeats 1000000 in
set_option maxRecDepth 100000 in
theorem write_any (s : St) (n : Nat) (g base : Nat) (B : Option Addr) (mb cb : Nat) (r b : List Int) (W : World)
    (hH : IsHash W g s r n) (hb : Kd.C (Kd.int .u8) W B b.length b) (hmb : mb = b.length)
    (hl : r.length + b.length ≤ 3000000) (hn : n ≤ 3000000) (hby : ∀ x ∈ r ++ b, 0 ≤ x ∧ x ≤ 255) (hbase : base ≤ g) :
    Calls Tryz.prog 113 #[.pointer (some ⟨g, 0, none⟩), .slice B mb cb] W fun e w' => e = .returned (.int .i64 0) ∧ IsHash w' g (eat s (r ++ b)).1 (eat s (r ++ b)).2 ((n + b.length : Nat) : Int) ∧ Below base W w' := by
  have HH := Aside0.mk hH
  have HB0 := Aside0.mk hb
  have HBy := Aside0.mk hby
  have HM := Aside0.mk hmb
  have hmb' : mb ≤ 3000000 := by omega
  have HBG := Aside0.mk hbase
  clear hH hb hby hbase hmb
  go_enter Tryz.func113, Tryz.ntmps113
  go_wp2_with fail
  refine (take_hash s n g base B mb cb r b _ HH.out HB0.out HM.out hl HBy.out HBG.out).mono ?_
  rintro e w1 ⟨rfl, hh, hk, hbw⟩
  obtain ⟨A', c', k1, k2, k3, k4⟩ := hh
  have K1 := Aside0.mk k1
  have K2 := Aside0.mk k2
  have K3 := Aside0.mk k3
  have K4 := Aside0.mk k4
  have HBW := Aside0.mk hbw
  obtain ⟨c8, c9, c10, kf⟩ := hash_more k1
  have f9 := kf 9
  clear k1 k2 k3 k4 hbw hk kf c8 c10
  go_wp2_with fail
  go_ret
  refine ⟨rfl, ⟨A', c', ?_, Kd.C_keep (0 : Int) K2.out ((KeepBut.refl _ g none).set_ 9 _) (fun ad e _ => K4.out ad e), K3.out, K4.out⟩, HBW.out.setCell (p := ⟨g, 9, none⟩) HBG.out _⟩
  refine (blk_set K1.out 9 _).trans ?_
  have e : ((n + b.length : Nat) : Int) = (n : Int) + (mb : Int) := by have := HM.out; omega
  simp only [hc, List.setIfInBounds_toArray, List.set_cons_zero, List.set_cons_succ, e]

section
variable {P : Program} {ops : Array Oper} {rest : List Oper} {o : Oper} {a : Act} {Q : Exit → Act → World → Prop}
/-- A whole array or struct into a block: the world behind it a letter. -/
theorem store_blk_l {W : World} {g t t' : Nat} {old cs : Array Value} (hgd : o.guard = none) {p : Tmp} {x : Operand} (ho : o.op = .store t (.tmp p) x) (hN : o.dst = none) (haddr : a.eval (.tmp p) = .pointer (some ⟨g, 0, none⟩)) (hv : a.eval x = .agg cs) (h : Blk W g old t')
    (hi : (P.info? t).map (·.size) = some cs.size) (hs : old.size = cs.size) (h1 : cs.all (·.oneCell') = true)
    (hk : ∀ w1, Blk w1 g cs t' → (∀ w0 base, base ≤ g → Below base w0 W → Below base w0 w1) → (∀ g' c' ty, Blk W g' c' ty → g' ≠ g → Blk w1 g' c' ty) → wpList P ops Q rest a w1) : wpList P ops Q (o :: rest) a W :=
  store_blk hgd ho hN haddr hv h hi hs h1 (hk _ (h.setRow cs) (fun w0 base hb hw => below_setRow hw hb cs) (fun g' c' ty hB hne => hB.setRow_ne cs hne))
end

theorem ne_of_fresh {w : World} {base g n c : Nat} {A : Option Addr} {xs : List Int} (h : Kd.R (Kd.int .u8) 5 w base (fun _ => True) (.slice A n c) xs) (hg : g < base) : ∀ ad, A = some ad → ad.block ≠ g := by
  rintro ad rfl
  have h1 := Kd.R_base h ad.block (by simp [Value.ownBlock])
  omega

theorem zero178 : (Tryz.prog.info? 178).map (fun i => (i.zero, i.size)) = some (some (.agg (hc ⟨0, 0, 0, 0, 0, 0, 0, 0⟩ (.slice none 0 0) 0 false)), 11) := by kernel_rfl

set_option maxHeartbeats 2000000 in
set_option maxRecDepth 100000 in
theorem clone_any (s : St) (n : Int) (g : Nat) (r : List Int) (W : World) (hH : IsHash W g s r n) (hl : r.length ≤ 3000000) :
    Calls Tryz.prog 128 #[.pointer (some ⟨g, 0, none⟩)] W fun e w' => ∃ g', e = .returned (.pointer (some ⟨g', 0, none⟩)) ∧ IsHash w' g' s r n ∧ W.heap.size ≤ g' ∧ Below W.heap.size W w' := by
  obtain ⟨A, c, k1, k2, k3, k4⟩ := hH
  have K1 := Aside0.mk k1
  have K2 := Aside0.mk k2
  have HC := Aside0.mk k3
  obtain ⟨V, hV⟩ : ∃ V, hc s (.slice A r.length c) n true = V := ⟨_, rfl⟩
  have HV := Aside0.mk hV
  have hvs : Aside0 (V.size = 11) := ⟨hV ▸ rfl⟩
  have hv1 : Aside0 (V.all (·.oneCell') = true) := ⟨hV ▸ hc_one _ _ _ _ rfl⟩
  have KV := Aside0.mk k1
  rw [hV] at KV
  clear k1 k2 k3 k4 hV
  go_enter Tryz.func128, Tryz.ntmps128
  go_wp2_with (first
    | ((with_reducible refine gate_dst (N := 8) rfl ?_); refine load_blk rfl rfl rfl KV.out Tryz.underlying178 rfl (by rw [hvs.out]; exact size178) ?_)
    | ((with_reducible refine gate_dst (N := 3) rfl ?_); refine alloc_blk rfl rfl rfl zero178 ?_; intro g3 w1 hg hz hb; have HG := Aside0.mk hg; have HZ := Aside0.mk hz; have HB1 := Aside0.mk hb; clear hg hz hb)
    | ((with_reducible refine gate_store (t := 178) (p := 3) (v := .tmp 8) rfl ?_); refine store_blk_l rfl rfl rfl rfl rfl HZ.out (by rw [hvs.out]; exact size178) (by rw [hvs.out]; rfl) hv1.out ?_; intro w2 hz2 hb2 hn2; have HL2 := Aside0.mk hz2; have HB2 := Aside0.mk (hb2 _ _ (show W.heap.size ≤ g3 by rw [HG.out]; exact Nat.le_refl _) HB1.out); clear hz2 hb2 hn2 HZ HB1)
    | ((with_reducible refine gate_dst (N := 9) rfl ?_); refine Kd.R_lit (Kd.int .u8) _ 5 ?hg (N := 9) ?hd (xs := ([] : List Int)) (inner := []) (ok := fun _ => True) (okp := fun _ => True) ?hr ?hp (fun _ hk => hk) trivial (Below.refl _ _) (Nat.le_refl _) (by simp) ?_; (case hd => rfl); (case hg => rfl); (case hr => first | (go_simp; done) | (go_simp; rfl)); (case hp => exact (Reps.none _ _)); intro v9 w4 ho hb4 hg_ hnew_; have HO := Aside0.mk ho; have HB4 := Aside0.mk hb4; have HB5 := Aside0.mk (below_step HB2.out hb4); have HL4 := Aside0.mk (HL2.out.below hb4); clear hg_ hnew_ ho hb4; obtain ⟨j8, j9, j10, jf⟩ := hash_more (K1.out.below HB5.out); clear jf)
    | ((with_reducible refine gate_builtin (b := .append) (xs := #[.tmp 9, .tmp 13]) rfl ?_); at_builtin; refine Kd.R_append_rows (Kd.int .u8) (w0 := w2) w2.heap.size rfl (.tmp 9) (.tmp 13) 26 5 (.int .u8 0) 1 rfl Tryz.underlying26 info5 rfl (by decide) (by omega) v9 [] r _ _ _ (fun _ => True) (fun _ => False) rfl rfl ?aO ?aR (fun _ _ h => h) (fun _ h => h.elim) ?aF ?aB ?aS ?aL ?_; (case aR => exact Kd.C_below K2.out HB5.out); (case aB => exact HB4.out); (case aF => exact (fun _ _ => trivial)); (case aO => exact HO.out); (case aS => exact HB4.out.size); (case aL => simp; omega); intro v14 w5 ho hb hg hat; have HO2 := Aside0.mk ho; have HB6 := Aside0.mk hb; clear ho hb hg hat; obtain ⟨A5, c5, rfl, hc5, hC5⟩ := Kd.R_reads HO2.out; have hne := ne_of_fresh HO2.out (blk_lt HL2.out); have HL6 := Aside0.mk (HL2.out.below HB6.out); rw [← HV.out] at HL6; obtain ⟨q8, q9, q10, qf⟩ := hash_more HL6.out; have qf8 := qf 8; have HX := Aside0.mk hC5; have HY := Aside0.mk hc5; have HNe := Aside0.mk hne; have HBE := Aside0.mk (below_step HB2.out HB6.out); clear qf hC5 hc5 hne q9 q10))
  go_ret
  refine ⟨g3, rfl, ⟨A5, c5, ?_, ?_, ?_, HNe.out⟩, by rw [HG.out]; exact Nat.le_refl _, HBE.out.setCell (p := ⟨g3, 8, none⟩) (by rw [HG.out]; exact Nat.le_refl _) _⟩
  · refine (blk_set HL6.out 8 _).trans ?_
    simp only [hc, List.setIfInBounds_toArray, List.set_cons_zero, List.set_cons_succ, List.nil_append]
  · exact Kd.C_keep (0 : Int) HX.out ((KeepBut.refl _ g3 none).set_ 8 _) (fun ad e _ => HNe.out ad e)
  · exact HY.out

end Go.Proofs.YtceopllngemnnaaGreatDoor


/-
  SHA-256 of the program: Sum and SumHalf: what they return. For up to a million bytes.
-/
namespace Go.Proofs.YtceopllngemnnaaGreatDoor
open Go.RowKit Go.Proofs.YtceopllngemnnaaGreatDoorW.PrintWords Go.Proofs.YtceopllngemnnaaGreatDoorW.PrintLast Go.Proofs.YtceopllngemnnaaGreatDoorW.PrintMore Go.Proofs.YtceopllngemnnaaGreatDoor.PRef

def u8s (l : List Int) : Array Value := (nums .u8 l).toArray
theorem u8s_size (l : List Int) : (u8s l).size = l.length := by simp [u8s, nums]
theorem u8s_one (l : List Int) : (u8s l).all (·.oneCell') = true := by
  rw [Array.all_eq_true_iff_forall_mem]
  intro v hv
  simp [u8s, nums] at hv
  obtain ⟨x, _, rfl⟩ := hv
  rfl
theorem Blk.u8 {W : World} {g t : Nat} {l : List Int} (h : Blk W g (u8s l) t) (k : Nat) (hk : k < l.length) : W.cell? ⟨g, k, none⟩ = some (.int .u8 (rd l k)) ∧ W.frozen? ⟨g, k, none⟩ = false :=
  ⟨by rw [Lib.cell_of_heap h]; simp [u8s, nums, rd, List.getD_eq_getElem?_getD, List.getElem?_eq_getElem hk], Lib.frozen_of_heap h k⟩
theorem Blk.put8 {W : World} {g t : Nat} {l : List Int} (h : Blk W g (u8s l) t) (k : Nat) (x : Int) : Blk (W.setCell ⟨g, k, none⟩ (.int .u8 x)) g (u8s (l.set k x)) t := by
  refine (blk_set h k _).trans ?_
  simp [u8s, nums, List.map_set]

/-- How many zero bytes stand behind the first byte of the padding of n bytes. -/
def zN (n : Nat) : Nat := (119 - n % 64) % 64
def lenB (n : Nat) (i : Nat) : Int := (n : Int) * 8 / 2 ^ (8 * i) % 256
/-- The last bytes: i from k - 1 to 0. -/
def lenL (n : Nat) : Nat → List Int
  | 0 => []
  | k + 1 => lenB n k :: lenL n k
def padL (n : Nat) : List Int := 128 :: List.replicate (zN n) 0 ++ lenL n 8
def bytes4 (w : Int) : List Int := [w / 16777216 % 256, w / 65536 % 256, w / 256 % 256, w % 256]
def St.list (s : St) : List Int := [s.a, s.b, s.c, s.d, s.e, s.f, s.g, s.h]
def digL (s : St) : List Int := s.list.flatMap bytes4
theorem zero142 : (Tryz.prog.info? 142).map (fun i => (i.zero, i.size)) = some (some (.agg (u8s (List.replicate 32 0))), 32) := by kernel_rfl
theorem size142 : (Tryz.prog.info? 142).map (·.size) = some 32 := by kernel_rfl

theorem pad_test (n j : Nat) (hn : n ≤ 3000000) (hj : j ≤ zN n) : ((n : Int) + (j + 1 : Nat)) % 64 = 56 ↔ j = zN n := by
  unfold zN at *; omega

section
variable {ops : Array Oper} {rest : List Oper} {o : Oper} {a : Act} {Q : Exit → Act → World → Prop}
/-- The state out of a Hash. -/
theorem load_hash_l {W : World} {g : Nat} {s : St} {v : Value} {n : Int} {bg : Bool} (hgd : o.guard = none) {p : Tmp} (ho : o.op = .load 175 (.tmp p)) (haddr : a.eval (.tmp p) = .pointer (some ⟨g, 0, none⟩)) (h : Blk W g (hc s v n bg) 178)
    (hk : wpList Tryz.prog ops Q rest (a.put o.dst (.agg s.vals)) W) : wpList Tryz.prog ops Q (o :: rest) a W := by
  refine Kd.event_run hgd ?_ hk
  obtain ⟨c0, c1, c2, c3, c4, c5, c6, c7⟩ := hash_cells h
  have e : ∀ av : Value, av = .pointer (some ⟨g, 0, none⟩) → ((do let v ← Instr.loadAt 175 av; pure (Next.value v)) : Sem Next).run Tryz.prog W = .ok (.value (.agg s.vals)) W := by
    rintro _ rfl
    have hu := Tryz.underlying175
    simp only [St.vals]
    go_simp
  have := e _ haddr
  simpa only [execOp, ho] using this
end
theorem st_cells {W : World} {g : Nat} {s : St} (h : Blk W g s.vals 175) :
    W.cell? ⟨g, 0, none⟩ = some (.int .u32 s.a) ∧ W.cell? ⟨g, 1, none⟩ = some (.int .u32 s.b) ∧ W.cell? ⟨g, 2, none⟩ = some (.int .u32 s.c) ∧ W.cell? ⟨g, 3, none⟩ = some (.int .u32 s.d) ∧
    W.cell? ⟨g, 4, none⟩ = some (.int .u32 s.e) ∧ W.cell? ⟨g, 5, none⟩ = some (.int .u32 s.f) ∧ W.cell? ⟨g, 6, none⟩ = some (.int .u32 s.g) ∧ W.cell? ⟨g, 7, none⟩ = some (.int .u32 s.h) :=
  ⟨by rw [Lib.cell_of_heap h]; rfl, by rw [Lib.cell_of_heap h]; rfl, by rw [Lib.cell_of_heap h]; rfl, by rw [Lib.cell_of_heap h]; rfl, by rw [Lib.cell_of_heap h]; rfl, by rw [Lib.cell_of_heap h]; rfl, by rw [Lib.cell_of_heap h]; rfl, by rw [Lib.cell_of_heap h]; rfl⟩

theorem lenL_length (n : Nat) : ∀ k, (lenL n k).length = k
  | 0 => rfl
  | k + 1 => by simp [lenL, lenL_length n k]
theorem padL_length (n : Nat) : (padL n).length ≤ 72 := by
  unfold padL
  rw [List.length_append, lenL_length]
  simp only [List.length_cons, List.length_replicate]
  unfold zN
  omega
/-- The digest behind k words. -/
def dpart (l : List Int) (k : Nat) : List Int := (l.take k).flatMap bytes4 ++ List.replicate (32 - 4 * k) 0
theorem dpart_length (a b c d e f g h : Int) : ∀ k, k ≤ 8 → (dpart [a, b, c, d, e, f, g, h] k).length = 32
  | 0, _ => rfl
  | 1, _ => rfl
  | 2, _ => rfl
  | 3, _ => rfl
  | 4, _ => rfl
  | 5, _ => rfl
  | 6, _ => rfl
  | 7, _ => rfl
  | 8, _ => rfl
  | k + 9, h => absurd h (by omega)
theorem dig_step (a b c d e f g h : Int) : ∀ k, k < 8 → ((((dpart [a, b, c, d, e, f, g, h] k).set (4 * k) (rd [a, b, c, d, e, f, g, h] (k : Int) / 16777216 % 256)).set (4 * k + 1) (rd [a, b, c, d, e, f, g, h] (k : Int) / 65536 % 256)).set (4 * k + 2) (rd [a, b, c, d, e, f, g, h] (k : Int) / 256 % 256)).set (4 * k + 3) (rd [a, b, c, d, e, f, g, h] (k : Int) % 256) = dpart [a, b, c, d, e, f, g, h] (k + 1)
  | 0, _ => rfl
  | 1, _ => rfl
  | 2, _ => rfl
  | 3, _ => rfl
  | 4, _ => rfl
  | 5, _ => rfl
  | 6, _ => rfl
  | 7, _ => rfl
  | k + 8, h => absurd h (by omega)
theorem index111 (l : List Int) (t : Nat) (w : World) (h : t < 8) (hl : l.length = 8) :
    (Instr.index 111 (.agg (u32s l)) (.int .i64 t)).run Tryz.prog w = .ok (.int .u32 (rd l (t : Int))) w := by
  have h1 : (t : Int) < 8 := by omega
  have hx := u32s_get l t (by omega)
  generalize u32s l = K at hx ⊢
  simp [go_sem, Instr.index, Tryz.underlying111, part, hx, h1]
  omega

theorem q_len {n k : Nat} {q : List Int} {x : Int} (h : q ++ lenL n (k + 1) = padL n) : (q ++ [x]).length ≤ 200 := by
  have h1 : q.length ≤ (padL n).length := by rw [← h, List.length_append]; omega
  have h2 := padL_length n
  rw [List.length_append]
  simp only [List.length_cons, List.length_nil]
  omega
theorem lenL_range (n : Nat) : ∀ k, ∀ x ∈ lenL n k, 0 ≤ x ∧ x ≤ 255
  | 0, x, h => by simp [lenL] at h
  | k + 1, x, h => by
    rcases List.mem_cons.mp h with rfl | h
    · unfold lenB; omega
    · exact lenL_range n k x h
theorem padL_range (n : Nat) (_hn : n ≤ 3000000) : ∀ x ∈ padL n, 0 ≤ x ∧ x ≤ 255 := by
  intro x hx
  unfold padL at hx
  rcases List.mem_append.mp hx with h | h
  · rcases List.mem_cons.mp h with rfl | h
    · omega
    · rw [List.mem_replicate] at h; omega
  · exact lenL_range n 8 x h

set_option maxHeartbeats 4000000 in
set_option maxRecDepth 100000 in
theorem hsum_any (s : St) (n : Nat) (g : Nat) (r : List Int) (W : World) (hH : IsHash W g s r n) (hl : r.length ≤ 2000000) (hn : n ≤ 3000000) (hby : ∀ x ∈ r, 0 ≤ x ∧ x ≤ 255) :
    Calls Tryz.prog 114 #[.pointer (some ⟨g, 0, none⟩)] W fun e w' => e = .returned (.agg (u8s (digL (eat s (r ++ padL n)).1))) ∧ Below W.heap.size W w' := by
  obtain ⟨R, hR⟩ : ∃ R, u8s (digL (eat s (r ++ padL n)).1) = R := ⟨_, rfl⟩
  rw [hR]
  have HR := Aside0.mk hR
  have HH := Aside0.mk hH
  have HBy := Aside0.mk hby
  clear hR hH hby
  go_enter Tryz.func114, Tryz.ntmps114
  go_wp2_with (first
    | ((with_reducible refine gate_dst (N := 2) rfl ?_); refine alloc_blk rfl rfl rfl zero142 ?_; intro g2 w1 hg hz hb; have HG2 := Aside0.mk hg; have HZ2 := Aside0.mk hz; have HB1 := Aside0.mk hb; have HH1 := Aside0.mk (HH.out.below hb); clear hg hz hb))
  refine (clone_any s n g r _ HH1.out (by omega)).mono ?_
  rintro e w3 ⟨g3, rfl, hh, hge, hb⟩
  have HH3 := Aside0.mk hh
  have HG3 := Aside0.mk (show g2 < g3 by have := blk_lt HZ2.out; omega)
  have HZ3 := Aside0.mk (HZ2.out.below hb)
  have HB3 := Aside0.mk (below_step HB1.out hb)
  clear hh hge hb HH1 HZ2 HB1 HH
  go_wp2_with (first
    | ((with_reducible refine gate_dst (N := 15) rfl ?_); refine Kd.R_lit (Kd.int .u8) _ 5 ?hg (N := 15) ?hd (xs := ([128] : List Int)) (inner := [.int .u8 128]) (ok := fun _ => True) (okp := fun _ => True) ?hr ?hp (fun _ hk => hk) trivial (Below.refl _ _) (Nat.le_refl _) (by simp) ?_; (case hd => rfl); (case hg => rfl); (case hr => first | (go_simp; done) | (go_simp; rfl)); (case hp => exact (Reps.one (show Kd.M (Kd.int .u8) _ _ _ (128 : Int) [.int .u8 128] from rfl) (Reps.none _ _))); intro v15 w4 ho hb4 hg_ hnew_; have HO := Aside0.mk ho; have HW4 := Aside0.mk hb4; clear hg_ hnew_ ho hb4))
  have HFuel : Aside0 (zN n < 64) := ⟨by unfold zN; omega⟩
  go_loopg [4] 64 (fun gf x4 wx => ∃ j : Nat, j ≤ zN n ∧ Hid (64 ≤ j + gf) ∧ Aside0 (Kd.R (Kd.int .u8) 5 wx w3.heap.size (fun _ => True) x4 (128 :: List.replicate j 0)) ∧ Aside0 (Below w3.heap.size w3 wx))
  case atStart => exact ⟨0, Nat.zero_le _, by unfold Hid; omega, HO, HW4⟩
  case round =>
    obtain ⟨j, hj, HG, HP, HW⟩ := hrel
    obtain ⟨A3, c3, k1, k2, k3, k4⟩ := HH3.out.below HW.out
    obtain ⟨c8, c9, c10, kf⟩ := hash_more k1
    obtain ⟨Ap, cp, rfl⟩ := Kd.R_slice HP.out
    have hpl : (128 :: List.replicate j (0 : Int)).length = j + 1 := by simp
    rw [hpl] at HP ⊢
    have ht := pad_test n j hn hj
    obtain ⟨q, hq⟩ : ∃ q : Nat, n + (j + 1) = q := ⟨_, rfl⟩
    obtain ⟨m, hm⟩ : ∃ m : Nat, q % 64 = m := ⟨_, rfl⟩
    have hj64 : j < 64 := by have := HFuel.out; omega
    have e1 : wrap64 ((n : Int) + ((j : Int) + 1)) = (q : Int) := by unfold wrap64; omega
    have e2 : Int.tmod (q : Int) 64 = (m : Int) := by rw [Int.tmod_eq_emod_of_nonneg (by omega)]; omega
    have e3 : (q : Int) % 64 = (m : Int) := by omega
    have e4 : ((n : Int) + ((j : Int) + 1)) % 64 = (m : Int) := by omega
    have ht2 : m = 56 ↔ j = zN n := by rw [← ht]; omega
    have HPl := Aside0.mk hpl
    clear k1 k2 k3 k4 kf c8 c10 hpl ht hq hm
    by_cases hz : j = zN n
    · have hm2 : ((m : Int) != 56) = false := by rw [ht2.mpr hz]; rfl
      have HZj := Aside0.mk hz
      clear ht2 hz
      go_wp2_with fail
      clear hm2 e1 e2 e3 e4
      have HP0 := Aside0.mk HP.out
      rw [HZj.out] at HP0
      go_loopg [4, 5] 8 (fun gf x4 x5 wx => ∃ (k : Nat) (i : Int) (q : List Int), k ≤ 8 ∧ x5 = .int .i64 i ∧ i + 1 = (k : Int) ∧ Hid (k ≤ gf) ∧ Aside0 (q ++ lenL n k = padL n) ∧ Aside0 (q.length ≤ 200) ∧ Aside0 (Kd.R (Kd.int .u8) 5 wx w3.heap.size (fun _ => True) x4 q) ∧ Aside0 (Below w3.heap.size w3 wx))
      case atStart => exact ⟨8, 7, 128 :: List.replicate (zN n) 0, Nat.le_refl _, rfl, rfl, Nat.le_refl _, ⟨rfl⟩, ⟨by have := HFuel.out; simp; omega⟩, ⟨by rw [← HZj.out]; exact HP.out⟩, HW⟩
      case round =>
        clear HP HP0 HW c9 HG
        obtain ⟨k, i, q, hk, rfl, hi, HG, HPad, HQl, HP, HW⟩ := hrel
        obtain ⟨Aq, cq, rfl⟩ := Kd.R_slice HP.out
        obtain ⟨nq, hnq⟩ : ∃ m, q.length = m := ⟨_, rfl⟩
        have HNq := Aside0.mk hnq
        rw [hnq] at HP ⊢
        clear hnq
        cases k with
        | zero =>
          have hi0 : i = -1 := by omega
          subst hi0
          clear hi
          have hq : q = padL n := by have := HPad.out; simpa [lenL] using this
          subst hq
          have hKC := (Kd.R_reads' HP.out).2.2
          have HKC := Aside0.mk hKC
          have HLq := Aside0.mk (Kd.R_reads' HP.out).1
          have HBy2 := Aside0.mk (fun x (hx : x ∈ r ++ padL n) => (List.mem_append.mp hx).elim (HBy.out x) (padL_range n hn x))
          have HPL := Aside0.mk (padL_length n)
          clear hKC
          go_wp2_with fail
          refine (take_hash s (n : Int) g3 W.heap.size Aq nq cq r (padL n) _ (HH3.out.below HW.out) HKC.out HLq.out (by have := HPL.out; omega) HBy2.out (by have := HG2.out; have := HG3.out; omega)).mono ?_
          rintro e w5 ⟨rfl, hh, hk5, hb5⟩
          obtain ⟨se, hse⟩ : ∃ se, (eat s (r ++ padL n)).1 = se := ⟨_, rfl⟩
          obtain ⟨A5, c5, k1, _, _, _⟩ := hh
          rw [hse] at k1
          have HSE := Aside0.mk hse
          have HK := Aside0.mk k1
          have HZ5 := Aside0.mk (hk5.blk (HZ3.out.below HW.out) (by have := HG3.out; omega) (by simp))
          have HB5 := Aside0.mk ((HB3.out.trans (HW.out.mono HB3.out.size)).trans hb5)
          clear hse k1 hk5 hb5 HP HKC HLq HPad HBy2 HPL HQl HNq HW HH3
          obtain ⟨sa, sb, sc, sd, sE, sf, sg, sh⟩ := se
          go_wp2_with (first
            | ((with_reducible refine gate_dst (N := 6) rfl ?_); refine alloc_blk rfl rfl rfl zero142 ?_; intro g6 w6 hg hz hb; have HG6 := Aside0.mk (show g2 < g6 by rw [hg]; exact blk_lt HZ5.out); have HZ6 := Aside0.mk hz; have HK6 := Aside0.mk (HK.out.below hb); have HZ56 := Aside0.mk (Blk.below HZ5.out hb); have HB6 := Aside0.mk (HB5.out.trans (hb.mono HB5.out.size)); clear hg hz hb HK HZ5 HB5)
            | ((with_reducible refine gate_dst (N := 51) rfl ?_); refine load_hash_l rfl rfl rfl HK6.out ?_)
            | ((with_reducible refine gate_dst (N := 7) rfl ?_); refine alloc_blk rfl rfl rfl zero175 ?_; intro g7 w7 hg hz hb; have HG7 := Aside0.mk (show g2 < g7 ∧ g6 < g7 by rw [hg]; exact ⟨blk_lt HZ56.out, blk_lt HZ6.out⟩); have HZ7 := Aside0.mk hz; have HZ67 := Aside0.mk (HZ6.out.below hb); have HZ57 := Aside0.mk (HZ56.out.below hb); have HB7 := Aside0.mk (HB6.out.trans (hb.mono HB6.out.size)); clear hg hz hb HK6 HZ56 HZ6 HB6)
            | ((with_reducible refine gate_store (t := 175) (p := 7) (v := .tmp 51) rfl ?_); refine store_blk_l rfl rfl rfl rfl rfl HZ7.out size175 rfl (vals_one _) ?_; intro w8 hz hb hn; have HK8 := Aside0.mk hz; have HZ68 := Aside0.mk (hn _ _ _ HZ67.out (by have := HG7.out; omega)); have HZ58 := Aside0.mk (hn _ _ _ HZ57.out (by have := HG7.out; omega)); have HB8 := Aside0.mk (hb _ _ (by have := HG7.out; have := HG2.out; omega) HB7.out); clear hz hb hn HZ7 HZ67 HZ57 HB7; obtain ⟨y0, y1, y2, y3, y4, y5, y6, y7⟩ := st_cells HK8.out))
          clear y0 y1 y2 y3 y4 y5 y6 y7
          go_loopg [69] 8 (fun gf x69 wx => ∃ k : Nat, k ≤ 8 ∧ x69 = .int .i64 k ∧ Hid (8 ≤ k + gf) ∧ Aside0 (Blk wx g6 (u8s (dpart [sa, sb, sc, sd, sE, sf, sg, sh] k)) 142) ∧ Aside0 (Blk wx g2 (u8s (List.replicate 32 0)) 142) ∧ Aside0 (Below W.heap.size W wx))
          case atStart => exact ⟨0, Nat.zero_le _, rfl, by unfold Hid; omega, HZ68, HZ58, HB8⟩
          case round =>
            clear HG HZ68 HZ58 HB8 HK8
            obtain ⟨k, hk8, rfl, HG, HD, HZ, HB⟩ := hrel
            by_cases hlt : k < 8
            · obtain ⟨x, hx⟩ : ∃ x, rd [sa, sb, sc, sd, sE, sf, sg, sh] (k : Int) = x := ⟨_, rfl⟩
              have hix := fun w => index111 [sa, sb, sc, sd, sE, sf, sg, sh] k w hlt rfl
              rw [hx] at hix
              have hix2 : ∀ w, (Instr.index 111 (.agg #[.int .u32 sa, .int .u32 sb, .int .u32 sc, .int .u32 sd, .int .u32 sE, .int .u32 sf, .int .u32 sg, .int .u32 sh]) (.int .i64 k)).run Tryz.prog w = .ok (.int .u32 x) w := hix
              have HX := Aside0.mk hx
              have q0 : IntKind.i64.wrap (4 * (k : Int)) = 4 * k := IntWalk.i64_in _ (by omega)
              have q1 : IntKind.i64.wrap (4 * (k : Int) + 1) = 4 * k + 1 := IntWalk.i64_in _ (by omega)
              have q2 : IntKind.i64.wrap (4 * (k : Int) + 2) = 4 * k + 2 := IntWalk.i64_in _ (by omega)
              have q3 : IntKind.i64.wrap (4 * (k : Int) + 3) = 4 * k + 3 := IntWalk.i64_in _ (by omega)
              obtain ⟨n0, u0⟩ : ∃ m, 4 * k = m := ⟨_, rfl⟩
              obtain ⟨n1, u1⟩ : ∃ m, 4 * k + 1 = m := ⟨_, rfl⟩
              obtain ⟨n2, u2⟩ : ∃ m, 4 * k + 2 = m := ⟨_, rfl⟩
              obtain ⟨n3, u3⟩ : ∃ m, 4 * k + 3 = m := ⟨_, rfl⟩
              have t0 : (4 * (k : Int)).toNat = n0 := by omega
              have t1 : (4 * (k : Int) + 1).toNat = n1 := by omega
              have t2 : (4 * (k : Int) + 2).toNat = n2 := by omega
              have t3 : (4 * (k : Int) + 3).toNat = n3 := by omega
              have hdl := dpart_length sa sb sc sd sE sf sg sh k hk8
              have f0 := HD.out.u8 n0 (by rw [hdl]; omega)
              have f1 := HD.out.u8 n1 (by rw [hdl]; omega)
              have f2 := HD.out.u8 n2 (by rw [hdl]; omega)
              have f3 := HD.out.u8 n3 (by rw [hdl]; omega)
              obtain ⟨f0, g0⟩ := f0
              obtain ⟨f1, g1⟩ := f1
              obtain ⟨f2, g2'⟩ := f2
              obtain ⟨f3, g3'⟩ := f3
              have d01 : n1 ≠ n0 := by omega
              have d02 : n2 ≠ n0 := by omega
              have d03 : n3 ≠ n0 := by omega
              have d12 : n2 ≠ n1 := by omega
              have d13 : n3 ≠ n1 := by omega
              have d23 : n3 ≠ n2 := by omega
              have HST := Aside0.mk (dig_step sa sb sc sd sE sf sg sh k hlt)
              rw [u1, u2, u3, u0, hx] at HST
              clear hx hix hdl hk8
              go_wp2_with fail
              go_roundg (gk - 1)
              case measure => have := HG.out; omega
              case rel =>
                refine ⟨k + 1, by omega, by go_num, by have := HG.out; unfold Hid; omega, ⟨?_⟩, ⟨?_⟩, ⟨?_⟩⟩
                · rw [← HST.out]
                  exact (((HD.out.put8 n0 _).put8 n1 _).put8 n2 _).put8 n3 _
                · have hne : g2 ≠ g6 := by have := HG6.out; omega
                  exact (((HZ.out.set_ne (p := ⟨g6, n0, none⟩) _ hne).set_ne (p := ⟨g6, n1, none⟩) _ hne).set_ne (p := ⟨g6, n2, none⟩) _ hne).set_ne (p := ⟨g6, n3, none⟩) _ hne
                · have hge : W.heap.size ≤ g6 := by have := HG6.out; have := HG2.out; omega
                  exact below_set (below_set (below_set (below_set HB.out hge) hge) hge) hge
            · obtain rfl : k = 8 := by omega
              have hR : u8s (dpart [sa, sb, sc, sd, sE, sf, sg, sh] 8) = R := by rw [← HR.out, HSE.out]; rfl
              rw [hR] at HD
              have hrs : Aside0 (R.size = 32) := ⟨by rw [← hR]; rfl⟩
              have hr1 : Aside0 (R.all (·.oneCell') = true) := ⟨hR ▸ u8s_one _⟩
              clear hR
              go_wp2_with (first
                | ((with_reducible refine gate_dst (N := 100) rfl ?_); refine load_blk rfl rfl rfl HD.out Tryz.underlying142 rfl (by rw [hrs.out]; exact size142) ?_)
                | ((with_reducible refine gate_store (t := 142) (p := 2) (v := .tmp 100) rfl ?_); refine store_blk rfl rfl rfl rfl rfl HZ.out (by rw [hrs.out]; exact size142) (by rw [hrs.out]; rfl) hr1.out ?_))
              refine bodyPost_ret (results_cell_row rfl _ _ g2 142 R (0, 0) _ ?hp (HZ.out.setRow R) Tryz.underlying142 rfl (by rw [hrs.out]; exact size142)) rfl ?_
              case hp => rfl
              exact ⟨rfl, below_setRow HB.out (by rw [HG2.out]; exact Nat.le_refl _) _⟩
        | succ k =>
          obtain rfl : i = (k : Int) := by omega
          clear hi
          obtain ⟨A4, c4, k1, k2, k3, k4⟩ := HH3.out.below HW.out
          obtain ⟨c8, c9, c10, kf⟩ := hash_more k1
          clear k1 k2 k3 k4 kf c8 c10
          go_wp2_with (((with_reducible refine gate_builtin (b := .append) (xs := #[.tmp 32, .tmp 43]) rfl ?_); at_builtin; refine Kd.R_append (Kd.int .u8) (w0 := w3) w3.heap.size rfl (.tmp 32) (.tmp 43) 26 5 (.int .u8 0) 1 rfl Tryz.underlying26 info5 rfl (by decide) (by omega) (.slice Aq nq cq) q (lenB n k) [.int .u8 (lenB n k)] (fun _ => True) (fun _ => False) rfl rfl ?aP (fun _ hk => hk.elim) ?aF ?aO ?aB ?aS ?aL ?_; (case aP => exact rfl); (case aF => exact fun _ _ => trivial); (case aO => exact HP.out); (case aB => exact HW.out); (case aS => exact HW.out.size); (case aL => have := HQl.out; omega); intro v44 w5 ho hb _ _; have HO2 := Aside0.mk ho; have HW2 := Aside0.mk hb; clear ho hb))
          go_roundg (gk - 1)
          case measure => have := HG.out; omega
          case rel => exact ⟨k, (k : Int) - 1, q ++ [lenB n k], by omega, by go_num, by omega, by have := HG.out; unfold Hid; omega, ⟨by rw [List.append_assoc]; exact HPad.out⟩, ⟨q_len HPad.out⟩, HO2, HW2⟩
    · have hm2 : ((m : Int) != 56) = true := by simpa using fun h : (m : Int) = 56 => hz (ht2.mp (by omega))
      have hjz : j < zN n := by omega
      clear ht2 hz
      go_wp2_with (((with_reducible refine gate_builtin (b := .append) (xs := #[.tmp 25, .tmp 26]) rfl ?_); at_builtin; refine Kd.R_append (Kd.int .u8) (w0 := w3) w3.heap.size rfl (.tmp 25) (.tmp 26) 26 5 (.int .u8 0) 1 rfl Tryz.underlying26 info5 rfl (by decide) (by omega) (.slice Ap (j + 1) cp) (128 :: List.replicate j 0) 0 [.int .u8 0] (fun _ => True) (fun _ => False) rfl rfl ?aP (fun _ hk => hk.elim) ?aF ?aO ?aB ?aS ?aL ?_; (case aP => exact rfl); (case aF => exact fun _ _ => trivial); (case aO => exact HP.out); (case aB => exact HW.out); (case aS => exact HW.out.size); (case aL => have := HPl.out; omega); intro v27 w5 ho hb _ _; have HO2 := Aside0.mk ho; have HW2 := Aside0.mk hb; clear ho hb))
      go_roundg (gk - 1)
      case measure => have := HG.out; omega
      case rel => exact ⟨j + 1, by omega, by have := HG.out; unfold Hid; omega, ⟨by have h := HO2.out; rw [List.cons_append, ← List.replicate_succ'] at h; exact h⟩, HW2⟩

end Go.Proofs.YtceopllngemnnaaGreatDoor

