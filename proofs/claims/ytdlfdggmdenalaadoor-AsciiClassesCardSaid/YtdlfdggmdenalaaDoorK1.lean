/-
  The classes of bytes of package ascii, its span and its not: what the calls return. For every string, every offset.
-/
import Derived.Test.YtdlfdggmdenalaaDoorProg
import Derived.Test.YtdlfdggmdenalaaDoorWWords
import Derived.Below
import Derived.Deep.Draws
import Derived.OwnWalk
import Derived.WalkKit
import Derived.KernelRfl
import Derived.RowKit3
import Derived.Deep.LoopGhost
import Derived.Deep.QuietTactic
import Derived.BigQuiet
import Derived.Outline
import Derived.Lib.Hide
import Derived.IntWalk
import Derived.Tactics
import Derived.Shelf.Lay
namespace Go.Proofs.YtdlfdggmdenalaaDoor
open Go.RowKit Go.Proofs.YtdlfdggmdenalaaDoorW.PrintWords

/-- A function value that tells a class of bytes: called with a number it returns what p says, and the world stays. -/
def Class (g : Nat) (lb : Array Value) (p : Int → Bool) (w : World) : Prop :=
  ∀ (n : Int) (W : World), Below w.heap.size w W → Calls Tryd.prog g (#[.int .u8 n] ++ lb) W fun e w' => e = .returned (.bool (p n)) ∧ w' = W

theorem Class.later {g : Nat} {lb : Array Value} {p : Int → Bool} {w W : World} (h : Class g lb p w) (hb : Below w.heap.size w W) : Class g lb p W :=
  fun n W' hb' => h n W' (hb.trans (hb'.mono hb.size))

theorem enters45 : ∀ args w, (callFunc 45 args).run Tryd.prog w = .ok (.enter 45 args) w := enters_of Tryd.func45 (by kernel_rfl) rfl
theorem enters41 : ∀ args w, (callFunc 41 args).run Tryd.prog w = .ok (.enter 41 args) w := enters_of Tryd.func41 (by kernel_rfl) rfl
theorem enters43 : ∀ args w, (callFunc 43 args).run Tryd.prog w = .ok (.enter 43 args) w := enters_of Tryd.func43 (by kernel_rfl) rfl
theorem enters64 : ∀ args w, (callFunc 64 args).run Tryd.prog w = .ok (.enter 64 args) w := enters_of Tryd.func64 (by kernel_rfl) rfl
theorem enters79 : ∀ args w, (callFunc 79 args).run Tryd.prog w = .ok (.enter 79 args) w := enters_of Tryd.func79 (by kernel_rfl) rfl

def blankI (n : Int) : Bool := n == 32 || n == 9
def digitI (n : Int) : Bool := decide (48 ≤ n) && decide (n ≤ 57)
def visI (n : Int) : Bool := decide (33 ≤ n) && decide (n ≤ 126)
def printI (n : Int) : Bool := n == 32 || visI n

theorem blank_any (n : Int) (w : World) : Calls Tryd.prog 45 #[.int .u8 n] w fun e w' => e = .returned (.bool (blankI n)) ∧ w' = w := by
  go_enter Tryd.func45, Tryd.ntmps45
  go_wp2
  all_goals go_ret
  all_goals (refine ⟨?_, rfl⟩; simp [blankI, *])

theorem digit_any (n : Int) (w : World) : Calls Tryd.prog 41 #[.int .u8 n] w fun e w' => e = .returned (.bool (digitI n)) ∧ w' = w := by
  go_enter Tryd.func41, Tryd.ntmps41
  go_wp2
  all_goals go_ret
  all_goals (refine ⟨?_, rfl⟩; simp [digitI, *]; try omega)

theorem vis_any (n : Int) (w : World) : Calls Tryd.prog 43 #[.int .u8 n] w fun e w' => e = .returned (.bool (visI n)) ∧ w' = w := by
  go_enter Tryd.func43, Tryd.ntmps43
  go_wp2
  all_goals go_ret
  all_goals (refine ⟨?_, rfl⟩; simp [visI, *]; try omega)

theorem print_any (n : Int) (w : World) : Calls Tryd.prog 64 #[.int .u8 n] w fun e w' => e = .returned (.bool (printI n)) ∧ w' = w := by
  go_enter Tryd.func64, Tryd.ntmps64
  go_wp2_with (go_at_call 43; refine (vis_any _ _).mono ?_; rintro e w' ⟨rfl, rfl⟩)
  all_goals go_ret
  all_goals (refine ⟨?_, rfl⟩; simp [printI, *])


/-- From offset k on: the offset of the first byte that is not of the class, or the length. -/
def spanN (p : Int → Bool) (s : ByteArray) (k : Nat) : Nat :=
  if h : k < s.size then (if p (s[k].toNat : Int) then spanN p s (k + 1) else k) else k
termination_by s.size - k

theorem spanN_hit (p : Int → Bool) (s : ByteArray) (k : Nat) (h : k < s.size) (hp : p (s[k].toNat : Int) = true) : spanN p s k = spanN p s (k + 1) := by
  rw [spanN, dif_pos h, if_pos hp]
theorem spanN_miss (p : Int → Bool) (s : ByteArray) (k : Nat) (h : k < s.size) (hp : p (s[k].toNat : Int) = false) : spanN p s k = k := by
  rw [spanN, dif_pos h, if_neg (by simp [hp])]
theorem spanN_end (p : Int → Bool) (s : ByteArray) (k : Nat) (h : ¬ k < s.size) : spanN p s k = k := by
  rw [spanN, dif_neg h]

theorem ret_int {k : IntKind} {a b : Int} (h : a = b) : Ending.returned (.int k a) = .returned (.int k b) := by rw [h]

set_option maxHeartbeats 400000 in
theorem span_any (g : Nat) (lb : Array Value) (eg : ∀ args w, (callFunc g args).run Tryd.prog w = .ok (.enter g args) w) (p : Int → Bool) (s : ByteArray) (k0 : Nat) (w : World) (hs : s.size ≤ maxLen) (hk0 : k0 ≤ s.size) (hp : Class g lb p w) :
    Calls Tryd.prog 55 #[.string s, .int .i64 k0, .func (.func g) #[] lb] w fun e w' => e = .returned (.int .i64 (spanN p s k0)) ∧ w' = w := by
  unfold maxLen at hs
  go_enter Tryd.func55, Tryd.ntmps55
  go_wp2_with fail
  go_loopg [1] s.size (fun gf i wx => ∃ k : Nat, w = wx ∧ k ≤ s.size ∧ i = .int .i64 k ∧ s.size ≤ k + gf ∧ Hid (spanN p s k = spanN p s k0))
  case atStart => exact ⟨k0, rfl, hk0, rfl, by omega, rfl⟩
  case round =>
    obtain ⟨k, rfl, hk, rfl, hg, hsp⟩ := hrel
    by_cases hlt : k < s.size
    · have cS : Calls Tryd.prog g (#[.int .u8 (s[k].toNat : Int)] ++ lb) w _ := hp _ w (Below.refl _ _)
      clear hp
      cases hb : p (s[k].toNat : Int)
      · have hm := hsp.out.symm.trans (spanN_miss p s k hlt hb)
        have HM := Lib.hid hm
        clear hm hsp
        rw [hb] at cS
        clear hb
        go_wp2_with (go_at_fn g; refine cS.mono ?_; rintro e w' ⟨rfl, rfl⟩)
        go_ret
        exact ⟨ret_int (a := (k : Int)) (by rw [HM.out]), rfl⟩
      · have hm := (spanN_hit p s k hlt hb).symm.trans hsp.out
        have HM := Lib.hid hm
        clear hm hsp
        rw [hb] at cS
        clear hb
        go_wp2_with (go_at_fn g; refine cS.mono ?_; rintro e w' ⟨rfl, rfl⟩)
        go_roundg (s.size - (k + 1))
        case measure => omega
        case rel => exact ⟨k + 1, rfl, by omega, by go_num, by omega, HM.out⟩
    · have hm := hsp.out.symm.trans (spanN_end p s k hlt)
      have HM := Lib.hid hm
      clear hm hsp
      go_wp2_with fail
      go_ret
      exact ⟨ret_int (a := (k : Int)) (by rw [HM.out]), rfl⟩


/-- The complement of a class that is a function of the program without captured variables. -/
theorem not_any (g : Nat) (w : World) :
    Calls Tryd.prog 67 #[.func (.func g) #[] #[]] w fun e w' => e = .returned (.func (.func 79) #[] #[.pointer (some ⟨w.heap.size, 0, none⟩)]) ∧ w' = w.alloc (.cells #[.func (.func g) #[] #[]] 46) := by
  have hmf : ∀ (fn : Fn) (first cap : Array Value) (w : World), (Instr.makeFunc fn first cap).run Tryd.prog w = .ok (.func fn first cap) w := fun _ _ _ _ => rfl
  go_enter Tryd.func67, Tryd.ntmps67
  go_wp2
  go_outline
  go_ret
  exact ⟨rfl, rfl⟩

theorem not1_any (g : Nat) (eg : ∀ args w, (callFunc g args).run Tryd.prog w = .ok (.enter g args) w) (p : Int → Bool) (w : World) (hp : Class g #[] p w) (b : Nat) (n : Int) (hc : w.cell? ⟨b, 0, none⟩ = some (.func (.func g) #[] #[])) :
    Calls Tryd.prog 79 #[.int .u8 n, .pointer (some ⟨b, 0, none⟩)] w fun e w' => e = .returned (.bool (!p n)) ∧ w' = w := by
  have cS : Calls Tryd.prog g (#[.int .u8 n] ++ #[]) w _ := hp _ w (Below.refl _ _)
  go_enter Tryd.func79, Tryd.ntmps79
  go_wp2_with (go_at_fn g; refine cS.mono ?_; rintro e w' ⟨rfl, rfl⟩)
  go_ret
  exact ⟨rfl, rfl⟩

/-- The complement, as a class. -/
theorem not_class (g : Nat) (eg : ∀ args w, (callFunc g args).run Tryd.prog w = .ok (.enter g args) w) (p : Int → Bool) (w : World) (hp : Class g #[] p w) (b : Nat) (hb : b < w.heap.size) (hc : w.cell? ⟨b, 0, none⟩ = some (.func (.func g) #[] #[])) :
    Class 79 #[.pointer (some ⟨b, 0, none⟩)] (fun n => !p n) w := fun n W hbw =>
  not1_any g eg p W (hp.later hbw) b n ((hbw.cell (p := ⟨b, 0, none⟩) hb).trans hc)

end Go.Proofs.YtdlfdggmdenalaaDoor
