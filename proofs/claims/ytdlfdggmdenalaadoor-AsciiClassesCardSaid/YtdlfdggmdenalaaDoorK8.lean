/-
  Unhex of package ascii: what it returns. For strings of up to a million bytes.
-/
import Derived.Test.YtdlfdggmdenalaaDoorK7
namespace Go.Proofs.YtdlfdggmdenalaaDoor
open Go.RowKit Go.Proofs.YtdlfdggmdenalaaDoorW.PrintWords Go.Proofs.YtdlfdggmdenalaaDoorW.PrintMore

def valI (n : Int) : Int := Lib.indexByte hexT.data.toList n.toNat.toUInt8

theorem value_any (n : Int) (w : World) : Calls Tryd.prog 61 #[.int .u8 n] w fun e w' => e = .returned (.int .i64 (valI n)) ∧ w' = w := by
  go_enter Tryd.func61, Tryd.ntmps61
  go_wp2_with (go_at_call 62; refine (Tryd.strings_IndexByte _ n _).mono ?_; rintro e w' ⟨rfl, rfl⟩)
  go_ret
  exact ⟨rfl, rfl⟩

theorem indexByte_range (l : List UInt8) (c : UInt8) : -1 ≤ Lib.indexByte l c ∧ Lib.indexByte l c < l.length := by
  induction l with
  | nil => simp [Lib.indexByte]
  | cons b l ih =>
    unfold Lib.indexByte
    split
    · simp
    · split
      · simp; omega
      · rename_i h1 h2
        have : Lib.indexByte l c ≠ -1 := by simpa using h2
        simp only [List.length_cons]
        omega

theorem valI_range (n : Int) : -1 ≤ valI n ∧ valI n < 16 := indexByte_range _ _

def unhexG (s : ByteArray) : Nat → Nat → List Int → List Int × Int
  | 0, _, acc => (acc, 0)
  | f + 1, k, acc => if k < s.size then (if valI (bt s k) < 0 ∨ valI (bt s (k + 1 : Nat)) < 0 then ([], 3) else unhexG s f (k + 2) (acc ++ [valI (bt s k) * 16 + valI (bt s (k + 1 : Nat))])) else (acc, 0)

def unhexF (s : ByteArray) : List Int × Int := if s.size % 2 = 1 then ([], 3) else unhexG s (s.size + 1) 0 []

theorem wraps_i64 (n : Int) (h₀ : 0 ≤ n) (h₁ : n < 2 ^ 8) : IntKind.i64.wrap n = n := IntWalk.i64_in _ (by omega)

theorem or16 (a b : Int) (ha : 0 ≤ a) (ha2 : a < 16) (hb : 0 ≤ b) (hb2 : b < 16) : bits .or .i64 (a * 16) b = a * 16 + b := by
  have h1 : (a * 16) % 2 ^ 4 = 0 := by show (a * 16) % 16 = 0; omega
  have h2 : a * 16 < 2 ^ 8 := by show a * 16 < 256; omega
  have h3 : b < 2 ^ 4 := by show b < 16; omega
  have h4 : b < 2 ^ 8 := by show b < 256; omega
  exact bits_join .i64 8 (by decide) wraps_i64 4 (a * 16) b (by omega) h1 h2 hb h3 h4

set_option maxHeartbeats 4000000 in
theorem unhex_any (s : ByteArray) (w : World) (hs : s.size ≤ 1000000) :
    Calls Tryd.prog 33 #[.string s] w fun e w' => ∃ v, e = .returned (.tuple #[v, .int .i64 (unhexF s).2]) ∧ Kd.R (Kd.int .u8) 5 w' w.heap.size (fun _ => True) v (unhexF s).1 ∧ Below w.heap.size w w' := by
  by_cases hodd : s.size % 2 = 1
  · have HF := Aside0.mk (show unhexF s = ([], 3) by unfold unhexF; rw [if_pos hodd])
    have hm : (s.size : Int) % 2 = 1 := by omega
    go_enter Tryd.func33, Tryd.ntmps33
    go_wp2_with fail
    go_ret2
    refine ⟨_, by rw [HF.out]; rfl, by rw [HF.out]; exact Kd.R_nil _ _ _ _ _, Below.refl _ _⟩
  · have HF := Aside0.mk (show unhexF s = unhexG s (s.size + 1) 0 [] by unfold unhexF; rw [if_neg hodd])
    have hm : (s.size : Int) % 2 = 0 := by omega
    have e61 : ∀ args w, (callFunc 61 args).run Tryd.prog w = .ok (.enter 61 args) w := enters_of Tryd.func61 (by kernel_rfl) rfl
    go_enter Tryd.func33, Tryd.ntmps33
    go_wp2_with fail
    clear hm
    go_loopg [4, 6, 7, 8] (s.size + 1) (fun gf x4 i x7 x8 wx => ∃ (k : Nat) (acc : List Int), k ≤ s.size ∧ k % 2 = 0 ∧ i = .int .i64 k ∧ Hid (s.size < k + gf) ∧ Aside0 (acc.length ≤ k) ∧ Aside0 (unhexG s gf k acc = unhexF s) ∧
      Aside0 (Kd.R (Kd.int .u8) 5 wx w.heap.size (fun _ => True) x4 acc) ∧ Aside0 (Below w.heap.size w wx))
    case atStart => exact ⟨0, [], Nat.zero_le _, rfl, rfl, by unfold Hid; omega, ⟨Nat.zero_le _⟩, ⟨HF.out.symm⟩, ⟨Kd.R_nil _ _ _ _ _⟩, ⟨Below.refl _ _⟩⟩
    case round =>
      obtain ⟨k, acc, hk, hev, rfl, HG, HL, HU, HR, HB⟩ := hrel
      by_cases hlt : k < s.size
      · have hlt2 : k + 1 < s.size := by omega
        obtain ⟨g', rfl⟩ : ∃ g', gk = g' + 1 := ⟨gk - 1, by have := HG.out; omega⟩
        obtain ⟨a, ha⟩ : ∃ a, valI (bt s k) = a := ⟨_, rfl⟩
        obtain ⟨b, hb⟩ : ∃ b, valI (bt s (k + 1 : Nat)) = b := ⟨_, rfl⟩
        have hra := valI_range (bt s k)
        have hrb := valI_range (bt s (k + 1 : Nat))
        rw [ha] at hra
        rw [hb] at hrb
        have hu := HU.out
        rw [unhexG, if_pos hlt, ha, hb] at hu
        have ha1 : valI (s[k].toNat : Int) = a := by rw [← ha]; congr 1; exact bt_at s (k : Int) hlt
        have hb1 : valI (s[k + 1].toNat : Int) = b := by rw [← hb]; congr 1; exact bt_at s ((k + 1 : Nat) : Int) hlt2
        have hra1 := hra.1
        have hra2 := hra.2
        have hrb1 := hrb.1
        have hrb2 := hrb.2
        clear hra hrb ha hb
        by_cases hna : a < 0
        · rw [if_pos (Or.inl hna)] at hu
          have HU2 := Aside0.mk hu
          clear hu HU
          go_wp2_with fail
          have q1 : IntKind.i64.wrap ((k : Int) + 1) = (k : Int) + 1 := IntWalk.i64_in _ (by omega)
          have q2 : 0 ≤ (k : Int) + 1 := by omega
          have q3 : (k : Int) + 1 < (s.size : Int) := by omega
          have q4 : ((k : Int) + 1).toNat = k + 1 := by omega
          have q5 : (k : Int) < (s.size : Int) := by omega
          go_quiet ((go_at_call 61; exact Calls.quiet_of_same (value_any _ _)))
          clear q1
          go_wp2
          go_ret2
          exact ⟨_, by rw [← HU2.out]; rfl, by rw [← HU2.out]; exact Kd.R_nil _ _ _ _ _, pw_below_drewN HB.out _⟩
        · by_cases hnb : b < 0
          · rw [if_pos (Or.inr hnb)] at hu
            have HU2 := Aside0.mk hu
            clear hu HU
            go_wp2_with fail
            have q1 : IntKind.i64.wrap ((k : Int) + 1) = (k : Int) + 1 := IntWalk.i64_in _ (by omega)
            have q2 : 0 ≤ (k : Int) + 1 := by omega
            have q3 : (k : Int) + 1 < (s.size : Int) := by omega
            have q4 : ((k : Int) + 1).toNat = k + 1 := by omega
            have q5 : (k : Int) < (s.size : Int) := by omega
            go_quiet ((go_at_call 61; exact Calls.quiet_of_same (value_any _ _)))
            clear q1
            go_wp2
            go_ret2
            exact ⟨_, by rw [← HU2.out]; rfl, by rw [← HU2.out]; exact Kd.R_nil _ _ _ _ _, pw_below_drewN HB.out _⟩
          · rw [if_neg (by omega)] at hu
            have HU2 := Aside0.mk hu
            clear hu HU
            have hor := or16 a b (by omega) (by omega) (by omega) (by omega)
            have hmod : (a * 16 + b) % 256 = a * 16 + b := by omega
            go_wp2_with fail
            have q1 : IntKind.i64.wrap ((k : Int) + 1) = (k : Int) + 1 := IntWalk.i64_in _ (by omega)
            have q2 : 0 ≤ (k : Int) + 1 := by omega
            have q3 : (k : Int) + 1 < (s.size : Int) := by omega
            have q4 : ((k : Int) + 1).toNat = k + 1 := by omega
            have q5 : (k : Int) < (s.size : Int) := by omega
            go_quiet ((go_at_call 61; exact Calls.quiet_of_same (value_any _ _)))
            clear q1
            go_wp2_with (((with_reducible refine gate_builtin (b := .append) (xs := #[.tmp 36, .tmp 42]) rfl ?_); at_builtin; refine Kd.R_append (Kd.int .u8) (w0 := w) w.heap.size rfl (.tmp 36) (.tmp 42) 39 5 (.int .u8 0) 1 rfl Tryd.underlying39 infoByte rfl (by decide) (by omega) u4 acc (a * 16 + b) [.int .u8 (a * 16 + b)] (fun _ => True) (fun _ => False) rfl rfl ?aP (fun _ hk => hk.elim) ?aF ?aO ?aB ?aS ?aL ?_))
            case aP => exact rfl
            case aF => exact fun _ _ => trivial
            case aO => exact Kd.R_drewN HR.out _
            case aB => exact pw_below_drewN HB.out _
            case aS => exact HB.out.size
            case aL => have := HL.out; omega
            intro v1 w1 ho hbb _ _
            have HO2 := Aside0.mk ho
            have HB2 := Aside0.mk hbb
            clear ho hbb HR HB
            go_wp2
            go_roundg g'
            case measure => omega
            case rel => exact ⟨k + 2, acc ++ [a * 16 + b], by omega, by omega, by go_num, by have := HG.out; unfold Hid; omega, ⟨by have := HL.out; simp; omega⟩, HU2, HO2, HB2⟩
      · have hu := HU.out
        have hend : unhexG s gk k acc = (acc, 0) := by cases gk <;> simp [unhexG, hlt]
        rw [hend] at hu
        have HU2 := Aside0.mk hu
        clear hu hend HU
        have hsl := Kd.R_slice HR.out
        obtain ⟨A4, c4, rfl⟩ := hsl
        go_wp2_with fail
        go_ret2
        exact ⟨_, by rw [← HU2.out]; rfl, by rw [← HU2.out]; exact HR.out, HB.out⟩

end Go.Proofs.YtdlfdggmdenalaaDoor
