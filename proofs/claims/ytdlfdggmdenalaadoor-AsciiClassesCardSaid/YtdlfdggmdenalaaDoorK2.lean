/-
  The words of a string, as package ascii takes them apart: what Words, each and the literal that collects them return. For every string.
-/
import Derived.Test.YtdlfdggmdenalaaDoorK1
import Derived.Test.YtdlfdggmdenalaaDoorWMore
import Derived.OneCell
namespace Go.Proofs.YtdlfdggmdenalaaDoor
open Go.RowKit Go.Proofs.YtdlfdggmdenalaaDoorW.PrintWords Go.Proofs.YtdlfdggmdenalaaDoorW.PrintMore

theorem info9 : (Tryd.prog.info? 9).map (fun i => (i.zero, i.size, i.bytes)) = some (some (.string ⟨#[]⟩), 1, 16) := by kernel_rfl

set_option maxHeartbeats 400000 in
theorem add_any (B b : Nat) (xs : List ByteArray) (x : ByteArray) (ok : Nat → Prop) (v : Value) (w : World) (hB : B ≤ b) (hBw : B ≤ w.heap.size) (hb : w.heap[b]? = some (.cells #[v] 27 (0, 0))) (HO : Kd.R Kd.string 9 w B ok v xs)
    (hokb : ∀ k, ok k → k ≠ b) (hfresh : ∀ k, w.heap.size ≤ k → ok k) (hl : xs.length < 8796093022208) :
    Calls Tryd.prog 53 #[.string x, .pointer (some ⟨b, 0, none⟩)] w fun e w' => e = .returned (.tuple #[]) ∧ ∃ v', w'.heap[b]? = some (.cells #[v'] 27 (0, 0)) ∧ Kd.R Kd.string 9 w' B ok v' (xs ++ [x]) ∧ Below B w w' ∧
      (∀ k, k < w.heap.size → k ≠ b → some k ≠ v.ownBlock → w'.heap[k]? = w.heap[k]?) ∧ w.heap.size ≤ w'.heap.size := by
  have hcell := cell_of_one hb
  have HO' := Aside0.mk HO
  have hne : some b ≠ v.ownBlock := fun he => hokb b (HO.1 b he.symm) rfl
  have hbl := lt_of_block hb
  clear HO
  have HBb := Aside0.mk hb
  clear hb
  go_enter Tryd.func53, Tryd.ntmps53
  go_wp2_with (((with_reducible refine gate_builtin (b := .append) (xs := #[.tmp 3, .tmp 5]) rfl ?_); at_builtin; refine Kd.R_append Kd.string (w0 := w) B rfl (.tmp 3) (.tmp 5) 27 9 (.string ⟨#[]⟩) 16 rfl Tryd.underlying27 info9 rfl (by decide) (by omega) v xs x [.string x] ok (fun _ => False) rfl rfl ?aP (fun _ hk => hk.elim) ?aF ?aO ?aB ?aS ?aL ?_))
  case aP => exact rfl
  case aF => exact hfresh
  case aO => exact HO'.out
  case aB => exact Below.refl _ _
  case aS => exact hBw
  case aL => omega
  intro v1 w1 ho hb1 hg hat
  have hsl := Kd.R_slice ho
  rw [List.length_append, List.length_singleton] at hsl
  obtain ⟨A1, c1, rfl⟩ := hsl
  have hb2 : w1.heap[b]? = some (.cells #[v] 27 (0, 0)) := (hg.block b hbl hne).trans HBb.out
  have hc2 := cell_of_one hb2
  have hf2 := free_of_one hb2
  have HB2 := Aside0.mk hb2
  have HO2 := Aside0.mk ho
  have HB1 := Aside0.mk hb1
  have HG := Aside0.mk hg
  clear hb2 ho hb1 hg hat
  go_wp2
  go_end0
  refine ⟨rfl, _, one_setCell HB2.out, Kd.R_far (p := ⟨b, 0, none⟩) HO2.out hokb _, HB1.out.setCell (p := ⟨b, 0, none⟩) hB _, fun k hk hkb hkv => ?_, ?_⟩
  · rw [Below.heap_setCell _ _ _ _ hkb]; exact HG.out.block k hk hkv
  · have := HG.out.size; simpa [World.setCell] using this


/-- The words of a string from an offset on. -/
def wordsG (s : ByteArray) : Nat → Nat → List ByteArray
  | 0, _ => []
  | f + 1, at_ => if at_ < s.size then s.extract at_ (spanN (fun n => !blankI n) s at_) :: wordsG s f (spanN blankI s (spanN (fun n => !blankI n) s at_)) else []

def wordsL (s : ByteArray) : List ByteArray := wordsG s (s.size + 1) (spanN blankI s 0)

theorem spanN_le (p : Int → Bool) (s : ByteArray) (k : Nat) (hk : k ≤ s.size) : k ≤ spanN p s k ∧ spanN p s k ≤ s.size := by
  fun_induction spanN p s k with
  | case1 k h hp ih => have := ih (by omega); omega
  | case2 k h hp => omega
  | case3 k h => omega

/-- Where a span ends before the end of the string, the byte is not of the class. -/
theorem spanN_stop (p : Int → Bool) (s : ByteArray) (k : Nat) (h : spanN p s k < s.size) : p (s[spanN p s k].toNat : Int) = false := by
  fun_induction spanN p s k with
  | case1 k h1 hp ih => exact ih h
  | case2 k h1 hp => simpa using hp
  | case3 k h1 => exact absurd h h1

theorem blank_class (w : World) : Class 45 #[] blankI w := fun n W _ => blank_any n W

theorem spanN_first (p : Int → Bool) (s : ByteArray) (k : Nat) (h : k < s.size) (hp : p (s[k].toNat : Int) = true) : k < spanN p s k := by
  rw [spanN_hit p s k h hp]
  exact (spanN_le p s (k + 1) (by omega)).1

theorem wordsG_length (s : ByteArray) : ∀ f at_, (wordsG s f at_).length ≤ f := by
  intro f
  induction f with
  | zero => intro at_; simp [wordsG]
  | succ f ih =>
    intro at_
    rw [wordsG]
    split
    · have := ih (spanN blankI s (spanN (fun n => !blankI n) s at_)); simp; omega
    · simp

set_option maxHeartbeats 800000 in
theorem each_any (s : ByteArray) (b : Nat) (w : World) (hs : s.size ≤ 1000000) (hb : w.heap[b]? = some (.cells #[.slice none 0 0] 27 (0, 0))) :
    Calls Tryd.prog 52 #[.string s, .func (.func 53) #[] #[.pointer (some ⟨b, 0, none⟩)]] w fun e w' => e = .returned (.tuple #[]) ∧ ∃ v', w'.heap[b]? = some (.cells #[v'] 27 (0, 0)) ∧ Kd.R Kd.string 9 w' b (fun k => k ≠ b) v' (wordsL s) ∧ Below b w w' := by
  have hbl := lt_of_block hb
  have HBb := Aside0.mk hb
  clear hb
  have hsm : s.size ≤ maxLen := by unfold maxLen; omega
  have e0 := enters45
  have e1 := enters79
  go_enter Tryd.func52, Tryd.ntmps52
  go_wp2_with (first
    | (go_at_call 67; refine (not_any 45 _).mono ?_; rintro e w' ⟨rfl, rfl⟩)
    | (go_at_call 55; refine (span_any 45 #[] enters45 blankI s 0 _ hsm (Nat.zero_le _) (blank_class _)).mono ?_; rintro e w' ⟨rfl, rfl⟩))
  go_loopg [5] (s.size + 1) (fun gf i wx => ∃ (k : Nat) (v : Value) (xs : List ByteArray), k ≤ s.size ∧ i = .int .i64 k ∧ Hid (s.size < k + gf) ∧ Aside0 (xs ++ wordsG s gf k = wordsL s) ∧ Aside0 (xs.length ≤ k) ∧ Aside0 (∀ h : k < s.size, blankI (s[k].toNat : Int) = false) ∧
      Aside0 (wx.heap[b]? = some (.cells #[v] 27 (0, 0))) ∧ Aside0 (Kd.R Kd.string 9 wx b (fun k => k ≠ b ∧ k ≠ w.heap.size) v xs) ∧ Aside0 (Below b w wx) ∧
      Aside0 (wx.heap[w.heap.size]? = some (.cells #[.func (.func 45) #[] #[]] 46 (0, 0))))
  case atStart =>
    exact ⟨spanN blankI s 0, _, [], (spanN_le blankI s 0 (Nat.zero_le _)).2, rfl, by unfold Hid; omega, ⟨rfl⟩, ⟨Nat.zero_le _⟩, ⟨fun h => spanN_stop blankI s 0 h⟩, ⟨(heap_alloc_old w _ hbl).trans HBb.out⟩,
      ⟨Kd.R_nil _ _ _ _ _⟩, ⟨(Below.refl _ _).alloc (by omega) _⟩, ⟨heap_alloc_new w _⟩⟩
  case round =>
    obtain ⟨k, v, xs, hk, rfl, HG, HW, HL, HS, HBv, HO, HB, HN⟩ := hrel
    by_cases hlt : k < s.size
    · have hS := HG.out
      obtain ⟨g', rfl⟩ : ∃ g', gk = g' + 1 := ⟨gk - 1, by omega⟩
      clear hS
      have hNc := Aside0.mk (cell_of_one HN.out)
      have hNl := lt_of_block HN.out
      have hbl' := lt_of_block HBv.out
      obtain ⟨e1, he1⟩ : ∃ e1, spanN (fun n => !blankI n) s k = e1 := ⟨_, rfl⟩
      obtain ⟨e2, he2⟩ : ∃ e2, spanN blankI s e1 = e2 := ⟨_, rfl⟩
      have h1 := spanN_first (fun n => !blankI n) s k hlt (by simpa using HS.out hlt)
      have h2 := spanN_le (fun n => !blankI n) s k hk
      rw [he1] at h1 h2
      obtain ⟨_, h2⟩ := h2
      have h3 := spanN_le blankI s e1 h2
      rw [he2] at h3
      obtain ⟨h3, h4⟩ := h3
      have hw' : wordsG s (g' + 1) k = s.extract k e1 :: wordsG s g' e2 := by rw [wordsG, if_pos hlt, he1, he2]
      have HW2 := Aside0.mk (HW.out)
      rw [hw'] at HW2
      have HE1 := Aside0.mk he1
      have HE2 := Aside0.mk he2
      have HS2 := Aside0.mk (fun h : e2 < s.size => (by subst he2; exact spanN_stop blankI s e1 h : blankI (s[e2].toNat : Int) = false))
      clear hw' HW he1 he2 HS
      have e53 : ∀ args w, (callFunc 53 args).run Tryd.prog w = .ok (.enter 53 args) w := enters_of Tryd.func53 (by kernel_rfl) rfl
      go_wp2_with fail
      refine (span_any 79 _ enters79 (fun n => !blankI n) s k _ hsm hk (not_class 45 enters45 blankI _ (blank_class _) _ hNl hNc.out)).mono ?_
      rintro e w' ⟨rfl, rfl⟩
      rw [HE1.out]
      go_wp2_with fail
      refine (add_any b b xs (s.extract k e1) (fun k => k ≠ b ∧ k ≠ w.heap.size) v _ (Nat.le_refl _) (by omega) HBv.out HO.out (fun k hk => hk.1) (fun k hk => ⟨by omega, by omega⟩) (by have := HL.out; omega)).mono ?_
      rintro e w2 ⟨rfl, v2, hb2, ho2, hB2, hkeep, hsz⟩
      have HN2 := Aside0.mk ((hkeep w.heap.size hNl (by omega) (fun e => (HO.out.1 _ e.symm).2 rfl)).trans HN.out)
      have HBv2 := Aside0.mk hb2
      have HO2 := Aside0.mk ho2
      have HBb2 := Aside0.mk (HB.out.trans hB2)
      clear hb2 ho2 hB2 hkeep HBv HO HB HN hNc
      go_wp2_with fail
      refine (span_any 45 #[] enters45 blankI s e1 _ hsm h2 (blank_class _)).mono ?_
      rintro e w' ⟨rfl, rfl⟩
      rw [HE2.out]
      go_wp2_with fail
      go_roundg g'
      case measure => omega
      case rel => exact ⟨e2, v2, xs ++ [s.extract k e1], h4, rfl, by have := HG.out; unfold Hid; omega, ⟨by rw [List.append_assoc]; exact HW2.out⟩, ⟨by have := HL.out; simp; omega⟩, HS2, HBv2, HO2, HBb2, HN2⟩
    · have hw' : wordsG s gk k = [] := by cases gk <;> simp [wordsG, hlt]
      have HW2 := HW.out
      rw [hw', List.append_nil] at HW2
      have HW3 := Aside0.mk HW2
      clear hw' HW2 HW
      go_wp2_with fail
      go_end0
      exact ⟨rfl, v, HBv.out, HW3.out ▸ Kd.R_mono HO.out (fun k hk => hk.1), HB.out⟩


set_option maxHeartbeats 400000 in
theorem words_any (s : ByteArray) (w : World) (hs : s.size ≤ 1000000) :
    Calls Tryd.prog 21 #[.string s] w fun e w' => ∃ v, e = .returned v ∧ Kd.R Kd.string 9 w' w.heap.size (fun _ => True) v (wordsL s) ∧ Below w.heap.size w w' := by
  have hmf : ∀ (fn : Fn) (first cap : Array Value) (w : World), (Instr.makeFunc fn first cap).run Tryd.prog w = .ok (.func fn first cap) w := fun _ _ _ _ => rfl
  have hE := each_any s w.heap.size (w.alloc (.cells #[.slice none 0 0] 27 (0, 0))) hs (heap_alloc_new _ _)
  go_enter Tryd.func21, Tryd.ntmps21
  go_wp2_with fail
  refine hE.mono ?_
  rintro e w1 ⟨rfl, v, hb, HO, HB⟩
  have hc := cell_of_one hb
  have HO' := Aside0.mk (Kd.R_mono (ok' := fun _ => True) HO (fun _ _ => trivial))
  have HB' := Aside0.mk (((Below.refl w.heap.size w).alloc (Nat.le_refl _) _).trans HB)
  obtain ⟨A, c, rfl⟩ := Kd.R_slice HO
  clear hb HO HB hE hmf
  go_wp2_with fail
  go_ret
  exact ⟨_, rfl, HO'.out, HB'.out⟩

end Go.Proofs.YtdlfdggmdenalaaDoor
