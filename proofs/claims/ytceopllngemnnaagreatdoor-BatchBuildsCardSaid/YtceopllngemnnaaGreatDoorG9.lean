/-
  Add of a builder, in every case; one item cut out of a slice of items: what the calls return and leave.
-/
import Derived.Test.YtceopllngemnnaaGreatDoorG8
set_option linter.unusedVariables false
set_option linter.unusedSimpArgs false
namespace Go.Proofs.YtceopllngemnnaaGreatDoor
open Go.RowKit Go.Proofs.YtceopllngemnnaaGreatDoorW.PrintWords Go.Proofs.YtceopllngemnnaaGreatDoorW.PrintLast Go.Proofs.YtceopllngemnnaaGreatDoorW.PrintMore Go.Proofs.YtceopllngemnnaaGreatDoor.PRef

/-- What Add returns, and the items then. -/
def addF (most : Int) (l : List It) (x : It) : Int × List It := if fits x most then (if l.length < 1000 ∧ ((totalN (l ++ [x]) : Nat) : Int) ≤ most then (0, l ++ [x]) else (9, l)) else (5, l)
/-- What a builder holds. -/
def bOk (most : Int) (l : List It) : Prop := l.length ≤ 1000 ∧ (l = [] ∨ ((totalN l : Nat) : Int) ≤ most)
theorem bOk_nil (most : Int) : bOk most [] := ⟨by simp, .inl rfl⟩
theorem bOk_sum {most : Int} {l : List It} (h : bOk most l) (hm : okMost most) : sumN l ≤ 4194304 := by
  rcases h.2 with rfl | h1
  · simp [sumN]
  · unfold totalN at h1
    have := hm.2
    omega
theorem addF_ok {most : Int} {l : List It} {x : It} (h : bOk most l) : bOk most (addF most l x).2 := by
  unfold addF
  by_cases h1 : fits x most
  · rw [if_pos h1]
    by_cases h2 : l.length < 1000 ∧ ((totalN (l ++ [x]) : Nat) : Int) ≤ most
    · rw [if_pos h2]
      exact ⟨by simp; omega, .inr h2.2⟩
    · rw [if_neg h2]; exact h
  · rw [if_neg h1]; exact h
theorem Bld.below {W w' : World} {g base : Nat} {most : Int} {l : List It} (h : Bld W g base most l) (hb : Below W.heap.size W w') : Bld w' g base most l := by
  obtain ⟨A, c, h1, h2⟩ := h
  exact ⟨A, c, h1.below hb, Kd.R_below h2 hb⟩
theorem Bld.lt {W : World} {g base : Nat} {most : Int} {l : List It} (h : Bld W g base most l) : g < W.heap.size := by
  obtain ⟨A, c, h1, _⟩ := h
  exact blk_lt h1
theorem Bld.set_other {W : World} {g base g4 : Nat} {most : Int} {l : List It} (h : Bld W g base most l) (hne : g4 ≠ g) (hlt : g4 < base) (j : Nat) (u : Value) : Bld (W.setCell ⟨g4, j, none⟩ u) g base most l := by
  obtain ⟨A, c, h1, h2⟩ := h
  exact ⟨A, c, blk_far h1 (Ne.symm hne) u, Kd.R_mono (Kd.R_far (p := ⟨g4, j, none⟩) (Kd.R_bound h2) (fun k hk => by have := hk.2.1; show k ≠ g4; omega) u) (fun k hk => hk.1)⟩

theorem add_any (x : It) (g base : Nat) (most : Int) (l : List It) (W : World) (he : Env W) (h : Bld W g base most l) (hx : okId x.1) (hl : x.2.size ≤ 9223372036854775807) (hm : okMost most) (ho : bOk most l) (hbw : base ≤ W.heap.size) (h4 : 4 ≤ base) (h4g : 4 ≤ g) :
    Calls Tryz.prog 29 #[.pointer (some ⟨g, 0, none⟩), .agg (itV x)] W fun e w' => e = .returned (.int .i64 (addF most l x).1) ∧ Bld w' g base most (addF most l x).2 ∧ Bel base g W w' := by
  unfold addF
  by_cases h1 : fits x most
  · rw [if_pos h1]
    by_cases h2 : l.length < 1000
    · by_cases h3 : ((totalN (l ++ [x]) : Nat) : Int) ≤ most
      · rw [if_pos ⟨h2, h3⟩]
        rw [total_snoc] at h3
        exact add_room x g base most l W he h hx hl h1 h2 (bOk_sum ho hm) hm h3 hbw h4 h4g
      · rw [if_neg (fun hh => h3 hh.2)]
        rw [total_snoc] at h3
        exact (add_full x g base most l W he h hx hl h1 h2 (bOk_sum ho hm) hm (by omega)).mono fun e w' ⟨a, b⟩ => ⟨a, h.below b, Bel.of b hbw⟩
    · rw [if_neg (fun hh => h2 hh.1)]
      exact (add_many x g base most l W he h hx hl h1 (by have := ho.1; omega)).mono fun e w' ⟨a, b⟩ => ⟨a, h.below b, Bel.of b hbw⟩
  · rw [if_neg h1]
    exact (add_long x g base most l W he h hx hl h1).mono fun e w' ⟨a, b⟩ => ⟨a, h.below b, Bel.of b hbw⟩

section
variable {P : Program} {o : Oper} {a : Act}
theorem exec_slice {t e : TypeId} (ht : P.underlying t = some (.slice e)) {x lo hi : Operand} {v r : Value} {kl kh : IntKind} {i j : Int} {W : World} (ho : o.op = .slice t x (some lo) (some hi) none) (hx : a.eval x = v) (hlo : a.eval lo = .int kl i) (hhi : a.eval hi = .int kh j) (h : (Instr.slice t v (some (.int kl i)) (some (.int kh j)) none).run P W = .ok r W) : (execOp a.eval o).run P W = .ok (.value r) W := by
  have e : (Instr.sliceAt t v (some (.int kl i)) (some (.int kh j)) none).run P W = .ok r W := by
    unfold Instr.sliceAt
    rw [Sem.run_bind, run_underlying ht W]
    exact h
  simp [execOp, ho, hx, hlo, hhi, e]
end
/-- One item cut out. -/
theorem cut_one {P : Program} (t e : TypeId) {i : TypeInfo} (ht : P.underlying t = some (.slice e)) (hi : P.info? e = some i) (hsz : i.size = 33) (A : Option Addr) (n c : Nat) (l : List It) (k : Nat) (x : It) (hx : l[k]? = some x) (hl : l.length = n) (hc : n ≤ c) :
    ∃ A', (∀ W : World, (Instr.slice t (.slice A n c) (some (.int .i64 (k : Int))) (some (.int .i64 ((k : Int) + 1))) none).run P W = .ok (.slice A' 1 (c - k)) W) ∧ ∀ w, Kit.C w A n l → Kit.C w A' 1 [x] := by
  have hk : k < n := by rw [← hl]; exact (List.getElem?_eq_some_iff.1 hx).1
  refine ⟨if c = k then A else A.map (·.add (k * 33)), fun W => ?_, fun w h => ?_⟩
  rotate_left
  · rw [← hl] at h hc hk
    have := Kd.C_mid (lo := k) (hi := k + 1) (c := c) h (by omega) (by omega) hc
    rw [mid_one hx] at this
    exact this
  · have := cut_mid (P := P) t e .i64 .i64 ht hi 33 hsz A n c (k : Int) ((k : Int) + 1) (by omega) (by omega) (by omega) hc W
    rw [this]
    congr 2
    · omega
end Go.Proofs.YtceopllngemnnaaGreatDoor

