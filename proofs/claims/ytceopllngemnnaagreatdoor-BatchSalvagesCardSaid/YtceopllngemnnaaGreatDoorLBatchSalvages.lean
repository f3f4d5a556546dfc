/-
  The law BatchSalvages: in a world that holds what the library reads, the call returns true and leaves what was there. For every text.
-/
import Derived.Test.YtceopllngemnnaaGreatDoorH4
import Derived.Test.YtceopllngemnnaaGreatDoorME
set_option linter.unusedVariables false
set_option linter.unusedSimpArgs false
namespace Go.Proofs.YtceopllngemnnaaGreatDoor
open Go.RowKit Go.Proofs.YtceopllngemnnaaGreatDoorW.PrintWords Go.Proofs.YtceopllngemnnaaGreatDoorW.PrintLast Go.Proofs.YtceopllngemnnaaGreatDoorW.PrintMore Go.Proofs.YtceopllngemnnaaGreatDoor.PRef
attribute [local go_sem] max2_int min2_int max_two min_two

theorem salv_len (s : ByteArray) : ∀ (f k : Nat) (acc : List It), k ≤ s.size → acc.length ≤ k → (salvG s f k acc).length ≤ s.size
  | 0, k, acc, h1, h2 => by rw [salvG]; omega
  | f + 1, k, acc, h1, h2 => by
    cases hr : readF s k with
    | inl q =>
      obtain ⟨x, nx⟩ := q
      obtain ⟨h3, h4, _⟩ := readV_le hr
      rw [salv_ok hr]
      exact salv_len s f nx _ h3 (by simp; omega)
    | inr q =>
      obtain ⟨b, e⟩ := q
      cases hj : nl s k with
      | none => rw [salv_end hr hj]; omega
      | some j =>
        have h3 := nl_le s k j hj
        rw [salv_skip hr hj]
        exact salv_len s f (j + 1) _ (by omega) (by omega)
theorem salvF_len (s : ByteArray) : (salvF s).length ≤ s.size := salv_len s _ 0 [] (Nat.zero_le _) (Nat.le_refl _)

/-- The call's way with a text that has been cut. -/
theorem salvages_calls (s : ByteArray) (hs : s.size ≤ 6000) : (∀ w, Env w → Calls Tryz.prog 23 #[.string s] w fun r w' => ∃ A c, r = .returned (.slice A (salvF s).length c) ∧ Kit.C w' A (salvF s).length (salvF s) ∧ Below w.heap.size w w') ∧
    ∀ w, Calls Tryz.prog 24 #[.string s] w fun r w' => ∃ A c, r = .returned (.slice A (salvF s).length c) ∧ Kit.C w' A (salvF s).length (salvF s) ∧ Below w.heap.size w w' := by
  constructor
  · intro w he
    refine (salv_any s w he (by omega)).mono ?_
    rintro r w' ⟨v, rfl, hr, hb⟩
    obtain ⟨A, c, rfl, _, hC⟩ := Kd.R_reads hr
    exact ⟨A, c, rfl, hC, hb⟩
  · intro w
    refine (rsalv_any s w (by omega)).mono ?_
    rintro r w' ⟨v, rfl, hr, hb⟩
    obtain ⟨A, c, rfl, _, hC⟩ := Kd.R_reads hr
    exact ⟨A, c, rfl, hC, hb⟩

set_option maxHeartbeats 8000000 in
set_option maxRecDepth 100000 in
theorem batchSalvages_walk (s : ByteArray) (hs : s.size ≤ 140737488351232) (W : World) (he : Env W) :
    Calls Tryz.prog 8 #[.string s] W fun r w' => r = .returned (.bool true) ∧ Below W.heap.size W w' := by
  obtain ⟨t, ht⟩ : ∃ t, s.extract 0 (min s.size 6000) = t := ⟨_, rfl⟩
  have hts : t.size ≤ 6000 := by rw [← ht, ← data_length, extract_list, List.length_take]; omega
  obtain ⟨n, hn⟩ : ∃ n, (salvF t).length = n := ⟨_, rfl⟩
  have hnl : n ≤ 6000 := by have := salvF_len t; omega
  have hcs := salvages_calls t hts
  have hsame := fun A c A2 c2 w h h2 => same_any A n c (salvF t) A2 n c2 (salvF t) w h h2 (by omega) (by omega)
  rw [decide_eq_true rfl] at hsame
  rw [hn] at hcs
  have HC := Aside0.mk hcs
  have HSM := Aside0.mk hsame
  have HE := Aside0.mk he
  have HT := Aside0.mk ht
  clear hcs hsame he hn ht
  by_cases hl : s.size ≤ 6000
  · have hmn : min (s.size : Int) 6000 = (s.size : Int) := by omega
    have e : s = t := by
      rw [← HT.out, Nat.min_eq_left hl]
      exact data_inj (by rw [extract_list, List.drop_zero, List.take_of_length_le (by rw [data_length]; omega)])
    clear HT
    subst e
    go_enter Tryz.func8, Tryz.ntmps8
    go_wp2_with fail
    refine (known_any _ HE.out).mono ?_
    rintro e w1 ⟨rfl, hb⟩
    have B1 := Aside0.mk hb
    clear hb
    go_wp2_with fail
    refine (HC.out.1 _ (HE.out.below B1.out)).mono ?_
    rintro e w2 ⟨A2, c2, rfl, hC2, hb⟩
    have B2 := Aside0.mk (below_step B1.out hb)
    have C2 := Aside0.mk hC2
    clear hb hC2
    go_wp2_with fail
    refine (HC.out.2 _).mono ?_
    rintro e w3 ⟨A3, c3, rfl, hC3, hb⟩
    have B3 := Aside0.mk (below_step B2.out hb)
    have C23 := Aside0.mk (Kd.C_below C2.out hb)
    have C3 := Aside0.mk hC3
    clear hb hC3
    go_wp2_with fail
    refine (HSM.out _ _ _ _ _ C23.out C3.out).mono ?_
    rintro e w4 ⟨rfl, hb⟩
    have B4 := Aside0.mk (below_step B3.out hb)
    clear hb
    go_wp2_with fail
    go_ret
    exact ⟨rfl, B4.out⟩
  · have hmn : min (s.size : Int) 6000 = 6000 := by omega
    have e : s.extract 0 6000 = t := by rw [← HT.out, Nat.min_eq_right (by omega)]
    clear HT
    go_enter Tryz.func8, Tryz.ntmps8
    go_wp2_with fail
    clear e
    refine (known_any _ HE.out).mono ?_
    rintro e w1 ⟨rfl, hb⟩
    have B1 := Aside0.mk hb
    clear hb
    go_wp2_with fail
    refine (HC.out.1 _ (HE.out.below B1.out)).mono ?_
    rintro e w2 ⟨A2, c2, rfl, hC2, hb⟩
    have B2 := Aside0.mk (below_step B1.out hb)
    have C2 := Aside0.mk hC2
    clear hb hC2
    go_wp2_with fail
    refine (HC.out.2 _).mono ?_
    rintro e w3 ⟨A3, c3, rfl, hC3, hb⟩
    have B3 := Aside0.mk (below_step B2.out hb)
    have C23 := Aside0.mk (Kd.C_below C2.out hb)
    have C3 := Aside0.mk hC3
    clear hb hC3
    go_wp2_with fail
    refine (HSM.out _ _ _ _ _ C23.out C3.out).mono ?_
    rintro e w4 ⟨rfl, hb⟩
    have B4 := Aside0.mk (below_step B3.out hb)
    clear hb
    go_wp2_with fail
    go_ret
    exact ⟨rfl, B4.out⟩
end Go.Proofs.YtceopllngemnnaaGreatDoor

