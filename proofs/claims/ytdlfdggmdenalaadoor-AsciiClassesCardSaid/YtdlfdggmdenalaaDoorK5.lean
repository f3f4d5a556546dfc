/-
  Trim, Squeeze and Number of package ascii: what they return. For strings of up to a million bytes.
-/
import Derived.Test.YtdlfdggmdenalaaDoorK4
namespace Go.Proofs.YtdlfdggmdenalaaDoor
open Go.RowKit Go.Proofs.YtdlfdggmdenalaaDoorW.PrintWords Go.Proofs.YtdlfdggmdenalaaDoorW.PrintMore

theorem toList_len (u : ByteArray) : u.toList.length = u.size := by rw [ByteArray.toList_eq]; rfl
theorem toList_nil {u : ByteArray} (h : u.size = 0) : u.toList = [] := List.eq_nil_of_length_eq_zero (by rw [toList_len, h])
theorem toList_ne {u : ByteArray} (h : 0 < u.size) : ¬ u.toList = [] := by
  intro he
  have h1 := toList_len u
  rw [he] at h1; simp at h1; omega

def trimR (u : ByteArray) : ByteArray := if h : 0 < u.size then (if blankI (u[u.size - 1].toNat : Int) = true then trimR (u.extract 0 (u.size - 1)) else u) else u
termination_by u.size
decreasing_by simp; omega

def trimS (s : ByteArray) : ByteArray := trimR (s.extract (spanN blankI s 0) s.size)

theorem trimR_nil (u : ByteArray) (h : u.size = 0) : trimR u = u := by rw [trimR, dif_neg (by omega)]
theorem trimR_hit (u : ByteArray) (h : 0 < u.size) (hb : blankI (u[u.size - 1].toNat : Int) = true) : trimR u = trimR (u.extract 0 (u.size - 1)) := by
  rw [trimR, dif_pos h, if_pos hb]
theorem trimR_miss (u : ByteArray) (h : 0 < u.size) (hb : blankI (u[u.size - 1].toNat : Int) = false) : trimR u = u := by
  rw [trimR, dif_pos h, if_neg (by simp [hb])]

set_option maxHeartbeats 400000 in
theorem trim_any (s : ByteArray) (w : World) (hs : s.size ≤ 1000000) :
    Calls Tryd.prog 26 #[.string s] w fun e w' => e = .returned (.string (trimS s)) ∧ w' = w := by
  have e45 := enters45
  have hl := (spanN_le blankI s 0 (Nat.zero_le _)).2
  obtain ⟨n, hn⟩ : ∃ n, spanN blankI s 0 = n := ⟨_, rfl⟩
  rw [hn] at hl
  have HT := Aside0.mk (show trimR (s.extract n s.size) = trimS s by rw [← hn]; rfl)
  have HN := Aside0.mk hn
  clear hn
  go_enter Tryd.func26, Tryd.ntmps26
  go_wp2_with fail
  refine (span_any 45 #[] enters45 blankI s 0 _ (by unfold maxLen; omega) (Nat.zero_le _) (blank_class _)).mono ?_
  rintro e w' ⟨rfl, rfl⟩
  rw [HN.out]
  go_wp2_with fail
  have HZ : Aside0 ((s.extract n s.size).size ≤ s.size) := ⟨by simp⟩
  go_loopg [0] (s.size + 1) (fun gf x0 wx => ∃ u : ByteArray, x0 = .string u ∧ w' = wx ∧ Aside0 (trimR u = trimS s) ∧ Aside0 (u.size < gf) ∧ Aside0 (u.size ≤ s.size))
  case atStart => exact ⟨_, rfl, rfl, HT, ⟨by have := HZ.out; omega⟩, HZ⟩
  case round =>
    obtain ⟨u, rfl, rfl, HT, HG, HL⟩ := hrel
    by_cases h0 : u.size = 0
    · have hR := Aside0.mk ((trimR_nil u h0).symm.trans HT.out)
      have ht : u.toList = [] := toList_nil h0
      go_wp2_with fail
      go_ret
      exact ⟨by rw [← hR.out]; rfl, rfl⟩
    · obtain ⟨m, hm⟩ : ∃ m, u.size = m + 1 := ⟨u.size - 1, by omega⟩
      have ht : ¬ u.toList = [] := toList_ne (by omega)
      have ht2 : u.toList.isEmpty = false := by simpa using ht
      have hmb : m ≤ 1000000 := by have := HL.out; omega
      have hlt : m < u.size := by omega
      have hwr : wrap64 ((m : Int) + 1 - 1) = (m : Int) := by unfold wrap64; omega
      cases hb : blankI (u[m].toNat : Int)
      · have hR := Aside0.mk ((trimR_miss u (by omega) (by simp only [hm, Nat.add_sub_cancel]; exact hb)).symm.trans HT.out)
        have cS : Calls Tryd.prog 45 #[.int .u8 (u[m].toNat : Int)] w' _ := blank_any _ w'
        rw [hb] at cS
        clear hb
        go_wp2_with (go_at_call 45; refine cS.mono ?_; rintro e w' ⟨rfl, rfl⟩)
        go_ret
        exact ⟨by rw [← hR.out]; rfl, rfl⟩
      · have hR := Aside0.mk ((trimR_hit u (by omega) (by simp only [hm, Nat.add_sub_cancel]; exact hb)).symm.trans HT.out)
        have cS : Calls Tryd.prog 45 #[.int .u8 (u[m].toNat : Int)] w' _ := blank_any _ w'
        rw [hb] at cS
        clear hb
        go_wp2_with (go_at_call 45; refine cS.mono ?_; rintro e w' ⟨rfl, rfl⟩)
        go_roundg (gk - 1)
        case measure => have := HG.out; omega
        case rel => exact ⟨u.extract 0 m, by first | rfl | simp, rfl, ⟨by have := hR.out; simpa [hm] using this⟩, ⟨by have := HG.out; simp; omega⟩, ⟨by have := HL.out; simp; omega⟩⟩


theorem spanN_extract (s : ByteArray) (a b : Nat) : (s.extract a b).size ≤ s.size := by simp; omega
theorem wordsG_short (s : ByteArray) : ∀ f at_ x, x ∈ wordsG s f at_ → x.size ≤ s.size := by
  intro f
  induction f with
  | zero => intro at_ x h; simp [wordsG] at h
  | succ f ih =>
    intro at_ x h
    rw [wordsG] at h
    split at h
    · rcases List.mem_cons.mp h with rfl | h
      · exact spanN_extract s _ _
      · exact ih _ x h
    · simp at h

theorem join_bound (M : Nat) : ∀ l : List (List UInt8), (∀ x ∈ l, x.length ≤ M) → (Lib.join l [32]).length ≤ l.length * (M + 1) := by
  intro l hl
  cases l with
  | nil => simp [Lib.join_nil]
  | cons x r =>
    rw [Lib.join_cons, List.length_append]
    have h1 := hl x List.mem_cons_self
    have h2 : ∀ r : List (List UInt8), (∀ x ∈ r, x.length ≤ M) → (Lib.joinTail [32] r).length ≤ r.length * (M + 1) := by
      intro r
      induction r with
      | nil => intro _; simp [Lib.joinTail]
      | cons y r ih =>
        intro hr
        have := ih (fun x hx => hr x (List.mem_cons_of_mem _ hx))
        have hy := hr y List.mem_cons_self
        simp only [Lib.joinTail, List.map_cons, List.flatten_cons, List.length_append, List.length_cons, List.length_nil] at this ⊢
        rw [Nat.succ_mul]
        omega
    have h3 := h2 r (fun x hx => hl x (List.mem_cons_of_mem _ hx))
    rw [List.length_cons, Nat.succ_mul]
    omega

def joinS (l : List ByteArray) : ByteArray := ⟨(Lib.join (l.map (·.data.toList)) [32]).toArray⟩
def squeezeS (s : ByteArray) : ByteArray := joinS (wordsL s)

theorem squeeze_any (s : ByteArray) (w : World) (hs : s.size ≤ 1000000) :
    Calls Tryd.prog 22 #[.string s] w fun e w' => e = .returned (.string (squeezeS s)) ∧ Below w.heap.size w w' := by
  have hn : (wordsL s).length ≤ 1000001 := Nat.le_trans (wordsG_length s _ _) (by omega)
  have hj : (Lib.join ((wordsL s).map (·.data.toList)) [32]).length ≤ 140737488355328 := by
    refine Nat.le_trans (join_bound 1000000 _ ?_) ?_
    · intro x hx
      obtain ⟨y, hy, rfl⟩ := List.mem_map.mp hx
      have := wordsG_short s _ _ y hy
      rw [data_length]; omega
    · rw [List.length_map]
      refine Nat.le_trans (Nat.mul_le_mul_right _ hn) (by omega)
  obtain ⟨l, hl⟩ : ∃ l, wordsL s = l := ⟨_, rfl⟩
  have HQ := Aside0.mk (show squeezeS s = joinS l by rw [← hl]; rfl)
  have HLl := Aside0.mk hl
  rw [hl] at hn hj
  clear hl
  have HJ := Aside0.mk hj
  clear hj
  go_enter Tryd.func22, Tryd.ntmps22
  go_wp2_with fail
  refine (words_any s _ hs).mono ?_
  rintro e w1 ⟨v, rfl, HR, hb⟩
  rw [HLl.out] at HR
  have HB := Aside0.mk hb
  clear hb
  cases l with
  | nil =>
    obtain ⟨A, c, rfl⟩ := Kd.R_slice HR
    clear HR
    go_wp2_with fail
    refine (Tryd.strings_Join_none A c _ _).mono ?_
    rintro e w' ⟨rfl, rfl⟩
    go_wp2_with fail
    go_ret
    exact ⟨by rw [HQ.out]; rfl, HB.out⟩
  | cons x r =>
    obtain ⟨g, cap, rfl, hg0, hg1, _⟩ := Kd.R_form HR (by simp)
    have hcap := (Kd.R_reads' HR).2.1
    have hcells : ∀ (j : Nat) (y : ByteArray), (x :: r)[j]? = some y → w1.cell? ⟨g, 0 + j, none⟩ = some (.string y) := fun j y hy => by
      have hj : j < (x :: r).length := (List.getElem?_eq_some_iff.1 hy).1
      have := (Kd.R_cell (xs := x :: r) ByteArray.empty HR (j : Int) (by omega) (by omega)).1
      rw [Nat.zero_add]
      simpa [rdOf, List.getD_eq_getElem?_getD, hy] using this
    have HC := Aside0.mk hcells
    clear hcells HR
    obtain ⟨n, hn2⟩ : ∃ n, (x :: r).length = n := ⟨_, rfl⟩
    have hJn := Tryd.strings_Join g 0 cap (x :: r) ⟨#[32]⟩ w1 HC.out hg1 (by omega) hcap HJ.out
    rw [hn2] at hJn hn hcap ⊢
    clear hn2
    go_wp2_with fail
    refine hJn.mono ?_
    rintro e w2 ⟨rfl, hb2⟩
    have HB2 := Aside0.mk (HB.out.trans (hb2.mono HB.out.size))
    clear hb2 HB
    go_wp2_with fail
    go_ret
    exact ⟨by rw [HQ.out]; rfl, HB2.out⟩

def numF (s : ByteArray) (most : Int) : Int × Int :=
  if s.size = 0 ∨ spanN digitI s 0 < s.size ∨ (bt s 0 = 48 ∧ 1 < s.size) then (0, 3)
  else match Lib.atoiAll s.data.toList with
    | .ok v => if most < v then (0, 2) else (v, 0)
    | _ => (0, 2)

theorem atoi_ok (s : ByteArray) (v : Int) (w : World) (hs : s.size ≤ 1000000) (h : Lib.atoiAll s.data.toList = .ok v) :
    Calls Tryd.prog 57 #[.string s] w fun e w' => e = .returned (.tuple #[.int .i64 v, .nilIface]) ∧ Below w.heap.size w w' :=
  (Tryd.strconv_Atoi_ok s (by omega) v h w).mono fun e w' ⟨he, hw⟩ => ⟨he, by
    rcases hw with rfl | ⟨t, rfl⟩
    · exact Below.refl _ _
    · exact bytes_below (Below.refl _ _) (Nat.le_refl _) _ _⟩

theorem atoi_bad (s : ByteArray) (w : World) (he : Env w) (hs : s.size ≤ 1000000) (h : ∀ v, Lib.atoiAll s.data.toList ≠ .ok v) :
    Calls Tryd.prog 57 #[.string s] w fun e w' => ∃ v N, e = .returned (.tuple #[.int .i64 v, .iface 76 (.pointer (some ⟨N, 0, none⟩))]) ∧ Below w.heap.size w w' := by
  rcases hr : Lib.atoiAll s.data.toList with v | _ | _
  · exact absurd hr (h v)
  · obtain ⟨tp, p, hv⟩ := he.syn
    exact (Any.strconv_Atoi_syntax Tryd.laysC172 s (by omega) hr _ w hv (Or.inr ⟨tp, p, rfl⟩)).mono fun e w' ⟨N, he, _, _, hb⟩ => ⟨_, N, he, hb⟩
  · obtain ⟨tp, p, hv⟩ := he.rng
    exact (Tryd.strconv_Atoi_range s (by omega) hr _ w hv (Or.inr ⟨tp, p, rfl⟩)).mono fun e w' ⟨N, he, _, _, hb⟩ => ⟨_, N, he, hb⟩

theorem number_any (s : ByteArray) (most : Int) (w : World) (he : Env w) (hs : s.size ≤ 1000000) :
    Calls Tryd.prog 29 #[.string s, .int .i64 most] w fun e w' => e = .returned (.tuple #[.int .i64 (numF s most).1, .int .i64 (numF s most).2]) ∧ Below w.heap.size w w' := by
  have HE := Aside0.mk he
  clear he
  have e41 := enters41
  by_cases h0 : s.size = 0
  · have HP := Aside0.mk (show numF s most = (0, 3) by unfold numF; rw [if_pos (Or.inl h0)])
    have ht : s.toList = [] := toList_nil h0
    go_enter Tryd.func29, Tryd.ntmps29
    go_wp2_with fail
    go_ret2
    exact ⟨by rw [HP.out]; rfl, Below.refl _ _⟩
  · have ht : ¬ s.toList = [] := toList_ne (by omega)
    have ht2 : s.toList.isEmpty = false := by simpa using ht
    by_cases h1 : spanN digitI s 0 < s.size
    · have HP := Aside0.mk (show numF s most = (0, 3) by unfold numF; rw [if_pos (Or.inr (Or.inl h1))])
      obtain ⟨n, hn⟩ : ∃ n, spanN digitI s 0 = n := ⟨_, rfl⟩
      rw [hn] at h1
      have HN := Aside0.mk hn
      clear hn
      go_enter Tryd.func29, Tryd.ntmps29
      go_wp2_with fail
      refine (span_any 41 #[] enters41 digitI s 0 _ (by unfold maxLen; omega) (Nat.zero_le _) (fun n W _ => digit_any n W)).mono ?_
      rintro e w' ⟨rfl, rfl⟩
      rw [HN.out]
      go_wp2_with fail
      go_ret2
      exact ⟨by rw [HP.out]; rfl, Below.refl _ _⟩
    · have hn : spanN digitI s 0 = s.size := by have := (spanN_le digitI s 0 (Nat.zero_le _)).2; omega
      have hp : 0 < s.size := by omega
      have hb0 : bt s 0 = (s[0].toNat : Int) := (bt_at s 0 hp).symm
      by_cases h2 : (s[0].toNat : Int) = 48 ∧ 1 < s.size
      · have HP := Aside0.mk (show numF s most = (0, 3) by unfold numF; rw [if_pos (Or.inr (Or.inr ⟨by rw [hb0]; exact h2.1, h2.2⟩))])
        obtain ⟨h21, h22⟩ := h2
        have HN := Aside0.mk hn
        clear hn hb0
        go_enter Tryd.func29, Tryd.ntmps29
        go_wp2_with fail
        refine (span_any 41 #[] enters41 digitI s 0 _ (by unfold maxLen; omega) (Nat.zero_le _) (fun n W _ => digit_any n W)).mono ?_
        rintro e w' ⟨rfl, rfl⟩
        rw [HN.out]
        go_wp2_with fail
        go_ret2
        exact ⟨by rw [HP.out]; rfl, Below.refl _ _⟩
      · have hneg : ¬ (s.size = 0 ∨ spanN digitI s 0 < s.size ∨ (bt s 0 = 48 ∧ 1 < s.size)) := by
          rw [hb0]
          rintro (h | h | h)
          · exact h0 h
          · exact h1 h
          · exact h2 h
        have HF := Aside0.mk (show numF s most = match Lib.atoiAll s.data.toList with
            | .ok v => if most < v then (0, 2) else (v, 0)
            | _ => (0, 2) by unfold numF; rw [if_neg hneg])
        clear hneg hb0
        obtain ⟨ea, hea⟩ : ∃ ea, Lib.atoiAll s.data.toList = ea := ⟨_, rfl⟩
        rw [hea] at HF
        have HA := Aside0.mk hea
        have HN := Aside0.mk hn
        clear hn hea
        have hor : ¬ (s[0].toNat : Int) = 48 ∨ ((s[0].toNat : Int) = 48 ∧ ¬ 1 < s.size) := by
          by_cases h : (s[0].toNat : Int) = 48
          · exact Or.inr ⟨h, fun h' => h2 ⟨h, h'⟩⟩
          · exact Or.inl h
        clear h2
        rcases ea with v | _ | _
        · have hat := atoi_ok s v w hs HA.out
          by_cases hm : most < v
          · have HP := Aside0.mk (show numF s most = (0, 2) by rw [HF.out]; simp only [if_pos hm])
            clear HF
            rcases hor with h3 | ⟨h3, h4⟩
            all_goals
              go_enter Tryd.func29, Tryd.ntmps29
              go_wp2_with fail
              refine (span_any 41 #[] enters41 digitI s 0 _ (by unfold maxLen; omega) (Nat.zero_le _) (fun n W _ => digit_any n W)).mono ?_
              rintro e w' ⟨rfl, rfl⟩
              rw [HN.out]
              go_wp2_with fail
              refine hat.mono ?_
              rintro e w1 ⟨rfl, hb⟩
              have HB := Aside0.mk hb
              clear hb
              go_wp2_with fail
              go_ret2
              exact ⟨by rw [HP.out]; rfl, HB.out⟩
          · have HP := Aside0.mk (show numF s most = (v, 0) by rw [HF.out]; simp only [if_neg hm])
            clear HF
            rcases hor with h3 | ⟨h3, h4⟩
            all_goals
              go_enter Tryd.func29, Tryd.ntmps29
              go_wp2_with fail
              refine (span_any 41 #[] enters41 digitI s 0 _ (by unfold maxLen; omega) (Nat.zero_le _) (fun n W _ => digit_any n W)).mono ?_
              rintro e w' ⟨rfl, rfl⟩
              rw [HN.out]
              go_wp2_with fail
              refine hat.mono ?_
              rintro e w1 ⟨rfl, hb⟩
              have HB := Aside0.mk hb
              clear hb
              go_wp2_with fail
              go_ret2
              exact ⟨by rw [HP.out]; rfl, HB.out⟩
        · have hat := atoi_bad s w HE.out hs (by rw [HA.out]; intro v h; cases h)
          have HP := Aside0.mk (show numF s most = (0, 2) by rw [HF.out])
          clear HF
          rcases hor with h3 | ⟨h3, h4⟩
          all_goals
            go_enter Tryd.func29, Tryd.ntmps29
            go_wp2_with fail
            refine (span_any 41 #[] enters41 digitI s 0 _ (by unfold maxLen; omega) (Nat.zero_le _) (fun n W _ => digit_any n W)).mono ?_
            rintro e w' ⟨rfl, rfl⟩
            rw [HN.out]
            go_wp2_with fail
            refine hat.mono ?_
            rintro e w1 ⟨v, N, rfl, hb⟩
            have HB := Aside0.mk hb
            clear hb
            go_wp2_with fail
            go_ret2
            exact ⟨by rw [HP.out]; rfl, HB.out⟩
        · have hat := atoi_bad s w HE.out hs (by rw [HA.out]; intro v h; cases h)
          have HP := Aside0.mk (show numF s most = (0, 2) by rw [HF.out])
          clear HF
          rcases hor with h3 | ⟨h3, h4⟩
          all_goals
            go_enter Tryd.func29, Tryd.ntmps29
            go_wp2_with fail
            refine (span_any 41 #[] enters41 digitI s 0 _ (by unfold maxLen; omega) (Nat.zero_le _) (fun n W _ => digit_any n W)).mono ?_
            rintro e w' ⟨rfl, rfl⟩
            rw [HN.out]
            go_wp2_with fail
            refine hat.mono ?_
            rintro e w1 ⟨v, N, rfl, hb⟩
            have HB := Aside0.mk hb
            clear hb
            go_wp2_with fail
            go_ret2
            exact ⟨by rw [HP.out]; rfl, HB.out⟩

end Go.Proofs.YtdlfdggmdenalaaDoor
