/-
  Salvage beside a damaged line: the plain law. For every list of items whose damaged one's text doesn't hold the word article.
-/
import Derived.Test.YtceopllngemnnaaGreatDoorF1
import Derived.Test.YtceopllngemnnaaGreatDoorH4
set_option linter.unusedVariables false
set_option linter.unusedSimpArgs false
namespace Go.Proofs.YtceopllngemnnaaGreatDoor
open Go.RowKit Go.Proofs.YtceopllngemnnaaGreatDoorW.PrintWords

def artN : List UInt8 := [97, 114, 116, 105, 99, 108, 101]
def bat0 : List UInt8 := [98, 97, 116, 99, 104, 32, 48, 10]
theorem artW_art (r : List UInt8) : artN <:+: artW ++ r := ⟨[], 32 :: r, rfl⟩
theorem art_snoc {a : List UInt8} (h : artN <:+: a ++ [10]) : artN <:+: a := by
  obtain ⟨p, q, h⟩ := h
  rcases List.eq_nil_or_concat q with rfl | ⟨q', c, rfl⟩
  · rw [List.append_nil] at h
    have h' : (p ++ [97, 114, 116, 105, 99, 108]) ++ [101] = a ++ [10] := by rw [← h]; simp [artN]
    obtain ⟨_, h2⟩ := List.append_inj' h' rfl
    exact absurd h2 (by decide)
  · rw [List.concat_eq_append, ← List.append_assoc] at h
    obtain ⟨h1, _⟩ := List.append_inj' h rfl
    exact ⟨p, q', h1⟩

theorem headF_art {ln : ByteArray} {id : List Int} {n : Nat} {c : ByteArray} (h : headF ln = some (id, n, c)) : ∃ w, ln.data.toList = artW ++ w := ⟨_, (headF_inv h).2.2⟩
theorem salv_pre (s : ByteArray) : ∀ (f k : Nat) (acc : List It), ∃ r, salvG s f k acc = acc ++ r
  | 0, k, acc => ⟨[], by rw [salvG, List.append_nil]⟩
  | f + 1, k, acc => by
    cases hr : readF s k with
    | inl q =>
      obtain ⟨x, nx⟩ := q
      obtain ⟨r, h⟩ := salv_pre s f nx (acc ++ [x])
      exact ⟨x :: r, by rw [salv_ok hr, h, List.append_assoc]; rfl⟩
    | inr q =>
      obtain ⟨b, e⟩ := q
      cases hj : nl s k with
      | none => exact ⟨[], by rw [salv_end hr hj, List.append_nil]⟩
      | some j =>
        obtain ⟨r, h⟩ := salv_pre s f (j + 1) acc
        exact ⟨r, by rw [salv_skip hr hj, h]⟩
theorem salv_fin (s : ByteArray) (f k : Nat) (acc : List It) (h : s.data.toList.drop k = []) : salvG s f k acc = acc := by
  cases f with
  | zero => rw [salvG]
  | succ f =>
    have hj : nl s k = none := nl_of_none s k (by rw [h]; simp)
    exact salv_end (readF_nl hj) hj
/-- Lines that are none of items. -/
theorem salv_text (s : ByteArray) : ∀ (n : Nat) (u : List UInt8) (k f : Nat) (acc : List It) (rest : List UInt8), u.length ≤ n → s.data.toList.drop k = u ++ rest → (u = [] ∨ ∃ u', u = u' ++ [10]) → ¬ artN <:+: u → k ≤ s.size → s.size < k + f →
    ∃ f', k + u.length ≤ s.size ∧ s.size < k + u.length + f' ∧ salvG s f k acc = salvG s f' (k + u.length) acc := by
  intro n
  induction n with
  | zero =>
    intro u k f acc rest h1 h2 h3 h4 h5 h6
    obtain rfl : u = [] := List.eq_nil_of_length_eq_zero (by omega)
    exact ⟨f, h5, h6, rfl⟩
  | succ n ih =>
    intro u k f acc rest h1 h2 h3 h4 h5 h6
    rcases h3 with rfl | ⟨u', h3⟩
    · exact ⟨f, h5, h6, rfl⟩
    · rcases find_sep 10 u with h | ⟨a, r, h, ha⟩
      · exact absurd (by rw [h3]; simp) h
      · have h7 : s.data.toList.drop k = a ++ 10 :: (r ++ rest) := by rw [h2, h]; simp
        have hj := nl_of s k a (r ++ rest) h7 ha
        have hln := nl_line s k a (r ++ rest) h7
        have hle := nl_le s k _ hj
        have hh : headF (s.extract k (k + a.length)) = none := by
          cases hc : headF (s.extract k (k + a.length)) with
          | none => rfl
          | some q =>
            exfalso
            obtain ⟨id, m, c⟩ := q
            obtain ⟨w, hw⟩ := headF_art hc
            rw [hln] at hw
            apply h4
            rw [h, hw, List.append_assoc]
            exact artW_art _
        obtain ⟨f, rfl⟩ : ∃ m, f = m + 1 := ⟨f - 1, by omega⟩
        have hr : r = [] ∨ ∃ r', r = r' ++ [10] := by
          rcases List.eq_nil_or_concat r with rfl | ⟨r', c, rfl⟩
          · exact .inl rfl
          · refine .inr ⟨r', ?_⟩
            have e : (a ++ 10 :: r') ++ [c] = u' ++ [10] := by rw [← h3, h]; simp
            rw [List.concat_eq_append]
            obtain ⟨_, e2⟩ := List.append_inj' e rfl
            rw [e2]
        have h8 : s.data.toList.drop (k + a.length + 1) = r ++ rest := by
          have := drop_more (s := s) (k := k) (a := a ++ [10]) (r := r ++ rest) (by rw [h7]; simp)
          rw [List.length_append] at this
          exact this
        have hul : u.length = a.length + 1 + r.length := by rw [h]; simp; omega
        obtain ⟨f', g0, g1, g2⟩ := ih r (k + a.length + 1) f acc rest (by omega) h8 hr (fun hi => h4 (by rw [h]; exact hi.trans ⟨a ++ [10], [], by simp⟩)) (by omega) (by omega)
        refine ⟨f', by omega, by omega, ?_⟩
        rw [salv_skip (readF_hd hj hh) hj, g2, hul]
        congr 1; omega
/-- Items. -/
theorem salv_cat (s : ByteArray) : ∀ (l : List It) (k f : Nat) (acc : List It) (rest : List UInt8), (∀ x ∈ l, okIt x) → s.data.toList.drop k = FM.cat (l.map toT) ++ rest → k ≤ s.size → s.size < k + f →
    ∃ f', k + (FM.cat (l.map toT)).length ≤ s.size ∧ s.size < k + (FM.cat (l.map toT)).length + f' ∧ salvG s f k acc = salvG s f' (k + (FM.cat (l.map toT)).length) (acc ++ l)
  | [], k, f, acc, rest, _, _, h3, h4 => ⟨f, h3, h4, by rw [List.append_nil]; rfl⟩
  | x :: l, k, f, acc, rest, h1, h2, h3, h4 => by
    rw [List.map_cons, Fmt.cat_cons, List.append_assoc] at h2
    have hr := readF_item s k x _ h2 (h1 x List.mem_cons_self)
    obtain ⟨hx1, hx2, _⟩ := readV_le hr
    obtain ⟨f, rfl⟩ : ∃ m, f = m + 1 := ⟨f - 1, by omega⟩
    obtain ⟨f', g0, g1, g2⟩ := salv_cat s l (k + (FM.item (toT x)).length) f (acc ++ [x]) rest (fun y hy => h1 y (List.mem_cons_of_mem _ hy)) (drop_more h2) hx1 (by omega)
    rw [List.map_cons, Fmt.cat_cons, List.length_append]
    refine ⟨f', by omega, by omega, ?_⟩
    rw [salv_ok hr, g2, List.append_assoc]
    congr 1; omega

/-- One line damaged. -/
theorem damage_law (s : ByteArray) (l1 l2 : List It) (x : It) (k : Nat) (c : UInt8) (h1 : ∀ y ∈ l1, okIt y) (h2 : ∀ y ∈ l2, okIt y) (hx : okIt x) (hk : k < 100) (hc : (itS x).data.toList[k]? ≠ some c) (hc10 : c ≠ 10) (hn : ¬ artN <:+: x.2.data.toList)
    (hs : s.data.toList = bat0 ++ (FM.cat (l1.map toT) ++ ((itS x).data.toList.set k c ++ FM.cat (l2.map toT)))) :
    salvF s = l1 ++ l2 ∨ ∃ y ∈ salvF s, y ≠ x ∧ digS x = digS y := by
  unfold salvF
  obtain ⟨f1, g0, g1, e1⟩ := salv_text s 8 bat0 0 (s.size + 1) [] (FM.cat (l1.map toT) ++ ((itS x).data.toList.set k c ++ FM.cat (l2.map toT))) (by decide) (by rw [List.drop_zero, hs]) (.inr ⟨[98, 97, 116, 99, 104, 32, 48], rfl⟩) (by
    rintro ⟨p, q, h⟩
    have hl := congrArg List.length h
    rw [List.length_append, List.length_append] at hl
    have hl' : p.length + 7 + q.length = 8 := hl
    rcases Nat.eq_zero_or_pos p.length with h0 | h0
    · obtain rfl := List.eq_nil_of_length_eq_zero h0
      have h1 := congrArg List.head? h
      revert h1
      simp [artN, bat0]
    · have hp1 : p.length = 1 := by omega
      have hq1 : q.length = 0 := by omega
      obtain ⟨b, rfl⟩ : ∃ b, p = [b] := List.length_eq_one_iff.mp hp1
      obtain rfl : q = [] := List.eq_nil_of_length_eq_zero hq1
      simp [artN, bat0] at h) (Nat.zero_le _) (by omega)
  rw [e1, Nat.zero_add]
  rw [Nat.zero_add] at g0 g1
  have d1 : s.data.toList.drop bat0.length = FM.cat (l1.map toT) ++ ((itS x).data.toList.set k c ++ FM.cat (l2.map toT)) := by
    have := drop_more (s := s) (k := 0) (a := bat0) (by rw [List.drop_zero]; exact hs)
    rwa [Nat.zero_add] at this
  obtain ⟨f2, g2, g3, e2⟩ := salv_cat s l1 bat0.length f1 [] _ h1 d1 g0 g1
  rw [e2, List.nil_append]
  have d2 := drop_more d1
  obtain ⟨k2, hk2⟩ : ∃ k2, bat0.length + (FM.cat (l1.map toT)).length = k2 := ⟨_, rfl⟩
  rw [hk2] at d2 g2 g3 ⊢
  clear d1 e1 e2 g0 g1 hk2
  have hll := Fmt.line_len (F := FM) (x := toT x) hx.1
  have hdl := dec_len x.2.size
  obtain ⟨ln, hln⟩ : ∃ ln, (FM.line (toT x)).set k c = ln := ⟨_, rfl⟩
  have hd : (itS x).data.toList.set k c = ln ++ 10 :: (x.2.data.toList ++ [10]) := by
    rw [itS_data]
    show (FM.line (toT x) ++ 10 :: (x.2.data.toList ++ [10])).set k c = _
    rw [List.set_append_left _ _ (by omega), hln]
  have hget : (itS x).data.toList[k]? = (FM.line (toT x))[k]? := by
    rw [itS_data]
    show (FM.line (toT x) ++ _)[k]? = _
    rw [List.getElem?_append_left (by omega)]
  have hkl : k < (FM.line (toT x)).length := by omega
  have hnear : Fmt.Near (FM.line (toT x)) ln := by
    rw [← hln]
    refine near_set _ k hkl c (fun e => hc ?_)
    rw [hget, List.getElem?_eq_getElem hkl, e]
  have hl10 : 10 ∉ ln := by
    rw [← hln]
    intro h
    rcases List.mem_or_eq_of_mem_set h with h | h
    · exact Fmt.line_sep (F := FM) (x := toT x) hx.1 h
    · exact hc10 h.symm
  rw [hd] at d2
  have d3 : s.data.toList.drop k2 = ln ++ 10 :: (x.2.data.toList ++ [10] ++ FM.cat (l2.map toT)) := by rw [d2]; simp
  have hj := nl_of s k2 ln _ d3 hl10
  have hle := nl_le s k2 _ hj
  obtain ⟨f2, rfl⟩ : ∃ m, f2 = m + 1 := ⟨f2 - 1, by omega⟩
  cases hr : readF s k2 with
  | inl q =>
    right
    obtain ⟨y, nx⟩ := q
    obtain ⟨hy, rest, h5, _⟩ := readF_inv hr
    have h6 : FM.line (toT y) ++ 10 :: (y.2.data.toList ++ [10] ++ rest) = ln ++ 10 :: (x.2.data.toList ++ [10] ++ FM.cat (l2.map toT)) := by
      rw [← d3, h5]
      show _ = (FM.line (toT y) ++ 10 :: (y.2.data.toList ++ [10])) ++ rest
      simp
    obtain ⟨h7, h8⟩ := split_at h6 (Fmt.line_sep (F := FM) (x := toT y) hy.1) hl10
    rw [← h7] at hnear
    obtain ⟨r, hpre⟩ := salv_pre s f2 nx (l1 ++ [y])
    refine ⟨y, by rw [salv_ok hr, hpre]; simp, ?_⟩
    have hyx : y ≠ x := by rintro rfl; exact hnear.ne rfl
    refine ⟨hyx, ?_⟩
    rcases Fmt.line_near (F := FM) (x := toT x) (o := toT y) hx.1 hy.1 hnear with h | ⟨h9, h10⟩
    · have : (digS (x.1, mkB x.2.data.toList)).data.toList = (digS (y.1, mkB y.2.data.toList)).data.toList := h
      rw [mkB_data', mkB_data'] at this
      exact data_inj this
    · exfalso
      have h9' : x.2.data.toList.length = y.2.data.toList.length := h9
      rw [List.append_assoc, List.append_assoc] at h8
      obtain ⟨h11, _⟩ := List.append_inj h8 h9'.symm
      exact hyx (toT_inj (Prod.ext h10.symm h11))
  | inr q =>
    left
    obtain ⟨b, e⟩ := q
    rw [salv_skip hr hj]
    have d4 : s.data.toList.drop (k2 + ln.length + 1) = (x.2.data.toList ++ [10]) ++ FM.cat (l2.map toT) := by
      have := drop_more (s := s) (k := k2) (a := ln ++ [10]) (r := (x.2.data.toList ++ [10]) ++ FM.cat (l2.map toT)) (by rw [d3]; simp)
      rw [List.length_append] at this
      exact this
    obtain ⟨f3, g5, g6, e3⟩ := salv_text s _ _ (k2 + ln.length + 1) f2 l1 _ (Nat.le_refl _) d4 (.inr ⟨_, rfl⟩) (fun h => hn (art_snoc h)) (by omega) (by omega)
    rw [e3]
    have d5 := drop_more d4
    obtain ⟨f4, g7, g8, e4⟩ := salv_cat s l2 _ f3 l1 [] h2 (by rw [List.append_nil]; exact d5) g5 g6
    rw [e4]
    refine salv_fin s f4 _ _ ?_
    rw [drop_more (r := []) (by rw [List.append_nil]; exact d5)]
end Go.Proofs.YtceopllngemnnaaGreatDoor

