/-
  The law AsciiWords: in a world that holds what the library reads, the call returns true and leaves what was there. For every string.
-/
import Derived.Test.YtdlfdggmdenalaaDoorKW
import Derived.Test.YtdlfdggmdenalaaDoorPAsciiWordsx5
namespace Go.Proofs.YtdlfdggmdenalaaDoor
open Go.RowKit Go.Proofs.YtdlfdggmdenalaaDoorW.PrintWords Go.Proofs.YtdlfdggmdenalaaDoorW.PrintMore Go.Proofs.YtdlfdggmdenalaaDoor.PAsciiWords

theorem blank_f (n : Int) : bulletinref01_Blank.f n = some (blankI n) := by
  unfold bulletinref01_Blank.f blankI
  by_cases h : n = 32
  · rw [if_pos h]; simp [h]
  · rw [if_neg h]; simp [h]

theorem same_l0 (l : List ByteArray) (hl : l.length ≤ 4000000) : ∀ d i k, l.length - i = d → i ≤ l.length → d < k → bulletinref01_Same.l0 k l l (i : Int) = some true := by
  intro d
  induction d with
  | zero =>
    intro i k h1 h2 h3
    obtain ⟨k, rfl⟩ : ∃ m, k = m + 1 := ⟨k - 1, by omega⟩
    simp only [bulletinref01_Same.l0]
    rw [if_neg (by omega)]
  | succ d ih =>
    intro i k h1 h2 h3
    obtain ⟨k, rfl⟩ : ∃ m, k = m + 1 := ⟨k - 1, by omega⟩
    simp only [bulletinref01_Same.l0]
    rw [if_pos (by omega), if_pos (by omega), if_pos (by omega), if_pos trivial, wrap_succ i (by omega)]
    exact ih (i + 1) k (by omega) (by omega) (by omega)

theorem same_f (l : List ByteArray) (hl : l.length ≤ 4000000) : bulletinref01_Same.f (l.length + 1) l l = some true := by
  unfold bulletinref01_Same.f
  rw [if_pos rfl]
  exact same_l0 l hl l.length 0 _ rfl (Nat.zero_le _) (Nat.lt_succ_self _)

theorem bt_elem (s : ByteArray) (i : Nat) (h : i < s.size) : bt s (i : Int) = (s[i].toNat : Int) := (bt_at s (i : Int) h).symm

/-- The reference's loop over a string, at offset i; a: where the word that has begun begins, if one has. -/
theorem rwords_l0 (s : ByteArray) (hs : s.size ≤ 300) : ∀ d i k (acc : List ByteArray) (a : Int), s.size - i = d → i ≤ s.size → 2 * d + 3 < k → acc.length ≤ i →
    (a = -1 ∨ ∃ n : Nat, a = n ∧ n < i) →
    bulletinref01_Words.l0 k s acc a (i : Int) = some (acc ++ (wgo (if a = -1 then [] else (s.data.toList.drop a.toNat).take (i - a.toNat)) (s.data.toList.drop i)).map mkB) := by
  intro d
  induction d with
  | zero =>
    intro i k acc a h1 h2 h3 h4 h5
    obtain ⟨k, rfl⟩ : ∃ m, k = m + 3 := ⟨k - 3, by omega⟩
    obtain rfl : i = s.size := by omega
    have hd : s.data.toList.drop s.size = [] := List.drop_eq_nil_of_le (by rw [data_length]; exact Nat.le_refl _)
    simp only [bulletinref01_Words.l0]
    rw [if_pos (by omega), if_neg (by omega)]
    simp only [bulletinref01_Words.j1]
    rw [if_neg (by simp), wrap_succ s.size (by omega), hd]
    rcases h5 with rfl | ⟨n, rfl, hn⟩
    · rw [if_neg (by omega), if_pos rfl]
      simp only [bulletinref01_Words.l0]
      rw [if_neg (by omega)]; simp [wgo]
    · have hne : (s.data.toList.drop n).take (s.size - n) ≠ [] := by
        intro h0
        have := congrArg List.length h0
        simp [List.length_take, List.length_drop, data_length] at this
        omega
      rw [if_pos (by omega), if_pos (by omega), if_pos (by omega), if_pos (by omega), if_pos (by omega), if_neg (by omega)]
      simp only [bulletinref01_Words.l0]
      rw [if_neg (by omega)]
      simp only [Int.toNat_natCast]
      rw [wgo, if_neg hne]
      simp only [List.map_cons, List.map_nil]
      rw [← Lib.extract_data, mkB_data]
  | succ d ih =>
    intro i k acc a h1 h2 h3 h4 h5
    obtain ⟨k, rfl⟩ : ∃ m, k = m + 2 := ⟨k - 2, by omega⟩
    have hlt : i < s.size := by omega
    have hd : s.data.toList.drop i = s[i] :: s.data.toList.drop (i + 1) := by rw [List.drop_eq_getElem_cons (by rw [data_length]; exact hlt)]; rfl
    simp only [bulletinref01_Words.l0]
    rw [if_pos (by omega), if_pos (by omega), if_pos (by omega), blank_f, bt_elem s i hlt]
    simp only [Option.bind_some, bulletinref01_Words.j1]
    rw [wrap_succ i (by omega), hd]
    cases hb : blankI (s[i].toNat : Int)
    · rw [if_pos (by simp)]
      rcases h5 with rfl | ⟨n, rfl, hn⟩
      · rw [if_pos (by omega), ih (i + 1) k acc (i : Int) (by omega) (by omega) (by omega) (by omega) (Or.inr ⟨i, rfl, by omega⟩), if_neg (by omega), if_pos rfl, wgo_on [] _ _ hb]
        simp only [Int.toNat_natCast]
        rw [slice_snoc s i i (Nat.le_refl _) hlt]
        simp
      · rw [if_neg (by omega), ih (i + 1) k acc (n : Int) (by omega) (by omega) (by omega) (by omega) (Or.inr ⟨n, rfl, by omega⟩), if_neg (by omega), if_neg (by omega), wgo_on _ _ _ hb]
        simp only [Int.toNat_natCast]
        rw [slice_snoc s n i (by omega) hlt]
    · rw [if_neg (by simp)]
      rcases h5 with rfl | ⟨n, rfl, hn⟩
      · rw [if_neg (by omega), ih (i + 1) k acc (-1) (by omega) (by omega) (by omega) (by omega) (Or.inl rfl), if_pos rfl, if_pos rfl, wgo_blank _ _ hb]
      · have hne : (s.data.toList.drop n).take (i - n) ≠ [] := by
          intro h0
          have := congrArg List.length h0
          simp [List.length_take, List.length_drop, data_length] at this
          omega
        rw [if_pos (by omega), if_pos (by omega), if_pos (by omega), if_pos (by omega), if_pos (by omega), ih (i + 1) k _ (-1) (by omega) (by omega) (by omega) (by simp; omega) (Or.inl rfl), if_pos rfl, if_neg (by omega)]
        simp only [Int.toNat_natCast]
        rw [wgo_end _ _ _ hb hne, List.map_cons, ← Lib.extract_data, mkB_data]
        simp

theorem rwords_f (s : ByteArray) (hs : s.size ≤ 300) : ∀ k, 2 * s.size + 3 < k → bulletinref01_Words.f k s = some (wordsL s) := by
  intro k hk
  unfold bulletinref01_Words.f
  have := rwords_l0 s hs s.size 0 k [] (-1) rfl (Nat.zero_le _) hk (Nat.zero_le _) (Or.inl rfl)
  rw [if_pos rfl] at this
  rw [wordsL_wgo]
  simpa using this

theorem data_append (a b : ByteArray) : (a ++ b).data.toList = a.data.toList ++ b.data.toList := by
  rw [ByteArray.data_append, Array.toList_append]
theorem mkB_append (a b : List UInt8) : mkB a ++ mkB b = mkB (a ++ b) := by
  rw [← mkB_data (mkB a ++ mkB b), data_append]; rfl


theorem rsq_tail (ws : List ByteArray) (hw : ∀ x ∈ ws, x.size ≤ 300) (hn : ws.length ≤ 4000) : ∀ d i k (acc : ByteArray), ws.length - i = d → i ≤ ws.length → 1 ≤ i → d < k → acc.size ≤ 400 * i →
    bulletinref01_Squeeze.l0 k acc ws (i : Int) = some (acc ++ mkB (Lib.joinTail [32] ((ws.drop i).map (·.data.toList)))) := by
  intro d
  induction d with
  | zero =>
    intro i k acc h1 h2 h3 h4 h5
    obtain ⟨k, rfl⟩ : ∃ m, k = m + 1 := ⟨k - 1, by omega⟩
    simp only [bulletinref01_Squeeze.l0]
    rw [if_neg (by omega)]
    have : ws.drop i = [] := List.drop_eq_nil_of_le (by omega)
    rw [this]
    have e : acc ++ mkB (Lib.joinTail [32] (List.map (·.data.toList) ([] : List ByteArray))) = acc := by
      rw [← mkB_data (acc ++ mkB _), data_append, data_mkB]
      simp [Lib.joinTail, mkB_data]
    rw [e]
  | succ d ih =>
    intro i k acc h1 h2 h3 h4 h5
    obtain ⟨k, rfl⟩ : ∃ m, k = m + 1 := ⟨k - 1, by omega⟩
    have hlt : i < ws.length := by omega
    have hr : rdOf ByteArray.empty ws (i : Int) = ws[i] := by simp [rdOf, List.getD_eq_getElem?_getD, List.getElem?_eq_getElem hlt]
    have hx := hw ws[i] (List.getElem_mem hlt)
    have hsz : (acc ++ (⟨#[32]⟩ : ByteArray)).size = acc.size + 1 := by rw [ByteArray.size_append]; rfl
    simp only [bulletinref01_Squeeze.l0]
    rw [hr, if_pos (by omega), if_pos (by omega), if_pos (by omega), if_pos (by omega), if_pos (by rw [hsz]; omega), wrap_succ i (by omega),
      ih (i + 1) k _ (by omega) (by omega) (by omega) (by omega) (by rw [ByteArray.size_append, hsz]; omega)]
    rw [List.drop_eq_getElem_cons hlt, List.map_cons]
    congr 1
    rw [← mkB_data (acc ++ _ ++ _ ++ mkB _), ← mkB_data (acc ++ mkB _)]
    simp only [data_append, data_mkB]
    simp [Lib.joinTail]

theorem rsqueeze_f (s : ByteArray) (hs : s.size ≤ 300) : ∃ k, bulletinref01_Squeeze.f k s = some (squeezeS s) := by
  have hn : (wordsL s).length ≤ 400 := Nat.le_trans (wordsG_length s _ _) (by omega)
  have hw : ∀ x ∈ wordsL s, x.size ≤ 300 := fun x hx => Nat.le_trans (wordsG_short s _ _ x hx) hs
  refine ⟨2 * s.size + 1000, ?_⟩
  unfold bulletinref01_Squeeze.f
  rw [rwords_f s hs _ (by omega)]
  simp only [Option.bind_some]
  show _ = some (joinS (wordsL s))
  obtain ⟨ws, hws⟩ : ∃ ws, wordsL s = ws := ⟨_, rfl⟩
  rw [hws] at hn hw ⊢
  cases ws with
  | nil =>
    obtain ⟨k, hk⟩ : ∃ m, 2 * s.size + 1000 = m + 1 := ⟨2 * s.size + 999, by omega⟩
    rw [hk]
    simp only [bulletinref01_Squeeze.l0]
    rw [if_neg (by simp)]
    rfl
  | cons x r =>
    obtain ⟨k, hk⟩ : ∃ m, 2 * s.size + 1000 = m + 1 := ⟨2 * s.size + 999, by omega⟩
    rw [hk]
    have hx := hw x List.mem_cons_self
    have hr : rdOf ByteArray.empty (x :: r) 0 = x := rfl
    simp only [bulletinref01_Squeeze.l0]
    rw [hr, if_pos (by simp), if_neg (by omega), if_pos (by omega), if_pos (by show 0 + x.size ≤ _; omega)]
    have e0 : wrap64 (0 + 1) = ((1 : Nat) : Int) := wrap_succ 0 (by omega)
    rw [e0, rsq_tail (x :: r) hw (by omega) _ 1 k _ rfl (by simp) (Nat.le_refl _) (by simp at hn ⊢; omega) (by rw [ByteArray.size_append]; show 0 + x.size ≤ 400; omega)]
    congr 1
    rw [← mkB_data (_ ++ mkB _)]
    simp only [data_append, data_mkB]
    show mkB _ = mkB _
    congr 1
    simp only [List.map_cons]
    rw [Lib.join_cons]
    rfl

theorem extract_last (s : ByteArray) (n m : Nat) (h : n < m) (hm : m ≤ s.size) (hq : (s.extract n m).size - 1 < (s.extract n m).size) (hp : m - 1 < s.size) : (s.extract n m)[(s.extract n m).size - 1]'hq = s[m - 1]'hp := by
  have h1 : (s.extract n m).data.toList[(s.extract n m).size - 1]? = s.data.toList[m - 1]? := by
    rw [Lib.extract_data]
    have e : (s.extract n m).size = m - n := by simp; omega
    rw [e, List.getElem?_take_of_lt (by omega), List.getElem?_drop]
    congr 1; omega
  rw [List.getElem?_eq_getElem (by rw [data_length]; exact hq), List.getElem?_eq_getElem (by rw [data_length]; exact hp)] at h1
  exact Option.some.inj h1

theorem extract_extract (s : ByteArray) (n m j : Nat) (hm : m ≤ s.size) (hj : j ≤ m - n) : (s.extract n m).extract 0 j = s.extract n (n + j) := by
  rw [← mkB_data ((s.extract n m).extract 0 j), ← mkB_data (s.extract n (n + j))]
  congr 1
  rw [Lib.extract_data, Lib.extract_data, Lib.extract_data, List.drop_zero, Nat.sub_zero, Nat.add_sub_cancel_left, List.take_take, Nat.min_eq_left hj]

theorem rtrim_l1 (s : ByteArray) (hs : s.size ≤ 300) (n : Nat) : ∀ d m k, m - n = d → n ≤ m → m ≤ s.size → d < k → bulletinref01_Trim.l1 k s (n : Int) (m : Int) = some (trimR (s.extract n m)) := by
  intro d
  induction d with
  | zero =>
    intro m k h1 h2 h3 h4
    obtain ⟨k, rfl⟩ : ∃ j, k = j + 1 := ⟨k - 1, by omega⟩
    simp only [bulletinref01_Trim.l1]
    rw [if_neg (by omega), if_pos (by omega), if_pos (by omega), if_pos (by omega)]
    simp only [Int.toNat_natCast]
    rw [trimR_nil _ (by simp; omega)]
  | succ d ih =>
    intro m k h1 h2 h3 h4
    obtain ⟨k, rfl⟩ : ∃ j, k = j + 1 := ⟨k - 1, by omega⟩
    have e : wrap64 ((m : Int) - 1) = ((m - 1 : Nat) : Int) := by unfold wrap64; omega
    have hlt : m - 1 < s.size := by omega
    have hq : 0 < (s.extract n m).size := by simp; omega
    simp only [bulletinref01_Trim.l1]
    rw [if_pos (by omega), e, if_pos (by omega), if_pos (by omega), blank_f, bt_elem s (m - 1) hlt]
    simp only [Option.bind_some]
    have hl := extract_last s n m (by omega) h3 (by omega) hlt
    cases hb : blankI (s[m - 1].toNat : Int)
    · rw [if_neg (by simp), if_pos (by omega), if_pos (by omega), if_pos (by omega), trimR_miss _ hq (by rw [hl]; exact hb)]
      simp only [Int.toNat_natCast]
    · rw [if_pos rfl, ih (m - 1) k (by omega) (by omega) (by omega) (by omega), trimR_hit _ hq (by rw [hl]; exact hb)]
      have es : (s.extract n m).size = m - n := by simp; omega
      have e2 : (s.extract n m).extract 0 ((s.extract n m).size - 1) = s.extract n (m - 1) := by
        rw [es, extract_extract s n m _ h3 (by omega)]
        have e3 : n + (m - n - 1) = m - 1 := by omega
        rw [e3]
      rw [e2]

theorem rtrim_l0 (s : ByteArray) (hs : s.size ≤ 300) : ∀ d i k, s.size - i = d → i ≤ s.size → d + s.size + 3 < k → bulletinref01_Trim.l0 k s (i : Int) (s.size : Int) = some (trimR (s.extract (spanN blankI s i) s.size)) := by
  intro d
  induction d with
  | zero =>
    intro i k h1 h2 h3
    obtain ⟨k, rfl⟩ : ∃ j, k = j + 2 := ⟨k - 2, by omega⟩
    simp only [bulletinref01_Trim.l0]
    rw [if_neg (by omega)]
    simp only [bulletinref01_Trim.j1]
    rw [spanN_end blankI s i (by omega), rtrim_l1 s hs i _ s.size k rfl h2 (Nat.le_refl _) (by omega)]
  | succ d ih =>
    intro i k h1 h2 h3
    obtain ⟨k, rfl⟩ : ∃ j, k = j + 1 := ⟨k - 1, by omega⟩
    have hlt : i < s.size := by omega
    simp only [bulletinref01_Trim.l0]
    rw [if_pos (by omega), if_pos (by omega), if_pos (by omega), blank_f, bt_elem s i hlt]
    simp only [Option.bind_some]
    cases hb : blankI (s[i].toNat : Int)
    · rw [if_neg (by simp)]
      obtain ⟨k, rfl⟩ : ∃ j, k = j + 1 := ⟨k - 1, by omega⟩
      simp only [bulletinref01_Trim.j1]
      rw [spanN_miss blankI s i hlt hb, rtrim_l1 s hs i _ s.size k rfl h2 (Nat.le_refl _) (by omega)]
    · rw [if_pos rfl, wrap_succ i (by omega), ih (i + 1) k (by omega) (by omega) (by omega), ← spanN_hit blankI s i hlt hb]

theorem rtrim_f (s : ByteArray) (hs : s.size ≤ 300) : bulletinref01_Trim.f (2 * s.size + 4) s = some (trimS s) :=
  rtrim_l0 s hs s.size 0 _ rfl (Nat.zero_le _) (by omega)


theorem refSame_any (l : List ByteArray) (A0 : Option Addr) (c0 : Nat) (A1 : Option Addr) (c1 : Nat) (w : World) (hl : l.length ≤ 4000) (h0 : Kd.C Kd.string w A0 l.length l) (hc0 : l.length ≤ c0) (h1 : Kd.C Kd.string w A1 l.length l) (hc1 : l.length ≤ c1) :
    Calls Tryd.prog 23 #[.slice A0 l.length c0, .slice A1 l.length c1] w fun e w' => e = .returned (.bool true) ∧ Drawn0 w w' :=
  bulletinref01_Same.calls (l.length + 1) A0 c0 l A1 c1 l true w h0 hc0 h1 hc1 (same_f l (by omega))

theorem refWords_any (s : ByteArray) (w : World) (hs : s.size ≤ 300) :
    Calls Tryd.prog 24 #[.string s] w fun e w' => ∃ v, e = .returned v ∧ Kd.R Kd.string 9 w' w.heap.size (fun _ => True) v (wordsL s) ∧ Below w.heap.size w w' :=
  bulletinref01_Words.calls (2 * s.size + 4) s _ w (rwords_f s hs _ (by omega))

theorem refSqueeze_any (s : ByteArray) (w : World) (hs : s.size ≤ 300) :
    Calls Tryd.prog 25 #[.string s] w fun e w' => e = .returned (.string (squeezeS s)) ∧ Below w.heap.size w w' := by
  obtain ⟨k, hk⟩ := rsqueeze_f s hs
  exact bulletinref01_Squeeze.calls k s _ w hk

theorem refTrim_any (s : ByteArray) (w : World) (hs : s.size ≤ 300) :
    Calls Tryd.prog 27 #[.string s] w fun e w' => e = .returned (.string (trimS s)) ∧ Drawn0 w w' :=
  bulletinref01_Trim.calls _ s _ w (rtrim_f s hs)

theorem wordsTo_any (s : ByteArray) (l : List ByteArray) (w : World) (hs : s.size ≤ 1000000) (hl : wordsL s = l) :
    Calls Tryd.prog 21 #[.string s] w fun e w' => ∃ v, e = .returned v ∧ Kd.R Kd.string 9 w' w.heap.size (fun _ => True) v l ∧ Below w.heap.size w w' :=
  hl ▸ words_any s w hs

set_option maxHeartbeats 3200000 in
set_option maxRecDepth 100000 in
theorem asciiWords_walk (a0 : ByteArray) (w0 : a0.size ≤ 140737488351232) (w : World) (he : Env w) :
    Calls Tryd.prog 6 #[.string a0] w fun e w' => e = .returned (.bool true) ∧ Below w.heap.size w w' := by
  have HE := Aside0.mk he
  clear he
  obtain ⟨s, hs⟩ : ∃ s, cutS a0 = s := ⟨_, rfl⟩
  have ss : s.size ≤ 300 := hs ▸ cutS_size a0
  have HS := Aside0.mk hs
  clear hs
  obtain ⟨l, hl⟩ : ∃ l, wordsL s = l := ⟨_, rfl⟩
  obtain ⟨t, ht⟩ : ∃ t, squeezeS s = t := ⟨_, rfl⟩
  obtain ⟨u, hu⟩ : ∃ u, trimS s = u := ⟨_, rfl⟩
  have hln : l.length ≤ 400 := hl ▸ Nat.le_trans (wordsG_length s _ _) (by omega)
  have hst : t.size ≤ 1000000 := by
    have h1 : t.size = (Lib.join ((wordsL s).map (·.data.toList)) [32]).length := by rw [← ht]; exact mkB_size _
    rw [h1, hl]
    refine Nat.le_trans (join_bound 300 _ ?_) ?_
    · intro x hx
      obtain ⟨y, hy, rfl⟩ := List.mem_map.mp hx
      have := wordsG_short s _ _ y (by rw [← hl] at hy; exact hy)
      rw [data_length]; omega
    · rw [List.length_map]
      exact Nat.le_trans (Nat.mul_le_mul_right _ hln) (by omega)
  have HT := Aside0.mk ht
  have HLl := Aside0.mk hl
  have HU := Aside0.mk hu
  have HW2 := Aside0.mk (show wordsL t = l by rw [← ht, words_squeeze, hl])
  have HQ2 := Aside0.mk (show squeezeS t = t by rw [← ht, squeeze_squeeze])
  have HT2 := Aside0.mk (show trimS t = t by rw [← ht, trim_squeeze])
  clear ht hl hu
  go_enter Tryd.func6, Tryd.ntmps6
  go_wp2_with fail
  refine (cut_any a0 _ w0).mono ?_
  rintro e w' ⟨rfl, rfl⟩
  rw [HS.out]
  go_wp2_with fail
  refine (wordsTo_any s l _ (by omega) HLl.out).mono ?_
  rintro e w1 ⟨v, rfl, HR, hb1⟩
  obtain ⟨A0, c0, rfl, hc0, hC0⟩ := Kd.R_reads HR
  have HB1 := Aside0.mk hb1
  have HC1 := Aside0.mk hC0
  clear hb1 HR hC0
  go_wp2_with fail
  refine (squeeze_any s _ (by omega)).mono ?_
  rintro e w2 ⟨rfl, hb2⟩
  rw [HT.out]
  have HC2 := Aside0.mk (Kd.C_below HC1.out hb2)
  have HB2 := Aside0.mk (HB1.out.trans (hb2.mono HB1.out.size))
  clear hb2 HB1 HC1
  go_wp2_with fail
  refine (refWords_any s _ ss).mono ?_
  rintro e w3 ⟨v, rfl, HR, hb3⟩
  rw [HLl.out] at HR
  obtain ⟨A1, c1, rfl, hc1, hC1⟩ := Kd.R_reads HR
  have HC3 := Aside0.mk (Kd.C_below HC2.out hb3)
  have HD3 := Aside0.mk hC1
  have HB3 := Aside0.mk (HB2.out.trans (hb3.mono HB2.out.size))
  clear hb3 HB2 HC2 HR hC1
  go_wp2_with fail
  refine (refSame_any l A0 c0 A1 c1 _ (by omega) HC3.out hc0 HD3.out hc1).mono ?_
  rintro e w4 ⟨rfl, ⟨n4, rfl⟩⟩
  have HB4 := Aside0.mk (pw_below_drewN HB3.out n4)
  have HC4 := Aside0.mk (Kd.C_drewN HC3.out n4)
  clear HB3 HC3 HD3
  go_wp2_with fail
  refine (refSqueeze_any s _ ss).mono ?_
  rintro e w5 ⟨rfl, hb5⟩
  rw [HT.out]
  have HC5 := Aside0.mk (Kd.C_below HC4.out hb5)
  have HB5 := Aside0.mk (HB4.out.trans (hb5.mono HB4.out.size))
  clear hb5 HB4 HC4
  go_wp2_with fail
  refine (trim_any s _ (by omega)).mono ?_
  rintro e w' ⟨rfl, rfl⟩
  rw [HU.out]
  go_wp2_with fail
  refine (refTrim_any s _ ss).mono ?_
  rintro e w6 ⟨rfl, ⟨n6, rfl⟩⟩
  rw [HU.out]
  have HB6 := Aside0.mk (pw_below_drewN HB5.out n6)
  have HC6 := Aside0.mk (Kd.C_drewN HC5.out n6)
  clear HB5 HC5
  go_wp2_with fail
  refine (known_any _ (HE.out.below HB6.out)).mono ?_
  rintro e w7 ⟨rfl, hb7⟩
  have HC7 := Aside0.mk (Kd.C_below HC6.out hb7)
  have HB7 := Aside0.mk (HB6.out.trans (hb7.mono HB6.out.size))
  clear hb7 HB6 HC6
  go_wp2_with fail
  refine (wordsTo_any t l _ (by omega) HW2.out).mono ?_
  rintro e w8 ⟨v, rfl, HR, hb8⟩
  obtain ⟨A2, c2, rfl, hc2, hC2⟩ := Kd.R_reads HR
  have HC8 := Aside0.mk (Kd.C_below HC7.out hb8)
  have HD8 := Aside0.mk hC2
  have HB8 := Aside0.mk (HB7.out.trans (hb8.mono HB7.out.size))
  clear hb8 HB7 HC7 HR hC2
  go_wp2_with fail
  refine (refSame_any l A2 c2 A0 c0 _ (by omega) HD8.out hc2 HC8.out hc0).mono ?_
  rintro e w9 ⟨rfl, ⟨n9, rfl⟩⟩
  have HB9 := Aside0.mk (pw_below_drewN HB8.out n9)
  clear HB8 HC8 HD8
  go_wp2_with fail
  refine (squeeze_any t _ (by omega)).mono ?_
  rintro e w10 ⟨rfl, hb10⟩
  rw [HQ2.out]
  have HB10 := Aside0.mk (HB9.out.trans (hb10.mono HB9.out.size))
  clear hb10 HB9
  go_wp2_with fail
  refine (trim_any t _ (by omega)).mono ?_
  rintro e w' ⟨rfl, rfl⟩
  rw [HT2.out]
  go_wp2_with fail
  go_ret
  exact ⟨rfl, HB10.out⟩

end Go.Proofs.YtdlfdggmdenalaaDoor
