/-
  The words of a list of bytes: plain lemmas. For every list, every string.
-/
import Derived.Test.YtdlfdggmdenalaaDoorKD
import Derived.Lib.Strings
import Derived.Lib.Join
namespace Go.Proofs.YtdlfdggmdenalaaDoor
open Go.RowKit Go.Proofs.YtdlfdggmdenalaaDoorW.PrintWords Go.Proofs.YtdlfdggmdenalaaDoorW.PrintMore

def bl (c : UInt8) : Bool := blankI (c.toNat : Int)
def mkB (l : List UInt8) : ByteArray := ⟨l.toArray⟩
theorem mkB_data (s : ByteArray) : mkB s.data.toList = s := Lib.mk_data s
theorem data_mkB (l : List UInt8) : (mkB l).data.toList = l := rfl
theorem mkB_size (l : List UInt8) : (mkB l).size = l.length := by simp [mkB, ByteArray.size]

/-- The words, gone through from the left; acc: the word that has begun. -/
def wgo : List UInt8 → List UInt8 → List (List UInt8)
  | acc, [] => if acc = [] then [] else [acc]
  | acc, c :: r => if bl c then (if acc = [] then wgo [] r else acc :: wgo [] r) else wgo (acc ++ [c]) r

theorem wgo_blank (c : UInt8) (r : List UInt8) (h : bl c = true) : wgo [] (c :: r) = wgo [] r := by simp [wgo, h]
theorem wgo_end (acc : List UInt8) (c : UInt8) (r : List UInt8) (h : bl c = true) (ha : acc ≠ []) : wgo acc (c :: r) = acc :: wgo [] r := by simp [wgo, h, ha]
theorem wgo_on (acc : List UInt8) (c : UInt8) (r : List UInt8) (h : bl c = false) : wgo acc (c :: r) = wgo (acc ++ [c]) r := by simp [wgo, h]

theorem wgo_word : ∀ (x acc r : List UInt8), (∀ c ∈ x, bl c = false) → wgo acc (x ++ r) = wgo (acc ++ x) r
  | [], acc, r, _ => by simp
  | c :: x, acc, r, h => by
    rw [List.cons_append, wgo_on acc c (x ++ r) (h c List.mem_cons_self), wgo_word x (acc ++ [c]) r (fun d hd => h d (List.mem_cons_of_mem _ hd))]
    simp

/-- Each word is not empty and bears no blank. -/
theorem wgo_good : ∀ (l acc : List UInt8), (∀ c ∈ acc, bl c = false) → ∀ x ∈ wgo acc l, x ≠ [] ∧ ∀ c ∈ x, bl c = false
  | [], acc, h, x, hx => by
    unfold wgo at hx
    split at hx
    · simp at hx
    · rename_i hne
      simp at hx; subst hx; exact ⟨hne, h⟩
  | c :: r, acc, h, x, hx => by
    cases hb : bl c
    · rw [wgo_on acc c r hb] at hx
      exact wgo_good r (acc ++ [c]) (fun d hd => by
        rcases List.mem_append.mp hd with hd | hd
        · exact h d hd
        · simp at hd; subst hd; exact hb) x hx
    · by_cases ha : acc = []
      · subst ha
        rw [wgo_blank c r hb] at hx
        exact wgo_good r [] (fun d hd => by simp at hd) x hx
      · rw [wgo_end acc c r hb ha] at hx
        rcases List.mem_cons.mp hx with rfl | hx
        · exact ⟨ha, h⟩
        · exact wgo_good r [] (fun d hd => by simp at hd) x hx

theorem wgo_join : ∀ (ws : List (List UInt8)), (∀ x ∈ ws, x ≠ [] ∧ ∀ c ∈ x, bl c = false) → wgo [] (Lib.join ws [32]) = ws
  | [], _ => by simp [Lib.join_nil, wgo]
  | x :: r, h => by
    have hx := h x List.mem_cons_self
    rw [Lib.join_cons, wgo_word x [] _ hx.2, List.nil_append]
    have tail : ∀ (r : List (List UInt8)) (x : List UInt8), x ≠ [] → (∀ y ∈ r, y ≠ [] ∧ ∀ c ∈ y, bl c = false) → wgo x (Lib.joinTail [32] r) = x :: r := by
      intro r
      induction r with
      | nil => intro x hx _; simp [Lib.joinTail, wgo, hx]
      | cons y r ih =>
        intro x hx hr
        have hy := hr y List.mem_cons_self
        have e : Lib.joinTail [32] (y :: r) = 32 :: (y ++ Lib.joinTail [32] r) := by simp [Lib.joinTail]
        rw [e, wgo_end x 32 _ (by rfl) hx, wgo_word y [] _ hy.2, List.nil_append, ih y hy.1 (fun z hz => hr z (List.mem_cons_of_mem _ hz))]
    exact tail r x hx.1 (fun y hy => h y (List.mem_cons_of_mem _ hy))

/-- A span of blanks is passed over. -/
theorem wgo_span (s : ByteArray) (k : Nat) (hk : k ≤ s.size) : wgo [] (s.data.toList.drop k) = wgo [] (s.data.toList.drop (spanN blankI s k)) := by
  fun_induction spanN blankI s k with
  | case1 k h hp ih =>
    have hd : s.data.toList.drop k = s[k] :: s.data.toList.drop (k + 1) := by rw [List.drop_eq_getElem_cons (by rw [data_length]; exact h)]; rfl
    rw [hd, wgo_blank _ _ hp]
    exact ih (by omega)
  | case2 k h hp => rfl
  | case3 k h => rfl

theorem slice_snoc (s : ByteArray) (a k : Nat) (ha : a ≤ k) (h : k < s.size) : (s.data.toList.drop a).take (k + 1 - a) = (s.data.toList.drop a).take (k - a) ++ [s[k]] := by
  have hl : k - a < (s.data.toList.drop a).length := by rw [List.length_drop, data_length]; omega
  have e : k + 1 - a = (k - a) + 1 := by omega
  rw [e, List.take_succ_eq_append_getElem hl]
  congr 2
  rw [List.getElem_drop]
  have : a + (k - a) = k := by omega
  simp only [this]; rfl

/-- A word is taken. -/
theorem wgo_take (s : ByteArray) (a k : Nat) (ha : a ≤ k) (hk : k ≤ s.size) : wgo ((s.data.toList.drop a).take (k - a)) (s.data.toList.drop k) =
    wgo ((s.data.toList.drop a).take (spanN (fun n => !blankI n) s k - a)) (s.data.toList.drop (spanN (fun n => !blankI n) s k)) := by
  fun_induction spanN (fun n => !blankI n) s k with
  | case1 k h hp ih =>
    have hd : s.data.toList.drop k = s[k] :: s.data.toList.drop (k + 1) := by rw [List.drop_eq_getElem_cons (by rw [data_length]; exact h)]; rfl
    rw [hd, wgo_on _ _ _ (by simpa [bl] using hp), ← slice_snoc s a k ha h]
    exact ih (by omega) (by omega)
  | case2 k h hp => rfl
  | case3 k h => rfl

theorem wordsG_wgo (s : ByteArray) : ∀ f k, k ≤ s.size → s.size < k + f → (∀ h : k < s.size, blankI (s[k].toNat : Int) = false) →
    (wordsG s f k).map (·.data.toList) = wgo [] (s.data.toList.drop k) := by
  intro f
  induction f with
  | zero => intro k h1 h2; omega
  | succ f ih =>
    intro k h1 h2 hb
    unfold wordsG
    by_cases hlt : k < s.size
    · rw [if_pos hlt, List.map_cons]
      have hne := spanN_first (fun n => !blankI n) s k hlt (by simpa using hb hlt)
      have hle := (spanN_le (fun n => !blankI n) s k h1).2
      have ht := wgo_take s k k (Nat.le_refl _) h1
      rw [Nat.sub_self, List.take_zero] at ht
      rw [ht]
      obtain ⟨e, he⟩ : ∃ e, spanN (fun n => !blankI n) s k = e := ⟨_, rfl⟩
      have hstop := spanN_stop (fun n => !blankI n) s k
      rw [he] at hne hle ⊢
      have hw : ((s.data.toList.drop k).take (e - k)) ≠ [] := by
        intro h0
        have := congrArg List.length h0
        simp [List.length_take, List.length_drop, data_length] at this
        omega
      have h3 := spanN_le blankI s e hle
      rw [ih (spanN blankI s e) h3.2 (by omega) (fun h => spanN_stop blankI s e h), Lib.extract_data]
      by_cases hes : e < s.size
      · have hbe : blankI (s[e].toNat : Int) = true := by
          have := spanN_stop (fun n => !blankI n) s k (by rw [he]; exact hes)
          simp only [he] at this
          simpa using this
        have hd : s.data.toList.drop e = s[e] :: s.data.toList.drop (e + 1) := by rw [List.drop_eq_getElem_cons (by rw [data_length]; exact hes)]; rfl
        rw [← wgo_span s e hle, hd, wgo_end _ _ _ hbe hw, wgo_blank _ _ hbe]
      · have hd : s.data.toList.drop e = [] := List.drop_eq_nil_of_le (by rw [data_length]; omega)
        rw [← wgo_span s e hle, hd]
        simp [wgo, hw]
    · rw [if_neg hlt]
      have hd : s.data.toList.drop k = [] := List.drop_eq_nil_of_le (by rw [data_length]; omega)
      rw [hd]; simp [wgo]

theorem wordsL_wgo (s : ByteArray) : wordsL s = (wgo [] s.data.toList).map mkB := by
  have h := wordsG_wgo s (s.size + 1) (spanN blankI s 0) (spanN_le blankI s 0 (Nat.zero_le _)).2 (by omega) (fun h => spanN_stop blankI s 0 h)
  rw [← wgo_span s 0 (Nat.zero_le _), List.drop_zero] at h
  rw [← h, List.map_map]
  show wordsL s = List.map _ (wordsL s)
  conv => lhs; rw [← List.map_id (wordsL s)]
  apply List.map_congr_left
  intro x _
  exact (mkB_data x).symm

theorem squeezeS_data (s : ByteArray) : (squeezeS s).data.toList = Lib.join (wgo [] s.data.toList) [32] := by
  show Lib.join ((wordsL s).map (·.data.toList)) [32] = _
  rw [wordsL_wgo, List.map_map]
  congr 1
  conv => rhs; rw [← List.map_id (wgo [] s.data.toList)]
  rfl

theorem words_squeeze (s : ByteArray) : wordsL (squeezeS s) = wordsL s := by
  rw [wordsL_wgo, squeezeS_data, wgo_join _ (wgo_good _ [] (fun c hc => by simp at hc)), ← wordsL_wgo]

theorem squeeze_squeeze (s : ByteArray) : squeezeS (squeezeS s) = squeezeS s := by
  show joinS (wordsL (squeezeS s)) = joinS (wordsL s)
  rw [words_squeeze]

theorem join_head : ∀ (ws : List (List UInt8)), (∀ x ∈ ws, x ≠ [] ∧ ∀ c ∈ x, bl c = false) → ∀ c, (Lib.join ws [32]).head? = some c → bl c = false
  | [], _, c, h => by simp [Lib.join_nil] at h
  | x :: r, hw, c, h => by
    have hx := hw x List.mem_cons_self
    rw [Lib.join_cons] at h
    cases x with
    | nil => exact absurd rfl hx.1
    | cons d x => simp at h; subst h; exact hx.2 d List.mem_cons_self

theorem join_last : ∀ (ws : List (List UInt8)), (∀ x ∈ ws, x ≠ [] ∧ ∀ c ∈ x, bl c = false) → ∀ c, (Lib.join ws [32]).getLast? = some c → bl c = false
  | [], _, c, h => by simp [Lib.join_nil] at h
  | x :: r, hw, c, h => by
    rw [Lib.join_cons] at h
    have tail : ∀ (r : List (List UInt8)) (x : List UInt8), (x ≠ [] ∧ ∀ c ∈ x, bl c = false) → (∀ y ∈ r, y ≠ [] ∧ ∀ c ∈ y, bl c = false) → (x ++ Lib.joinTail [32] r).getLast? = some c → bl c = false := by
      intro r
      induction r with
      | nil =>
        intro x hx _ h
        simp [Lib.joinTail] at h
        exact hx.2 c (List.mem_of_getLast? h)
      | cons y r ih =>
        intro x hx hr h
        have hy := hr y List.mem_cons_self
        have e : Lib.joinTail [32] (y :: r) = 32 :: (y ++ Lib.joinTail [32] r) := by simp [Lib.joinTail]
        have hne : y ++ Lib.joinTail [32] r ≠ [] := by simp [hy.1]
        rw [e, List.getLast?_append, List.getLast?_cons_of_ne_nil hne] at h
        have h2 : (y ++ Lib.joinTail [32] r).getLast? = some c := by
          cases hh : (y ++ Lib.joinTail [32] r).getLast? with
          | none => exact absurd (List.getLast?_eq_none_iff.mp hh) hne
          | some d => rw [hh] at h; simpa using h
        exact ih y hy (fun z hz => hr z (List.mem_cons_of_mem _ hz)) h2
    exact tail r x (hw x List.mem_cons_self) (fun y hy => hw y (List.mem_cons_of_mem _ hy)) h

theorem extract_all (t : ByteArray) : t.extract 0 t.size = t := by
  have h1 : (t.extract 0 t.size).data.toList = t.data.toList := by
    rw [Lib.extract_data, List.drop_zero, Nat.sub_zero, List.take_of_length_le (by rw [data_length]; exact Nat.le_refl _)]
  rw [← mkB_data (t.extract 0 t.size), h1, mkB_data]

theorem trim_squeeze (s : ByteArray) : trimS (squeezeS s) = squeezeS s := by
  obtain ⟨t, ht⟩ : ∃ t, squeezeS s = t := ⟨_, rfl⟩
  have hd := squeezeS_data s
  have hh := join_head _ (wgo_good s.data.toList [] (fun c hc => by simp at hc))
  have hl := join_last _ (wgo_good s.data.toList [] (fun c hc => by simp at hc))
  rw [← hd, ht] at hh hl
  rw [ht]
  by_cases h0 : t.size = 0
  · unfold trimS
    rw [spanN_end blankI t 0 (by omega)]
    rw [extract_all, trimR_nil t h0]
  · have hp : 0 < t.size := by omega
    have h1 : blankI (t[0].toNat : Int) = false := hh t[0] (by
      have : t.data.toList.head? = t.data.toList[0]? := by cases t.data.toList <;> rfl
      rw [this, List.getElem?_eq_getElem (by rw [data_length]; exact hp)]; rfl)
    have h2 : blankI (t[t.size - 1].toNat : Int) = false := hl t[t.size - 1] (by
      rw [List.getLast?_eq_getElem?, data_length, List.getElem?_eq_getElem (by rw [data_length]; omega)]; rfl)
    unfold trimS
    rw [spanN_miss blankI t 0 hp h1]
    rw [extract_all, trimR_miss t hp h2]

end Go.Proofs.YtdlfdggmdenalaaDoor
