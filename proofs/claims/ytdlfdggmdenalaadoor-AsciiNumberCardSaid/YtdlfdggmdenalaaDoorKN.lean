/-
  Decimal numerals: plain lemmas. For every list of bytes, every number.
-/
import Derived.Test.YtdlfdggmdenalaaDoorKW
namespace Go.Proofs.YtdlfdggmdenalaaDoor
open Go.RowKit Go.Proofs.YtdlfdggmdenalaaDoorW.PrintWords Go.Proofs.YtdlfdggmdenalaaDoorW.PrintMore

def dig (c : UInt8) : Bool := digitI (c.toNat : Int)
theorem dig_iff (c : UInt8) : dig c = true ↔ 48 ≤ c.toNat ∧ c.toNat ≤ 57 := by
  unfold dig digitI; simp; omega

/-- The number that digits spell behind acc. -/
def val (acc : Nat) : List UInt8 → Nat
  | [] => acc
  | c :: r => val (acc * 10 + (c.toNat - 48)) r

theorem val_ge : ∀ (l : List UInt8) (acc : Nat), acc ≤ val acc l
  | [], acc => Nat.le_refl _
  | c :: r, acc => by
    unfold val
    have := val_ge r (acc * 10 + (c.toNat - 48))
    omega

theorem val_snoc : ∀ (l : List UInt8) (acc : Nat) (c : UInt8), val acc (l ++ [c]) = val acc l * 10 + (c.toNat - 48)
  | [], acc, c => rfl
  | d :: r, acc, c => by
    rw [List.cons_append]
    unfold val
    exact val_snoc r _ c

theorem parse_val : ∀ (l : List UInt8) (acc : Nat), (∀ c ∈ l, dig c = true) → acc < 18446744073709551616 →
    Lib.parseUint10 acc l = if val acc l < 18446744073709551616 then .ok (val acc l) else .range
  | [], acc, _, ha => by unfold val Lib.parseUint10; rw [if_pos ha]
  | c :: r, acc, h, ha => by
    have hc := (dig_iff c).mp (h c List.mem_cons_self)
    have hr := fun d hd => h d (List.mem_cons_of_mem c hd)
    have hge := val_ge r (acc * 10 + (c.toNat - 48))
    unfold val Lib.parseUint10
    rw [if_pos hc]
    by_cases h1 : 1844674407370955162 ≤ acc
    · rw [if_pos h1, if_neg (by omega)]
    · rw [if_neg h1]
      by_cases h2 : 18446744073709551616 ≤ acc * 10 + (c.toNat - 48)
      · rw [if_pos h2, if_neg (by omega)]
      · rw [if_neg h2]
        exact parse_val r _ hr (by omega)

theorem atoi_val (l : List UInt8) (hne : l ≠ []) (h : ∀ c ∈ l, dig c = true) :
    Lib.atoiAll l = if val 0 l < 9223372036854775808 then .ok (val 0 l : Int) else .range := by
  cases l with
  | nil => exact absurd rfl hne
  | cons c r =>
    have hc := (dig_iff c).mp (h c List.mem_cons_self)
    unfold Lib.atoiAll
    have e1 : ¬ (c.toNat = 43 ∨ c.toNat = 45) := by omega
    have e2 : ¬ c.toNat = 45 := by omega
    simp only [if_neg e1]
    unfold Lib.parseMag
    rw [if_neg (by simp), parse_val (c :: r) 0 h (by omega)]
    by_cases h1 : val 0 (c :: r) < 18446744073709551616
    · rw [if_pos h1]
      by_cases h2 : val 0 (c :: r) < 9223372036854775808
      · simp [e2, h2, show ¬ 9223372036854775808 ≤ val 0 (c :: r) by omega]
      · simp [e2, h2, show 9223372036854775808 ≤ val 0 (c :: r) by omega]
    · rw [if_neg h1, if_neg (by omega)]

theorem span_all (p : Int → Bool) (s : ByteArray) (k : Nat) (hk : k ≤ s.size) (h : ∀ j (hj : j < s.size), k ≤ j → p (s[j].toNat : Int) = true) : spanN p s k = s.size := by
  fun_induction spanN p s k with
  | case1 k h1 hp ih => exact ih (by omega) (fun j hj hkj => h j hj (by omega))
  | case2 k h1 hp => exact absurd (h k h1 (Nat.le_refl _)) hp
  | case3 k h1 => omega

theorem span_all' (p : Int → Bool) (s : ByteArray) (k : Nat) (h : spanN p s k = s.size) : ∀ j (hj : j < s.size), k ≤ j → p (s[j].toNat : Int) = true := by
  fun_induction spanN p s k with
  | case1 k h1 hp ih =>
    intro j hj hkj
    by_cases he : j = k
    · subst he; exact hp
    · exact ih h j hj (by omega)
  | case2 k h1 hp => omega
  | case3 k h1 => intro j hj hkj; omega

theorem mem_iff (s : ByteArray) (q : UInt8 → Prop) : (∀ c ∈ s.data.toList, q c) ↔ ∀ j (hj : j < s.size), q s[j] := by
  constructor
  · intro h j hj
    exact h _ (List.mem_iff_getElem.mpr ⟨j, by rw [data_length]; exact hj, rfl⟩)
  · intro h c hc
    obtain ⟨j, hj, rfl⟩ := List.mem_iff_getElem.mp hc
    exact h j (by rw [data_length] at hj; exact hj)

theorem digits_iff (s : ByteArray) : spanN digitI s 0 = s.size ↔ ∀ c ∈ s.data.toList, dig c = true := by
  rw [mem_iff s (fun c => dig c = true)]
  exact ⟨fun h j hj => span_all' digitI s 0 h j hj (Nat.zero_le _), fun h => span_all digitI s 0 (Nat.zero_le _) (fun j hj _ => h j hj)⟩

/-- What Number gives, in plain words. -/
theorem numF_bad (s : ByteArray) (most : Int) (h : s.size = 0 ∨ ¬ (∀ c ∈ s.data.toList, dig c = true) ∨ (bt s 0 = 48 ∧ 1 < s.size)) : numF s most = (0, 3) := by
  unfold numF
  rw [if_pos]
  rcases h with h | h | h
  · exact Or.inl h
  · refine Or.inr (Or.inl ?_)
    have h1 := (spanN_le digitI s 0 (Nat.zero_le _)).2
    have h2 : spanN digitI s 0 ≠ s.size := fun he => h ((digits_iff s).mp he)
    omega
  · exact Or.inr (Or.inr h)

theorem numF_good (s : ByteArray) (most : Int) (h0 : s.size ≠ 0) (h1 : ∀ c ∈ s.data.toList, dig c = true) (h2 : ¬ (bt s 0 = 48 ∧ 1 < s.size)) :
    numF s most = if val 0 s.data.toList < 9223372036854775808 ∧ (val 0 s.data.toList : Int) ≤ most then ((val 0 s.data.toList : Int), 0) else (0, 2) := by
  unfold numF
  have hsp := (digits_iff s).mpr h1
  rw [if_neg (by rw [hsp]; rintro (h | h | h); exact h0 h; omega; exact h2 h),
    atoi_val _ (by intro he; apply h0; rw [← data_length, he]; rfl) h1]
  by_cases h3 : val 0 s.data.toList < 9223372036854775808
  · rw [if_pos h3]
    simp only
    by_cases h4 : (val 0 s.data.toList : Int) ≤ most
    · rw [if_neg (by omega), if_pos ⟨h3, h4⟩]
    · rw [if_pos (by omega), if_neg (by rintro ⟨_, h⟩; exact h4 h)]
  · rw [if_neg h3]
    simp only
    rw [if_neg (by rintro ⟨h, _⟩; exact h3 h)]

theorem dec_digits (u : Nat) : ∀ c ∈ Lib.decDigits u, dig c = true := by
  fun_induction Lib.decDigits u with
  | case1 u h =>
    intro c hc
    obtain rfl := List.mem_singleton.mp hc
    rw [dig_iff, UInt8.toNat_ofNat']; omega
  | case2 u h ih =>
    intro c hc
    rcases List.mem_append.mp hc with hc | hc
    · exact ih c hc
    · obtain rfl := List.mem_singleton.mp hc
      rw [dig_iff, UInt8.toNat_ofNat']; omega

theorem dec_val (u : Nat) : val 0 (Lib.decDigits u) = u := by
  fun_induction Lib.decDigits u with
  | case1 u h =>
    unfold val val
    rw [UInt8.toNat_ofNat']; omega
  | case2 u h ih =>
    rw [val_snoc, ih, UInt8.toNat_ofNat']; omega

theorem dec_ne (u : Nat) : Lib.decDigits u ≠ [] := by
  unfold Lib.decDigits
  split <;> simp

theorem dec_head (u : Nat) : ∀ c, (Lib.decDigits u).head? = some c → c.toNat = 48 → u = 0 := by
  fun_induction Lib.decDigits u with
  | case1 u h =>
    intro c hc h48
    obtain rfl : UInt8.ofNat (48 + u) = c := Option.some.inj hc
    rw [UInt8.toNat_ofNat'] at h48; omega
  | case2 u h ih =>
    intro c hc h48
    rw [List.head?_append] at hc
    cases hh : (Lib.decDigits (u / 10)).head? with
    | none => exact absurd (List.head?_eq_none_iff.mp hh) (dec_ne _)
    | some d =>
      rw [hh] at hc
      simp at hc; subst hc
      have := ih d hh h48
      omega

theorem val_pos : ∀ (l : List UInt8) (acc : Nat), 1 ≤ acc → 1 ≤ val acc l := fun l acc h => Nat.le_trans h (val_ge l acc)

/-- A numeral without a leading zero is what Itoa writes. -/
theorem dec_of_val (l : List UInt8) (hne : l ≠ []) (h : ∀ c ∈ l, dig c = true) (hz : ∀ c r, l = c :: r → c.toNat = 48 → r = []) : Lib.decDigits (val 0 l) = l := by
  have key : ∀ n, ∀ l : List UInt8, l.length = n → l ≠ [] → (∀ c ∈ l, dig c = true) → (∀ c r, l = c :: r → c.toNat = 48 → r = []) → Lib.decDigits (val 0 l) = l := by
    intro n
    induction n with
    | zero => intro l hl hne _ _; exact absurd (List.eq_nil_of_length_eq_zero hl) hne
    | succ n ih =>
      intro l hl hne h hz
      obtain ⟨r, c, rfl⟩ : ∃ r c, l = r ++ [c] := ⟨l.dropLast, l.getLast hne, (List.dropLast_concat_getLast hne).symm⟩
      have hc := (dig_iff c).mp (h c (by simp))
      rw [val_snoc]
      have hco : UInt8.ofNat (48 + (c.toNat - 48)) = c := by
        have : 48 + (c.toNat - 48) = c.toNat := by omega
        rw [this]; exact UInt8.ofNat_toNat
      by_cases hr : r = []
      · subst hr
        show Lib.decDigits (0 * 10 + (c.toNat - 48)) = [c]
        rw [Lib.decDigits, dif_pos (by omega)]
        have : 48 + (0 * 10 + (c.toNat - 48)) = 48 + (c.toNat - 48) := by omega
        rw [this, hco]
      · have hr1 : 1 ≤ val 0 r := by
          obtain ⟨d, q, rfl⟩ : ∃ d q, r = d :: q := by
            cases r with
            | nil => exact absurd rfl hr
            | cons d q => exact ⟨d, q, rfl⟩
          have hd := (dig_iff d).mp (h d (by simp))
          have hd0 : d.toNat ≠ 48 := by
            intro h48
            have := hz d (q ++ [c]) rfl h48
            simp at this
          unfold val
          exact val_pos q _ (by omega)
        have hir := ih r (by simpa using hl) hr (fun d hd => h d (by simp [hd])) (fun d q he h48 => by
          have := hz d (q ++ [c]) (by rw [he]; rfl) h48
          simp at this)
        rw [Lib.decDigits, dif_neg (by omega)]
        have e1 : (val 0 r * 10 + (c.toNat - 48)) / 10 = val 0 r := by omega
        have e2 : 48 + (val 0 r * 10 + (c.toNat - 48)) % 10 = 48 + (c.toNat - 48) := by omega
        rw [e1, e2, hir, hco]
  exact key l.length l rfl hne h hz


theorem bt_head (s : ByteArray) (h : 0 < s.size) : ∃ c r, s.data.toList = c :: r ∧ (c.toNat : Int) = bt s 0 := by
  have hl : s.data.toList = s[0] :: s.data.toList.drop 1 := by
    have := List.drop_eq_getElem_cons (l := s.data.toList) (i := 0) (by rw [data_length]; exact h)
    rw [List.drop_zero] at this
    exact this
  exact ⟨s[0], _, hl, bt_at s 0 h⟩

end Go.Proofs.YtdlfdggmdenalaaDoor
