/-
  Hexadecimal: plain lemmas. For every list of bytes.
-/
import Derived.Test.YtdlfdggmdenalaaDoorKW
namespace Go.Proofs.YtdlfdggmdenalaaDoor
open Go.RowKit Go.Proofs.YtdlfdggmdenalaaDoorW.PrintWords Go.Proofs.YtdlfdggmdenalaaDoorW.PrintMore

def nib (n : Int) : Int := if 48 ≤ n ∧ n ≤ 57 then n - 48 else if 97 ≤ n ∧ n ≤ 102 then n - 87 else -1

theorem val_tab : ((List.range 256).all fun n => valI (n : Int) == nib (n : Int)) = true := by kernel_rfl
theorem hex_tab : ((List.range 16).all fun n => nib (bt hexT (n : Int)) == (n : Int)) = true := by kernel_rfl
theorem nib_tab : ((List.range 256).all fun n => decide (nib (n : Int) < 0) || bt hexT (nib (n : Int)) == (n : Int)) = true := by kernel_rfl

theorem valI_nib (n : Int) (h0 : 0 ≤ n) (h1 : n ≤ 255) : valI n = nib n := by
  have := List.all_eq_true.mp val_tab n.toNat (List.mem_range.mpr (by omega))
  have e : (n.toNat : Int) = n := by omega
  rw [e] at this
  simpa using this

theorem nib_hex (x : Int) (h0 : 0 ≤ x) (h1 : x < 16) : nib (bt hexT x) = x := by
  have := List.all_eq_true.mp hex_tab x.toNat (List.mem_range.mpr (by omega))
  have e : (x.toNat : Int) = x := by omega
  rw [e] at this
  simpa using this

theorem hex_nib (n : Int) (h0 : 0 ≤ n) (h1 : n ≤ 255) (h : 0 ≤ nib n) : bt hexT (nib n) = n := by
  have := List.all_eq_true.mp nib_tab n.toNat (List.mem_range.mpr (by omega))
  have e : (n.toNat : Int) = n := by omega
  rw [e] at this
  have h2 : decide (nib n < 0) = false := decide_eq_false (by omega)
  rw [h2] at this
  simpa using this

theorem nib_lt (n : Int) : nib n < 16 := by unfold nib; split; omega; split <;> omega

def toU (l : List Int) : List UInt8 := l.map fun n => UInt8.ofNat n.toNat
theorem hexS_data (l : List Int) : (hexS l).data.toList = toU (hexL l) := strOfNums_data _

theorem drop_two (s : ByteArray) (k : Nat) (a b : UInt8) (r : List UInt8) (h : s.data.toList.drop k = a :: b :: r) :
    k + 1 < s.size ∧ bt s (k : Int) = a.toNat ∧ bt s ((k + 1 : Nat) : Int) = b.toNat ∧ s.data.toList.drop (k + 2) = r := by
  have hl := congrArg List.length h
  simp only [List.length_drop, data_length, List.length_cons] at hl
  have h1 : k < s.size := by omega
  have h2 : k + 1 < s.size := by omega
  have e1 : s.data.toList[k]? = some a := by
    have := congrArg (fun l => l[0]?) h
    simpa using this
  have e2 : s.data.toList[k + 1]? = some b := by
    have := congrArg (fun l => l[1]?) h
    simpa using this
  refine ⟨h2, ?_, ?_, ?_⟩
  · rw [← bt_at s (k : Int) h1]
    have : some s[k] = some a := by rw [← e1, List.getElem?_eq_getElem (by rw [data_length]; exact h1)]; rfl
    rw [← Option.some.inj this]; rfl
  · rw [← bt_at s ((k + 1 : Nat) : Int) h2]
    have : some s[k + 1] = some b := by rw [← e2, List.getElem?_eq_getElem (by rw [data_length]; exact h2)]; rfl
    rw [← Option.some.inj this]; rfl
  · have := congrArg (List.drop 2) h
    rw [List.drop_drop] at this
    simpa using this

theorem u8_back (n : Int) (h0 : 0 ≤ n) (h1 : n ≤ 255) : ((UInt8.ofNat n.toNat).toNat : Int) = n := by
  rw [UInt8.toNat_ofNat']; omega

/-- What Hex writes is read back. -/
theorem unhex_hex (s : ByteArray) : ∀ (rest : List Int) (k f : Nat) (acc : List Int), s.data.toList.drop k = toU (hexL rest) → (∀ x ∈ rest, 0 ≤ x ∧ x ≤ 255) → rest.length < f →
    unhexG s f k acc = (acc ++ rest, 0)
  | [], k, f, acc, hd, _, hf => by
    obtain ⟨f, rfl⟩ : ∃ m, f = m + 1 := ⟨f - 1, by simp at hf; omega⟩
    have hl := congrArg List.length hd
    simp [toU, hexL, data_length] at hl
    unfold unhexG
    rw [if_neg (by omega)]; simp
  | x :: rest, k, f, acc, hd, hb, hf => by
    obtain ⟨f, rfl⟩ : ∃ m, f = m + 1 := ⟨f - 1, by simp at hf; omega⟩
    have hx := hb x List.mem_cons_self
    have he : toU (hexL (x :: rest)) = UInt8.ofNat (bt hexT (x / 16)).toNat :: UInt8.ofNat (bt hexT (x % 16)).toNat :: toU (hexL rest) := by simp [toU, hexL, hexD]
    rw [he] at hd
    obtain ⟨h1, h2, h3, h4⟩ := drop_two s k _ _ _ hd
    have r1 := bt_range hexT (x / 16)
    have r2 := bt_range hexT (x % 16)
    rw [u8_back _ r1.1 r1.2] at h2
    rw [u8_back _ r2.1 r2.2] at h3
    have v1 : valI (bt s (k : Int)) = x / 16 := by rw [h2, valI_nib _ r1.1 r1.2, nib_hex _ (by omega) (by omega)]
    have v2 : valI (bt s ((k + 1 : Nat) : Int)) = x % 16 := by rw [h3, valI_nib _ r2.1 r2.2, nib_hex _ (by omega) (by omega)]
    unfold unhexG
    rw [if_pos (by omega), v1, v2, if_neg (by omega)]
    have e : x / 16 * 16 + x % 16 = x := by omega
    rw [e, unhex_hex s rest (k + 2) f (acc ++ [x]) h4 (fun y hy => hb y (List.mem_cons_of_mem _ hy)) (by simp at hf; omega)]
    simp

/-- What is read is what Hex writes. -/
theorem hex_unhex (s : ByteArray) (hev : s.size % 2 = 0) : ∀ (f k : Nat) (acc l : List Int), k ≤ s.size → k % 2 = 0 → s.size < k + f → unhexG s f k acc = (l, 0) →
    ∃ rest, l = acc ++ rest ∧ (∀ x ∈ rest, 0 ≤ x ∧ x ≤ 255) ∧ s.data.toList.drop k = toU (hexL rest) ∧ rest.length ≤ f := by
  intro f
  induction f with
  | zero => intro k acc l h1 h2 h3 h4; omega
  | succ f ih =>
    intro k acc l h1 h2 h3 h4
    unfold unhexG at h4
    by_cases hlt : k < s.size
    · have hlt2 : k + 1 < s.size := by omega
      rw [if_pos hlt] at h4
      have r1 := bt_range s (k : Int)
      have r2 := bt_range s ((k + 1 : Nat) : Int)
      rw [valI_nib _ r1.1 r1.2, valI_nib _ r2.1 r2.2] at h4
      by_cases hn : nib (bt s (k : Int)) < 0 ∨ nib (bt s ((k + 1 : Nat) : Int)) < 0
      · rw [if_pos hn] at h4; simp at h4
      · rw [if_neg hn] at h4
        obtain ⟨rest, hl, hb, hd, hlen⟩ := ih (k + 2) _ l (by omega) (by omega) (by omega) h4
        have n1 := nib_lt (bt s (k : Int))
        have n2 := nib_lt (bt s ((k + 1 : Nat) : Int))
        have c1 := hex_nib _ r1.1 r1.2 (by omega)
        have c2 := hex_nib _ r2.1 r2.2 (by omega)
        obtain ⟨a, ha⟩ : ∃ a, nib (bt s (k : Int)) = a := ⟨_, rfl⟩
        obtain ⟨b, hb2⟩ : ∃ b, nib (bt s ((k + 1 : Nat) : Int)) = b := ⟨_, rfl⟩
        rw [ha, hb2] at hl hn
        rw [ha] at c1 n1
        rw [hb2] at c2 n2
        refine ⟨(a * 16 + b) :: rest, by rw [hl]; simp, ?_, ?_, by simp; omega⟩
        · intro x hx
          rcases List.mem_cons.mp hx with rfl | hx
          · omega
          · exact hb x hx
        · have e1 : s.data.toList.drop k = s[k] :: s[k + 1] :: s.data.toList.drop (k + 2) := by
            rw [List.drop_eq_getElem_cons (by rw [data_length]; exact hlt), List.drop_eq_getElem_cons (by rw [data_length]; exact hlt2)]; rfl
          have q1 : (a * 16 + b) / 16 = a := by omega
          have q2 : (a * 16 + b) % 16 = b := by omega
          have he : toU (hexL ((a * 16 + b) :: rest)) = UInt8.ofNat (bt hexT a).toNat :: UInt8.ofNat (bt hexT b).toNat :: toU (hexL rest) := by simp [toU, hexL, hexD, q1, q2]
          rw [e1, he, hd, c1, c2]
          have g1 : bt s (k : Int) = (s[k].toNat : Int) := (bt_at s (k : Int) hlt).symm
          have g2 : bt s ((k + 1 : Nat) : Int) = (s[k + 1].toNat : Int) := (bt_at s ((k + 1 : Nat) : Int) hlt2).symm
          rw [g1, g2]
          simp
    · rw [if_neg hlt] at h4
      simp at h4
      subst h4
      refine ⟨[], by simp, by simp, ?_, by simp⟩
      rw [List.drop_eq_nil_of_le (by rw [data_length]; omega)]; rfl

theorem unhexF_hexS (l : List Int) (hb : ∀ x ∈ l, 0 ≤ x ∧ x ≤ 255) : unhexF (hexS l) = (l, 0) := by
  have hs : (hexS l).size = 2 * l.length := by rw [← data_length, hexS_data, toU, List.length_map, hexL_length]
  unfold unhexF
  rw [if_neg (by omega)]
  have := unhex_hex (hexS l) l 0 ((hexS l).size + 1) [] (by rw [List.drop_zero, hexS_data]) hb (by omega)
  simpa using this

theorem hexS_unhexF (s : ByteArray) (l : List Int) (h : unhexF s = (l, 0)) : hexS l = s ∧ (∀ x ∈ l, 0 ≤ x ∧ x ≤ 255) ∧ l.length ≤ s.size + 1 := by
  unfold unhexF at h
  by_cases hodd : s.size % 2 = 1
  · rw [if_pos hodd] at h; simp at h
  · rw [if_neg hodd] at h
    obtain ⟨rest, hl, hb, hd, hlen⟩ := hex_unhex s (by omega) (s.size + 1) 0 [] l (Nat.zero_le _) rfl (by omega) h
    rw [List.nil_append] at hl
    subst hl
    refine ⟨?_, hb, hlen⟩
    rw [List.drop_zero] at hd
    rw [← mkB_data (hexS _), hexS_data, ← hd, mkB_data]

end Go.Proofs.YtdlfdggmdenalaaDoor
