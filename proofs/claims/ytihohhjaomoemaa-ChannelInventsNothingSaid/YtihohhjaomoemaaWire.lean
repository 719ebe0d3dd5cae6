/- The encodings of the chapter wire, as plain functions on lists of bytes, and their laws. -/
namespace Go.Proofs.Ytihohhjaomoemaa.Wire

/-- An unsigned integer's encoding: seven digits a byte, the lowest first. -/
def encU (n : Nat) : List UInt8 := if n < 128 then [UInt8.ofNat n] else UInt8.ofNat (128 + n % 128) :: encU (n / 128)
termination_by n
decreasing_by omega
theorem encU_small {n : Nat} (h : n < 128) : encU n = [UInt8.ofNat n] := by unfold encU; rw [if_pos h]
theorem encU_big {n : Nat} (h : 128 ≤ n) : encU n = UInt8.ofNat (128 + n % 128) :: encU (n / 128) := by
  rw [encU, if_neg (by omega)]

/-- Reading: at most f bytes more, i have been read, acc is what they gave. -/
def decU : Nat → Nat → Nat → List UInt8 → Except Int (Nat × Nat)
  | 0, _, _, _ => .error 3
  | _ + 1, _, _, [] => .error 41
  | f + 1, i, acc, c :: t => if c.toNat < 128 then (if (i = 9 ∧ 1 < c.toNat) ∨ (0 < i ∧ c.toNat = 0) then .error 3 else .ok (acc + c.toNat % 128 * 2 ^ (7 * i), i + 1)) else decU f (i + 1) (acc + c.toNat % 128 * 2 ^ (7 * i)) t
def dec (l : List UInt8) : Except Int (Nat × Nat) := decU 10 0 0 l

theorem byte_lo {n : Nat} (h : n < 256) : (UInt8.ofNat n).toNat = n := by rw [UInt8.toNat_ofNat']; omega
theorem pow7 (i : Nat) : 2 ^ (7 * (i + 1)) = 128 * 2 ^ (7 * i) := by rw [Nat.mul_add, Nat.pow_add, Nat.mul_comm]
theorem decU_enc : ∀ (f i acc n : Nat) (t : List UInt8), f + i = 10 → n * 2 ^ (7 * i) < 2 ^ 64 → (0 < i → 0 < n) → 0 < f → decU f i acc (encU n ++ t) = .ok (acc + n * 2 ^ (7 * i), i + (encU n).length) := by
  intro f
  induction f with
  | zero => intro i acc n t _ _ _ h; exact absurd h (Nat.lt_irrefl _)
  | succ f ih =>
    intro i acc n t hf hn h0 _
    by_cases h : n < 128
    · have e : encU n = [UInt8.ofNat n] := encU_small h
      have hb : (UInt8.ofNat n).toNat = n := byte_lo (by omega)
      rw [e, List.singleton_append]
      unfold decU
      rw [hb, if_pos h, if_neg, Nat.mod_eq_of_lt h]
      · rfl
      · rintro (⟨h9, h1⟩ | ⟨hi, hz⟩)
        · subst h9
          have : 2 * 2 ^ 63 ≤ n * 2 ^ (7 * 9) := Nat.mul_le_mul_right _ h1
          omega
        · have := h0 hi; omega
    · have e : encU n = UInt8.ofNat (128 + n % 128) :: encU (n / 128) := encU_big (by omega)
      have hb : (UInt8.ofNat (128 + n % 128)).toNat = 128 + n % 128 := byte_lo (by omega)
      have hi9 : i < 9 := by
        rcases Nat.lt_or_ge i 9 with h' | h'
        · exact h'
        · exfalso
          have : i = 9 := by omega
          subst this
          have : 128 * 2 ^ 63 ≤ n * 2 ^ (7 * 9) := Nat.mul_le_mul_right _ (by omega)
          omega
      have hq : n / 128 * 2 ^ (7 * (i + 1)) ≤ n * 2 ^ (7 * i) := by
        rw [pow7, ← Nat.mul_assoc]
        exact Nat.mul_le_mul_right _ (by omega)
      rw [e, List.cons_append]
      unfold decU
      rw [hb, if_neg (by omega), ih (i + 1) _ (n / 128) t (by omega) (by omega) (fun _ => by omega) (by omega)]
      have hm : (128 + n % 128) % 128 = n % 128 := by omega
      rw [hm, pow7]
      congr 2
      · rw [Nat.add_assoc, ← Nat.mul_assoc, ← Nat.add_mul]
        congr 2
        omega
      · simp only [List.length_cons]; omega
theorem dec_enc (n : Nat) (hn : n < 2 ^ 64) (t : List UInt8) : dec (encU n ++ t) = .ok (n, (encU n).length) := by
  have := decU_enc 10 0 0 n t rfl (by simpa using hn) (fun h => absurd h (Nat.lt_irrefl _)) (by omega)
  simpa [dec] using this
theorem encU_pos (n : Nat) : 0 < (encU n).length := by
  by_cases h : n < 128
  · rw [encU_small h]; simp
  · rw [encU_big (by omega)]; simp
theorem encU_len : ∀ (k n : Nat), n < 2 ^ (7 * (k + 1)) → (encU n).length ≤ k + 1 := by
  intro k
  induction k with
  | zero => intro n h; rw [encU_small (by simpa using h)]; simp
  | succ k ih =>
    intro n h
    by_cases h' : n < 128
    · rw [encU_small h']; simp
    · rw [encU_big (by omega), List.length_cons]
      have := ih (n / 128) (by rw [pow7] at h; omega)
      omega
theorem encU_len10 {n : Nat} (h : n < 2 ^ 64) : (encU n).length ≤ 10 := encU_len 9 n (Nat.lt_of_lt_of_le h (Nat.pow_le_pow_right (by decide) (by decide)))

/-- What is read is an encoding. -/
theorem decU_ok : ∀ (f i acc : Nat) (l : List UInt8) (n k : Nat), f + i = 10 → decU f i acc l = .ok (n, k) → ∃ m, n = acc + m * 2 ^ (7 * i) ∧ (0 < i → 0 < m) ∧ m * 2 ^ (7 * i) < 2 ^ 64 ∧ i < k ∧ k ≤ i + l.length ∧ l.take (k - i) = encU m := by
  intro f
  induction f with
  | zero => intro i acc l n k _ h; simp [decU] at h
  | succ f ih =>
    intro i acc l n k hf h
    cases l with
    | nil => simp [decU] at h
    | cons c t =>
      unfold decU at h
      have hc := c.toNat_lt
      by_cases h128 : c.toNat < 128
      · rw [if_pos h128] at h
        by_cases hbad : (i = 9 ∧ 1 < c.toNat) ∨ (0 < i ∧ c.toNat = 0)
        · rw [if_pos hbad] at h; cases h
        · rw [if_neg hbad] at h
          cases h
          refine ⟨c.toNat, by rw [Nat.mod_eq_of_lt h128], fun hi => by omega, ?_, by omega, by simp, ?_⟩
          · by_cases h9 : i = 9
            · subst h9
              have : c.toNat * 2 ^ (7 * 9) ≤ 1 * 2 ^ (7 * 9) := Nat.mul_le_mul_right _ (by omega)
              omega
            · have h1 : 2 ^ (7 * i) ≤ 2 ^ 56 := Nat.pow_le_pow_right (by decide) (by omega)
              have h2 : c.toNat * 2 ^ (7 * i) ≤ 127 * 2 ^ 56 := Nat.mul_le_mul (by omega) h1
              omega
          · rw [show i + 1 - i = 1 by omega, encU_small h128]
            simp
      · rw [if_neg h128] at h
        obtain ⟨m, h1, h2, h3, h4, h5, h6⟩ := ih (i + 1) _ t n k (by omega) h
        have hm := h2 (by omega)
        refine ⟨c.toNat % 128 + 128 * m, ?_, fun _ => by omega, ?_, by omega, by simp only [List.length_cons]; omega, ?_⟩
        · rw [h1, pow7, Nat.add_assoc, Nat.add_mul, ← Nat.mul_assoc, Nat.mul_comm m 128]
        · have hi9 : i < 9 := by
            rcases Nat.lt_or_ge i 9 with h' | h'
            · exact h'
            · exfalso
              have h10 : 2 ^ 70 ≤ m * 2 ^ (7 * (i + 1)) := by
                calc 2 ^ 70 ≤ 2 ^ (7 * (i + 1)) := Nat.pow_le_pow_right (by decide) (by omega)
                  _ = 1 * 2 ^ (7 * (i + 1)) := (Nat.one_mul _).symm
                  _ ≤ m * 2 ^ (7 * (i + 1)) := Nat.mul_le_mul_right _ hm
              omega
          have e64 : 2 ^ 64 = 2 ^ (64 - 7 * (i + 1)) * 2 ^ (7 * (i + 1)) := by rw [← Nat.pow_add]; congr 1; omega
          have hmlt : m < 2 ^ (64 - 7 * (i + 1)) := by
            rw [e64] at h3
            exact Nat.lt_of_mul_lt_mul_right h3
          have : c.toNat % 128 + 128 * m < 128 * 2 ^ (64 - 7 * (i + 1)) := by omega
          calc (c.toNat % 128 + 128 * m) * 2 ^ (7 * i) < 128 * 2 ^ (64 - 7 * (i + 1)) * 2 ^ (7 * i) := Nat.mul_lt_mul_of_pos_right this (Nat.two_pow_pos _)
            _ = 2 ^ 64 := by rw [e64, pow7, Nat.mul_comm 128, Nat.mul_assoc]
        · rw [show k - i = (k - (i + 1)) + 1 by omega, List.take_succ_cons, h6, encU_big (n := c.toNat % 128 + 128 * m) (by omega)]
          congr 1
          · apply UInt8.toNat_inj.1
            rw [byte_lo (by omega)]
            omega
          · congr 1; omega
theorem dec_ok {l : List UInt8} {n k : Nat} (h : dec l = .ok (n, k)) : n < 2 ^ 64 ∧ 0 < k ∧ k ≤ l.length ∧ l.take k = encU n := by
  obtain ⟨m, h1, -, h3, h4, h5, h6⟩ := decU_ok 10 0 0 l n k rfl h
  simp only [Nat.zero_add, Nat.mul_zero, Nat.pow_zero, Nat.mul_one, Nat.sub_zero] at h1 h3 h5 h6
  subst h1
  exact ⟨h3, h4, h5, h6⟩
theorem dec_k {l : List UInt8} {n k : Nat} (h : dec l = .ok (n, k)) : k = (encU n).length := by
  obtain ⟨_, _, h1, h2⟩ := dec_ok h
  rw [← h2, List.length_take]; omega
/-- A proper beginning. -/
theorem decU_short : ∀ (f i acc n j : Nat), f + i = 10 → n * 2 ^ (7 * i) < 2 ^ 64 → 0 < f → j < (encU n).length → decU f i acc ((encU n).take j) = .error 41 := by
  intro f
  induction f with
  | zero => intro i acc n j _ _ h; exact absurd h (Nat.lt_irrefl _)
  | succ f ih =>
    intro i acc n j hf hn _ hj
    cases j with
    | zero => simp [decU]
    | succ j =>
      by_cases h : n < 128
      · rw [encU_small h] at hj; simp at hj
      · have e : encU n = UInt8.ofNat (128 + n % 128) :: encU (n / 128) := encU_big (by omega)
        have hb : (UInt8.ofNat (128 + n % 128)).toNat = 128 + n % 128 := byte_lo (by omega)
        have hi9 : i < 9 := by
          rcases Nat.lt_or_ge i 9 with h' | h'
          · exact h'
          · exfalso
            have : i = 9 := by omega
            subst this
            have : 128 * 2 ^ 63 ≤ n * 2 ^ (7 * 9) := Nat.mul_le_mul_right _ (by omega)
            omega
        have hq : n / 128 * 2 ^ (7 * (i + 1)) ≤ n * 2 ^ (7 * i) := by
          rw [pow7, ← Nat.mul_assoc]
          exact Nat.mul_le_mul_right _ (by omega)
        rw [e, List.take_succ_cons]
        unfold decU
        rw [hb, if_neg (by omega)]
        rw [e, List.length_cons] at hj
        exact ih (i + 1) _ (n / 128) j (by omega) (by omega) (by omega) (by omega)
theorem dec_short {n j : Nat} (hn : n < 2 ^ 64) (hj : j < (encU n).length) : dec ((encU n).take j) = .error 41 := decU_short 10 0 0 n j rfl (by simpa using hn) (by omega) hj
theorem encU_inj_take {n m : Nat} (hn : n < 2 ^ 64) (hm : m < 2 ^ 64) {t u : List UInt8} (h : encU n ++ t = encU m ++ u) : n = m := by
  have h1 := dec_enc n hn t
  rw [h, dec_enc m hm u] at h1
  cases h1; rfl

/-! ### Integers, strings, frames -/
def zig (n : Int) : Nat := if 0 ≤ n then 2 * n.toNat else 2 * (-(n + 1)).toNat + 1
def zag (k : Nat) : Int := if k % 2 = 1 then -((k / 2 : Nat) : Int) - 1 else ((k / 2 : Nat) : Int)
theorem zag_zig (n : Int) : zag (zig n) = n := by unfold zag zig; split <;> split <;> omega
theorem zig_zag (k : Nat) : zig (zag k) = k := by unfold zag zig; split <;> split <;> omega
theorem zig_lt {n : Int} (h1 : -9223372036854775808 ≤ n) (h2 : n ≤ 9223372036854775807) : zig n < 2 ^ 64 := by unfold zig; split <;> omega
def encI (n : Int) : List UInt8 := encU (zig n)
def encT (s : List UInt8) : List UInt8 := encU s.length ++ s
/-- A result of a reading: what is read, how many bytes it took; or a code. -/
def decT (l : List UInt8) : Except Int (List UInt8 × Nat) := match dec l with
  | .error c => .error c
  | .ok (n, k) => if l.length - k < n then .error 41 else .ok ((l.drop k).take n, k + n)
theorem decT_enc (s t : List UInt8) (hs : s.length < 2 ^ 64) : decT (encT s ++ t) = .ok (s, (encT s).length) := by
  unfold decT encT
  rw [List.append_assoc, dec_enc _ hs]
  simp only [List.length_append]
  rw [if_neg (by omega)]
  simp
theorem decT_ok {l s : List UInt8} {k : Nat} (h : decT l = .ok (s, k)) : s.length < 2 ^ 64 ∧ 0 < k ∧ k ≤ l.length ∧ l.take k = encT s := by
  unfold decT at h
  split at h
  · cases h
  · rename_i n j hd
    obtain ⟨h1, h2, h3, h4⟩ := dec_ok hd
    split at h
    · cases h
    · rename_i hle
      cases h
      have hn : ((l.drop j).take n).length = n := by rw [List.length_take, List.length_drop]; omega
      refine ⟨by omega, by omega, by omega, ?_⟩
      unfold encT
      rw [hn, ← h4, List.take_add]
theorem decT_short {s : List UInt8} {j : Nat} (hs : s.length < 2 ^ 64) (hj : j < (encT s).length) : decT ((encT s).take j) = .error 41 := by
  unfold encT at hj ⊢
  by_cases h : j < (encU s.length).length
  · rw [List.take_append_of_le_length (by omega)]
    unfold decT
    rw [dec_short hs h]
  · rw [List.take_append, List.take_of_length_le (by omega)]
    unfold decT
    rw [dec_enc _ hs]
    simp only
    rw [if_pos]
    rw [List.length_append] at hj ⊢
    rw [List.length_take]
    omega
end Go.Proofs.Ytihohhjaomoemaa.Wire
