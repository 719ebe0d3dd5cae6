/- Plain mathematics of the checksum: bits fed one by one; the change of a pattern of bits within a word of 32 is detected. No program in sight. -/
import Derived.Test.YtnfgapdpnihicaaZGC
namespace Go.Proofs.Ytnfgapdpnihicaa.Crc

/-- The number of a list of bytes: the first byte is the lowest. -/
def num : List UInt8 → Nat
  | [] => 0
  | x :: l => 2 ^ 8 * num l + x.toNat
/-- So many bits of a number, the lowest first. -/
def feed : Nat → BitVec 32 → Nat → BitVec 32
  | 0, r, _ => r
  | n + 1, r, N => feed n (rnd (r ^^^ BitVec.ofNat 32 (N % 2))) (N / 2)

theorem rnds_succ (m : Nat) (r : BitVec 32) : rnds (m + 1) r = rnds m (rnd r) := by
  induction m with
  | zero => rfl
  | succ m ih => rw [rnds, ih]; rfl
theorem ofNat_xor (a b : Nat) : BitVec.ofNat 32 (a ^^^ b) = BitVec.ofNat 32 a ^^^ BitVec.ofNat 32 b := by
  apply BitVec.eq_of_getLsbD_eq
  intro i hi
  simp [hi]
theorem split2 (M : Nat) : (M % 2) ^^^ (2 * (M / 2)) = M := by
  apply Nat.eq_of_testBit_eq
  intro i
  rw [Nat.testBit_xor]
  cases i with
  | zero => simp [Nat.testBit_zero]
  | succ i => simp [Nat.testBit_succ]
theorem rnd_even (k : Nat) (h : 2 * k < 2 ^ 32) : rnd (BitVec.ofNat 32 (2 * k)) = BitVec.ofNat 32 k := by
  have h0 : (BitVec.ofNat 32 (2 * k)).getLsbD 0 = false := by
    rw [BitVec.getLsbD_ofNat, Nat.testBit_zero]
    simp
  rw [rnd_eq, h0]
  apply BitVec.eq_of_toNat_eq
  simp only [Bool.false_eq_true, if_false, BitVec.xor_zero, BitVec.toNat_ushiftRight, BitVec.toNat_ofNat, Nat.shiftRight_eq_div_pow]
  omega
theorem feed_small (m : Nat) : ∀ (r : BitVec 32) (M : Nat), M < 2 ^ m → M < 2 ^ 32 → feed m r M = rnds m (r ^^^ BitVec.ofNat 32 M) := by
  induction m with
  | zero =>
    intro r M h _
    have : M = 0 := by simpa using h
    subst this
    simp [feed, rnds]
  | succ m ih =>
    intro r M h h32
    rw [feed, ih _ (M / 2) (by rw [Nat.pow_succ] at h; omega) (by omega), rnds_succ]
    congr 1
    have e : r ^^^ BitVec.ofNat 32 M = (r ^^^ BitVec.ofNat 32 (M % 2)) ^^^ BitVec.ofNat 32 (2 * (M / 2)) := by
      rw [BitVec.xor_assoc, ← ofNat_xor, split2]
    rw [e, rnd_xor _ (BitVec.ofNat 32 (2 * (M / 2))), rnd_even _ (by omega)]
theorem feed_join (a : Nat) : ∀ (n : Nat) (r : BitVec 32) (X N : Nat), X < 2 ^ a → feed (a + n) r (2 ^ a * N + X) = feed n (feed a r X) N := by
  induction a with
  | zero =>
    intro n r X N h
    have : X = 0 := by simpa using h
    subst this
    simp [feed]
  | succ a ih =>
    intro n r X N h
    have e : a + 1 + n = (a + n) + 1 := by omega
    rw [Nat.pow_succ] at h
    have e1 : (2 ^ (a + 1) * N + X) % 2 = X % 2 := by
      rw [Nat.pow_succ, Nat.mul_comm (2 ^ a) 2, Nat.mul_assoc]; omega
    have e2 : (2 ^ (a + 1) * N + X) / 2 = 2 ^ a * N + X / 2 := by
      rw [Nat.pow_succ, Nat.mul_comm (2 ^ a) 2, Nat.mul_assoc]; omega
    rw [e, feed, feed, e1, e2, ih _ _ _ _ (by omega)]
theorem step_feed (r : BitVec 32) (x : UInt8) : step r x = feed 8 r x.toNat := by
  have h := x.toNat_lt
  rw [feed_small 8 _ _ h (by omega), ← step_rnds]
  congr 2
  apply BitVec.eq_of_toNat_eq
  rw [BitVec.toNat_setWidth, BitVec.toNat_ofNat]
  rfl
theorem run_feed (l : List UInt8) : ∀ r, run r l = feed (8 * l.length) r (num l) := by
  induction l with
  | nil => intro r; rfl
  | cons x l ih =>
    intro r
    have e : 8 * (x :: l).length = 8 + 8 * l.length := by rw [List.length_cons]; omega
    show run (step r x) l = _
    rw [ih, e, num, feed_join 8 _ _ _ _ x.toNat_lt, step_feed]
theorem half_xor (a b : Nat) : (a ^^^ b) / 2 = a / 2 ^^^ b / 2 := by
  apply Nat.eq_of_testBit_eq
  intro i
  simp [Nat.testBit_div_two]
theorem low_xor (a b : Nat) : (a ^^^ b) % 2 = a % 2 ^^^ b % 2 := by
  apply Nat.eq_of_testBit_eq
  intro i
  have h : ∀ x : Nat, (x % 2).testBit i = (decide (i < 1) && x.testBit i) := fun x => Nat.testBit_mod_two_pow x 1 i
  rw [Nat.testBit_xor, h, h, h, Nat.testBit_xor]
  cases decide (i < 1) <;> simp
theorem feed_xor (n : Nat) : ∀ (r s : BitVec 32) (M N : Nat), feed n (r ^^^ s) (M ^^^ N) = feed n r M ^^^ feed n s N := by
  induction n with
  | zero => intro r s M N; rfl
  | succ n ih =>
    intro r s M N
    have e : (r ^^^ s) ^^^ BitVec.ofNat 32 ((M ^^^ N) % 2) = (r ^^^ BitVec.ofNat 32 (M % 2)) ^^^ (s ^^^ BitVec.ofNat 32 (N % 2)) := by
      rw [low_xor, ofNat_xor]; ac_rfl
    rw [feed, e, rnd_xor, half_xor, ih]; rfl
theorem rnd_zero : rnd 0#32 = 0#32 := by decide
theorem feed_zero (n : Nat) : feed n 0#32 0 = 0#32 := by
  induction n with
  | zero => rfl
  | succ n ih => rw [feed]; simp only [Nat.zero_mod, Nat.zero_div, BitVec.xor_self, rnd_zero]; exact ih
theorem rnd_eq_zero {c : BitVec 32} (h : rnd c = 0#32) : c = 0#32 := by
  rw [rnd_eq] at h
  by_cases hc : c.getLsbD 0 = true
  · rw [if_pos hc] at h
    have h31 := congrArg (fun x => x.getLsbD 31) h
    simp [poly] at h31
  · rw [if_neg hc] at h
    apply BitVec.eq_of_getLsbD_eq
    intro i hi
    cases i with
    | zero => simpa using hc
    | succ i =>
      have hi := congrArg (fun x => x.getLsbD i) h
      simp at hi
      rw [Nat.add_comm] at hi
      simpa using hi
theorem rnds_eq_zero (n : Nat) {c : BitVec 32} (h : rnds n c = 0#32) : c = 0#32 := by
  induction n with
  | zero => exact h
  | succ n ih => exact ih (rnd_eq_zero h)
theorem rnds_zero (n : Nat) : rnds n 0#32 = 0#32 := by
  induction n with
  | zero => rfl
  | succ n ih => rw [rnds, ih, rnd_zero]

/-- A change by a word of 32 bits at a place changes the checksum exactly if it changes anything. -/
theorem ext_detects (s : BitVec 32) (l l' : List UInt8) (f M : Nat) (hl : l'.length = l.length) (hf : f ≤ 8 * l.length) (h32 : M < 2 ^ 32) (hin : M < 2 ^ (8 * l.length - f)) (hn : num l' = num l ^^^ (2 ^ f * M)) :
    (ext s l' = ext s l) ↔ M = 0 := by
  have e : run (~~~s) l' = run (~~~s) l ^^^ rnds (8 * l.length - f) (BitVec.ofNat 32 M) := by
    rw [run_feed, run_feed, hl, hn]
    have h1 := feed_xor (8 * l.length) (~~~s) 0#32 (num l) (2 ^ f * M)
    rw [BitVec.xor_zero] at h1
    rw [h1]
    congr 1
    have h2 := feed_join f (8 * l.length - f) 0#32 0 M (Nat.two_pow_pos f)
    rw [show f + (8 * l.length - f) = 8 * l.length from by omega, Nat.add_zero, feed_zero] at h2
    rw [h2, feed_small _ _ _ hin h32, BitVec.zero_xor]
  unfold ext
  rw [e]
  constructor
  · intro h
    have h1 : run (~~~s) l ^^^ rnds (8 * l.length - f) (BitVec.ofNat 32 M) = run (~~~s) l := by
      have := congrArg (fun x => ~~~x) h
      simpa using this
    have h2 : rnds (8 * l.length - f) (BitVec.ofNat 32 M) = 0#32 := by
      have := congrArg (fun x => run (~~~s) l ^^^ x) h1
      simpa [← BitVec.xor_assoc] using this
    have h3 := congrArg BitVec.toNat (rnds_eq_zero _ h2)
    rw [BitVec.toNat_ofNat, Nat.mod_eq_of_lt h32] at h3
    exact h3
  · intro h
    subst h
    rw [show BitVec.ofNat 32 0 = 0#32 from rfl, rnds_zero, BitVec.xor_zero]

/-- One byte changed. -/
theorem num_set (l : List UInt8) : ∀ (j : Nat) (c : UInt8) (h : j < l.length), num (l.set j (l[j] ^^^ c)) = num l ^^^ (2 ^ (8 * j) * c.toNat) := by
  induction l with
  | nil => intro j c h; cases h
  | cons x l ih =>
    intro j c h
    cases j with
    | zero =>
      simp only [List.set_cons_zero, List.getElem_cons_zero, num, Nat.mul_zero, Nat.pow_zero, Nat.one_mul]
      apply Nat.eq_of_testBit_eq
      intro i
      rw [Nat.testBit_xor, Nat.testBit_two_pow_mul_add _ (UInt8.toNat_lt _), Nat.testBit_two_pow_mul_add _ (UInt8.toNat_lt _)]
      by_cases hi : i < 8
      · simp [hi]
      · have : c.toNat.testBit i = false := Nat.testBit_lt_two_pow (Nat.lt_of_lt_of_le c.toNat_lt (Nat.pow_le_pow_right (by decide) (by omega)))
        simp [hi, this]
    | succ j =>
      have h' : j < l.length := by simpa using h
      simp only [List.set_cons_succ, List.getElem_cons_succ, num, ih j c h']
      have e : 2 ^ (8 * (j + 1)) * c.toNat = 2 ^ 8 * (2 ^ (8 * j) * c.toNat) := by
        rw [← Nat.mul_assoc, ← Nat.pow_add]; congr 2; omega
      rw [e]
      apply Nat.eq_of_testBit_eq
      intro i
      have e0 : 2 ^ 8 * (2 ^ (8 * j) * c.toNat) = 2 ^ 8 * (2 ^ (8 * j) * c.toNat) + 0 := rfl
      rw [Nat.testBit_xor, Nat.testBit_two_pow_mul_add _ (UInt8.toNat_lt _), Nat.testBit_two_pow_mul_add _ (UInt8.toNat_lt _), e0, Nat.testBit_two_pow_mul_add _ (by decide)]
      by_cases hi : i < 8
      · simp [hi]
      · simp [hi]

/-- The pattern of a word's bits, as far as there are bits to change, up to a number of them. -/
def maskTo (n f bits : Nat) : Nat → Nat
  | 0 => 0
  | k + 1 => if bits.testBit k = true ∧ f + k < n then maskTo n f bits k ^^^ 2 ^ k else maskTo n f bits k
/-- The bytes with these bits inverted, from a place on, up to a number of them. -/
def flipTo (l : List UInt8) (f bits : Nat) : Nat → List UInt8
  | 0 => l
  | k + 1 => if bits.testBit k = true ∧ f + k < 8 * l.length then
      (flipTo l f bits k).set ((f + k) / 8) ((flipTo l f bits k).getD ((f + k) / 8) 0 ^^^ UInt8.ofNat (2 ^ ((f + k) % 8))) else flipTo l f bits k
theorem flipTo_length (l : List UInt8) (f bits k : Nat) : (flipTo l f bits k).length = l.length := by
  induction k with
  | zero => rfl
  | succ k ih => rw [flipTo]; split <;> simp [ih]
theorem maskTo_lt (n f bits k : Nat) : maskTo n f bits k < 2 ^ k := by
  induction k with
  | zero => simp [maskTo]
  | succ k ih =>
    rw [maskTo]
    split
    · exact Nat.xor_lt_two_pow (Nat.lt_of_lt_of_le ih (Nat.pow_le_pow_right (by decide) (by omega))) (Nat.pow_lt_pow_right (by decide) (by omega))
    · exact Nat.lt_of_lt_of_le ih (Nat.pow_le_pow_right (by decide) (by omega))
theorem maskTo_in (n f bits k : Nat) (hf : f ≤ n) : maskTo n f bits k < 2 ^ (n - f) := by
  induction k with
  | zero => exact Nat.two_pow_pos _
  | succ k ih =>
    rw [maskTo]
    split
    · rename_i h
      exact Nat.xor_lt_two_pow ih (Nat.pow_lt_pow_right (by decide) (by omega))
    · exact ih
theorem num_flipTo (l : List UInt8) (f bits k : Nat) : num (flipTo l f bits k) = num l ^^^ (2 ^ f * maskTo (8 * l.length) f bits k) := by
  induction k with
  | zero => simp [flipTo, maskTo]
  | succ k ih =>
    rw [flipTo, maskTo]
    split
    · rename_i h
      have hlt : (f + k) / 8 < (flipTo l f bits k).length := by rw [flipTo_length]; omega
      have hg : (flipTo l f bits k).getD ((f + k) / 8) 0 = (flipTo l f bits k)[(f + k) / 8] := by
        rw [List.getD_eq_getElem?_getD, List.getElem?_eq_getElem hlt]; rfl
      have hp : (UInt8.ofNat (2 ^ ((f + k) % 8))).toNat = 2 ^ ((f + k) % 8) := by
        rw [UInt8.toNat_ofNat']
        exact Nat.mod_eq_of_lt (Nat.pow_lt_pow_right (by decide) (by omega))
      rw [hg, num_set _ _ _ hlt, ih, hp, ← Nat.pow_add, show 8 * ((f + k) / 8) + (f + k) % 8 = f + k from by omega, Nat.pow_add, Nat.xor_assoc]
      congr 1
      apply Nat.eq_of_testBit_eq
      intro i
      simp only [Nat.testBit_xor]
      rw [← Nat.pow_add, ← Nat.mul_one (2 ^ (f + k)), Nat.pow_add, Nat.mul_assoc, Nat.mul_one]
      simp only [Nat.testBit_two_pow_mul, Nat.testBit_xor]
      by_cases hi : f ≤ i
      · simp [hi]
      · simp [hi]
    · exact ih
/-- Whether anything has been changed so far. -/
theorem maskTo_zero (n f bits k : Nat) : maskTo n f bits (k + 1) = 0 ↔ maskTo n f bits k = 0 ∧ ¬ (bits.testBit k = true ∧ f + k < n) := by
  rw [maskTo]
  split
  · rename_i h
    constructor
    · intro e
      have hb := congrArg (fun x => x.testBit k) e
      have hl : (maskTo n f bits k).testBit k = false := Nat.testBit_lt_two_pow (maskTo_lt n f bits k)
      simp [hl] at hb
    · intro e; exact absurd h e.2
  · rename_i h
    exact ⟨fun e => ⟨e, h⟩, fun e => e.1⟩
/-- Changing bits within 32 consecutive ones changes the checksum exactly if a bit is changed. -/
theorem ext_flip (s : BitVec 32) (l : List UInt8) (f bits : Nat) (hf : f ≤ 8 * l.length) : ext s (flipTo l f bits 32) = ext s l ↔ maskTo (8 * l.length) f bits 32 = 0 :=
  ext_detects s l _ f _ (flipTo_length _ _ _ _) hf (maskTo_lt _ _ _ _) (maskTo_in _ _ _ _ hf) (num_flipTo _ _ _ _)

end Go.Proofs.Ytnfgapdpnihicaa.Crc
