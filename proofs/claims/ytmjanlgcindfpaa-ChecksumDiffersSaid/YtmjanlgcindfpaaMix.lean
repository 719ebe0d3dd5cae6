/- Plain mathematics of the hash: mixing is one to one, so that different seeds, groups and lengths give different hashes. No program in sight. -/
import Derived.Test.YtmjanlgcindfpaaFeed
namespace Go.Proofs.Ytmjanlgcindfpaa.Crc

theorem xs_zero (s : Nat) (hs : 0 < s) {z : BitVec 64} (h : z ^^^ (z >>> s) = 0#64) : z = 0#64 := by
  have hb : ∀ i, z.getLsbD i = z.getLsbD (s + i) := by
    intro i
    have := congrArg (fun x => x.getLsbD i) h
    simp only [BitVec.getLsbD_xor, BitVec.getLsbD_ushiftRight, BitVec.getLsbD_zero] at this
    generalize z.getLsbD i = p at this
    generalize z.getLsbD (s + i) = q at this
    cases p <;> cases q <;> simp at this ⊢
  have hz : ∀ d i, 64 ≤ i + d → z.getLsbD i = false := by
    intro d
    induction d with
    | zero => intro i hi; exact BitVec.getLsbD_of_ge _ _ (by omega)
    | succ d ih => intro i hi; rw [hb]; exact ih _ (by omega)
  apply BitVec.eq_of_getLsbD_eq
  intro i _
  rw [hz 64 i (by omega), BitVec.getLsbD_zero]
theorem xs_inj (s : Nat) (hs : 0 < s) {x y : BitVec 64} (h : x ^^^ (x >>> s) = y ^^^ (y >>> s)) : x = y := by
  have h1 : (x ^^^ y) ^^^ ((x ^^^ y) >>> s) = 0#64 := by
    rw [BitVec.ushiftRight_xor_distrib]
    have : x ^^^ y ^^^ (x >>> s ^^^ y >>> s) = (x ^^^ x >>> s) ^^^ (y ^^^ y >>> s) := by ac_rfl
    rw [this, h, BitVec.xor_self]
  have h2 := xs_zero s hs h1
  have h3 := congrArg (fun z => z ^^^ y) h2
  simpa [BitVec.xor_assoc] using h3
theorem mul_inj (c d : BitVec 64) (hc : c * d = 1#64) {x y : BitVec 64} (h : x * c = y * c) : x = y := by
  have := congrArg (fun z => z * d) h
  simpa [BitVec.mul_assoc, hc] using this
theorem mix_inj {x y : BitVec 64} (h : mix x = mix y) : x = y := by
  have h1 := xs_inj 31 (by decide) h
  have h2 := mul_inj 0x94d049bb133111eb#64 0x319642b2d24d8ec3#64 (by decide) h1
  have h3 := xs_inj 27 (by decide) h2
  have h4 := mul_inj 0xbf58476d1ce4e5b9#64 0x96de1b173f119089#64 (by decide) h3
  exact xs_inj 30 (by decide) h4
theorem xor_cancel {a b c : BitVec 64} (h : a ^^^ c = b ^^^ c) : a = b := by
  have := congrArg (fun z => z ^^^ c) h
  simpa [BitVec.xor_assoc] using this
theorem add_cancel {a b c : BitVec 64} (h : a + c = b + c) : a = b := by
  have := congrArg (fun z => z - c) h
  simpa using this
theorem hashTo_inj (l : List UInt8) (k : Nat) {h h' : BitVec 64} (e : hashTo h l k = hashTo h' l k) : h = h' := by
  induction k with
  | zero => exact e
  | succ k ih => exact ih (xor_cancel (add_cancel (mix_inj e)))
/-- Different seeds. -/
theorem hash_seed (seed n : BitVec 64) (l : List UInt8) (h : hash (seed ^^^ n) l = hash seed l) : n = 0#64 := by
  have h1 := hashTo_inj l _ (mix_inj h)
  unfold hash0 at h1
  have h2 := xor_cancel h1
  have := congrArg (fun z => z ^^^ seed) h2
  have e : (seed ^^^ n) ^^^ seed = n := by
    rw [BitVec.xor_comm seed n, BitVec.xor_assoc, BitVec.xor_self, BitVec.xor_zero]
  simpa [e] using this
theorem hashTo_congr (h : BitVec 64) (l m : List UInt8) (k : Nat) (hg : ∀ j, j < k → grp ((l.drop (8 * j)).take 8) = grp ((m.drop (8 * j)).take 8)) : hashTo h l k = hashTo h m k := by
  induction k with
  | zero => rfl
  | succ k ih => rw [hashTo, hashTo, ih (fun j hj => hg j (by omega)), hg k (by omega)]
/-- With and without a zero byte behind. -/
theorem hash_longer (seed : BitVec 64) (l : List UInt8) (h8 : l.length % 8 ≠ 0) : hash seed (l ++ [0]) ≠ hash seed l := by
  intro h
  have hk : ((l ++ [0]).length + 7) / 8 = (l.length + 7) / 8 := by rw [List.length_append, List.length_singleton]; omega
  unfold hash at h
  rw [hk] at h
  have h1 := mix_inj h
  have hg : hashTo (hash0 seed (l ++ [0])) (l ++ [0]) ((l.length + 7) / 8) = hashTo (hash0 seed (l ++ [0])) l ((l.length + 7) / 8) := by
    apply hashTo_congr
    intro j hj
    rw [List.drop_append_of_le_length (by omega)]
    by_cases hj8 : 8 * j + 8 ≤ l.length
    · rw [List.take_append_of_le_length (by rw [List.length_drop]; omega)]
    · rw [List.take_of_length_le (by rw [List.length_append, List.length_drop, List.length_singleton]; omega), List.take_of_length_le (by rw [List.length_drop]; omega), grp_snoc]
      simp
  rw [hg] at h1
  have h2 := hashTo_inj l _ h1
  unfold hash0 at h2
  have h3 : BitVec.ofNat 64 (l ++ [0]).length * golden = BitVec.ofNat 64 l.length * golden := by
    rw [BitVec.xor_comm seed, BitVec.xor_comm seed] at h2
    exact xor_cancel h2
  have h4 := mul_inj golden 0xf1de83e19937733d#64 (by decide) h3
  have h5 := congrArg BitVec.toNat h4
  rw [BitVec.toNat_ofNat, BitVec.toNat_ofNat, List.length_append, List.length_singleton] at h5
  omega
theorem num_lt (l : List UInt8) : num l < 2 ^ (8 * l.length) := by
  induction l with
  | nil => simp [num]
  | cons x l ih =>
    have := x.toNat_lt
    have e : 2 ^ (8 * (x :: l).length) = 2 ^ 8 * 2 ^ (8 * l.length) := by rw [← Nat.pow_add, List.length_cons]; congr 1; omega
    rw [e, num]
    omega
theorem num_inj (l : List UInt8) : ∀ m : List UInt8, l.length = m.length → num l = num m → l = m := by
  induction l with
  | nil => intro m h _; exact (List.eq_nil_of_length_eq_zero (by simpa using h.symm)).symm
  | cons x l ih =>
    intro m h hn
    cases m with
    | nil => simp at h
    | cons y m =>
      have hx := x.toNat_lt
      have hy := y.toNat_lt
      rw [num, num] at hn
      have e1 : x.toNat = y.toNat := by omega
      have e2 : num l = num m := by omega
      rw [ih m (by simpa using h) e2, UInt8.toNat_inj.1 e1]
theorem grp_num (l : List UInt8) (h : l.length ≤ 8) : (grp l).toNat = num l := by
  induction l with
  | nil => rfl
  | cons x l ih =>
    have hl : l.length ≤ 7 := by simpa using h
    have hn : num l < 2 ^ 56 := Nat.lt_of_lt_of_le (num_lt l) (Nat.pow_le_pow_right (by decide) (by omega))
    have hx := x.toNat_lt
    rw [grp_horner, BitVec.toNat_add, BitVec.toNat_mul, ih (by omega), BitVec.toNat_setWidth, num]
    show (num l * 256 % 2 ^ 64 + x.toNat % 2 ^ 64) % 2 ^ 64 = _
    omega
theorem grp_inj (l m : List UInt8) (hl : l.length = m.length) (h8 : l.length ≤ 8) (h : grp l = grp m) : l = m := by
  apply num_inj l m hl
  rw [← grp_num l h8, ← grp_num m (by omega), h]

/-- One group changed. -/
theorem hash_group (seed : BitVec 64) (l m : List UInt8) (g : Nat) (hl : m.length = l.length) (hg : 8 * g < l.length) (hsame : ∀ j, j ≠ g → (m.drop (8 * j)).take 8 = (l.drop (8 * j)).take 8) :
    hash seed m = hash seed l ↔ (m.drop (8 * g)).take 8 = (l.drop (8 * g)).take 8 := by
  have key : ∀ k, hashTo (hash0 seed l) m k = hashTo (hash0 seed l) l k ↔ (g < k → grp ((m.drop (8 * g)).take 8) = grp ((l.drop (8 * g)).take 8)) := by
    intro k
    induction k with
    | zero => simp [hashTo]
    | succ k ih =>
      rw [hashTo, hashTo]
      by_cases hk : k = g
      · subst hk
        have hlt : hashTo (hash0 seed l) m k = hashTo (hash0 seed l) l k := ih.2 (fun h => absurd h (Nat.lt_irrefl _))
        rw [hlt]
        constructor
        · intro h _
          have := add_cancel (mix_inj h)
          rw [BitVec.xor_comm, BitVec.xor_comm (hashTo (hash0 seed l) l k)] at this
          exact xor_cancel this
        · intro h
          rw [h (by omega)]
      · rw [hsame k hk]
        constructor
        · intro h hgk
          exact ih.1 (xor_cancel (add_cancel (mix_inj h))) (by omega)
        · intro h
          rw [ih.2 (fun hgk => h (by omega))]
  have e0 : hash0 seed m = hash0 seed l := by unfold hash0; rw [hl]
  unfold hash
  rw [e0, hl]
  constructor
  · intro h
    have h1 := (key _).1 (mix_inj h) (by omega)
    refine grp_inj _ _ ?_ (List.length_take_le _ _) h1
    rw [List.length_take, List.length_take, List.length_drop, List.length_drop, hl]
  · intro h
    rw [(key ((l.length + 7) / 8)).2 (fun _ => by rw [h])]

/-- A byte of a word. -/
def byteOf (n : BitVec 64) (j : Nat) : UInt8 := UInt8.ofNat (n.toNat / 2 ^ (8 * j))
/-- The bytes from a place on, combined with those of a word, up to a number of them. -/
def xorTo (l : List UInt8) (first : Nat) (n : BitVec 64) : Nat → List UInt8
  | 0 => l
  | k + 1 => (xorTo l first n k).set (first + k) ((xorTo l first n k).getD (first + k) 0 ^^^ byteOf n k)
def anyTo (n : BitVec 64) : Nat → Bool
  | 0 => false
  | k + 1 => anyTo n k || byteOf n k != 0
theorem xorTo_length (l : List UInt8) (first : Nat) (n : BitVec 64) (k : Nat) : (xorTo l first n k).length = l.length := by
  induction k with
  | zero => rfl
  | succ k ih => rw [xorTo, List.length_set, ih]
theorem xorTo_get (l : List UInt8) (first : Nat) (n : BitVec 64) (k i : Nat) : (xorTo l first n k)[i]? = if first ≤ i ∧ i < first + k then l[i]?.map (· ^^^ byteOf n (i - first)) else l[i]? := by
  induction k with
  | zero => rw [xorTo, if_neg (by omega)]
  | succ k ih =>
    rw [xorTo, List.getElem?_set]
    by_cases e : first + k = i
    · subst e
      rw [if_pos rfl, xorTo_length, if_pos (show first ≤ first + k ∧ first + k < first + (k + 1) by omega)]
      by_cases hl : first + k < l.length
      · rw [if_pos hl, List.getD_eq_getElem?_getD, ih, if_neg (by omega), List.getElem?_eq_getElem hl]
        simp
      · rw [if_neg hl, List.getElem?_eq_none (by omega)]; rfl
    · rw [if_neg e, ih]
      by_cases h : first ≤ i ∧ i < first + k
      · rw [if_pos h, if_pos (by omega)]
      · rw [if_neg h, if_neg (by omega)]
theorem xor_self_iff (a c : UInt8) : a ^^^ c = a ↔ c = 0 := by
  constructor
  · intro h
    have := congrArg (fun x => a ^^^ x) h
    simpa [← UInt8.xor_assoc] using this
  · intro h; subst h; simp
theorem anyTo_iff (n : BitVec 64) (k : Nat) : anyTo n k = true ↔ ∃ j, j < k ∧ byteOf n j ≠ 0 := by
  induction k with
  | zero => simp [anyTo]
  | succ k ih =>
    rw [anyTo, Bool.or_eq_true, ih]
    constructor
    · rintro (⟨j, hj, h⟩ | h)
      · exact ⟨j, by omega, h⟩
      · exact ⟨k, by omega, by simpa using h⟩
    · rintro ⟨j, hj, h⟩
      by_cases e : j = k
      · subst e; right; simpa using h
      · left; exact ⟨j, by omega, h⟩
theorem xorTo_same (l : List UInt8) (first : Nat) (n : BitVec 64) (k : Nat) (hk : first + k ≤ l.length) : xorTo l first n k = l ↔ anyTo n k = false := by
  rw [← Bool.not_eq_true, anyTo_iff]
  constructor
  · rintro h ⟨j, hj, hne⟩
    have := congrArg (fun x => x[first + j]?) h
    simp only [xorTo_get] at this
    rw [if_pos (by omega), List.getElem?_eq_getElem (by omega)] at this
    simp at this
    exact hne ((xor_self_iff _ _).1 this)
  · intro h
    apply List.ext_getElem?
    intro i
    rw [xorTo_get]
    split
    · rename_i hi
      have : byteOf n (i - first) = 0 := by
        apply Classical.byContradiction
        intro hne
        exact h ⟨i - first, by omega, hne⟩
      rw [this]
      cases l[i]? <;> simp
    · rfl
/-- Changing one group changes the hash exactly if a byte is changed. -/
theorem hash_xorTo (seed : BitVec 64) (l : List UInt8) (g k : Nat) (n : BitVec 64) (hk : 8 * g + k ≤ l.length) (h8 : k ≤ 8) (hg : 8 * g < l.length) : hash seed (xorTo l (8 * g) n k) = hash seed l ↔ anyTo n k = false := by
  have hout : ∀ j, j ≠ g → ((xorTo l (8 * g) n k).drop (8 * j)).take 8 = (l.drop (8 * j)).take 8 := by
    intro j hj
    apply List.ext_getElem?
    intro i
    rw [List.getElem?_take, List.getElem?_take]
    split
    · rw [List.getElem?_drop, List.getElem?_drop, xorTo_get, if_neg (by omega)]
    · rfl
  rw [hash_group seed l _ g (xorTo_length _ _ _ _) hg hout, ← xorTo_same l (8 * g) n k hk]
  constructor
  · intro h
    apply List.ext_getElem?
    intro i
    by_cases hi : 8 * g ≤ i ∧ i < 8 * g + k
    · have := congrArg (fun x => x[i - 8 * g]?) h
      simp only [List.getElem?_take, List.getElem?_drop] at this
      rw [if_pos (by omega), if_pos (by omega), show 8 * g + (i - 8 * g) = i from by omega] at this
      exact this
    · rw [xorTo_get, if_neg hi]
  · intro h; rw [h]

end Go.Proofs.Ytmjanlgcindfpaa.Crc
