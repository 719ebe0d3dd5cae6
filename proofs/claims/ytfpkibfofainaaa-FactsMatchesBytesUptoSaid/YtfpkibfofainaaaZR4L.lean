/- The specification of reading an unsigned integer: the plain law. -/
import Derived.Test.YtfpkibfofainaaaZGC
namespace Go.Proofs.Ytfpkibfofainaaa.Wire

/-- The first of f bytes that ends an encoding. -/
def fst128 : List UInt8 → Nat → Option Nat
  | [], _ => none
  | _ :: _, 0 => none
  | c :: t, f + 1 => if c.toNat < 128 then some 0 else (fst128 t f).map (· + 1)
def horner : List UInt8 → Nat
  | [] => 0
  | c :: t => c.toNat % 128 + 128 * horner t
theorem decU_fst : ∀ (f i acc : Nat) (t : List UInt8), f + i = 10 → decU f i acc t = match fst128 t f with
    | none => if t.length < f then .error 41 else .error 3
    | some j => if (i + j = 9 ∧ 1 < (t.getD j 0).toNat) ∨ (0 < i + j ∧ (t.getD j 0).toNat = 0) then .error 3 else .ok (acc + horner (t.take (j + 1)) * 2 ^ (7 * i), i + j + 1)
  | 0, i, acc, [], _ => by simp [decU, fst128]
  | 0, i, acc, c :: t, _ => by simp [decU, fst128]
  | f + 1, i, acc, [], _ => by simp [decU, fst128]
  | f + 1, i, acc, c :: t, h => by
    unfold decU fst128
    by_cases hc : c.toNat < 128
    · rw [if_pos hc, if_pos hc]
      simp only [Nat.add_zero, List.getD_cons_zero, List.take_succ_cons, List.take_zero, horner, Nat.mul_zero]
    · rw [if_neg hc, if_neg hc, decU_fst f (i + 1) _ t (by omega)]
      cases hq : fst128 t f with
      | none =>
        simp only [Option.map_none, List.length_cons]
        by_cases h2 : t.length < f
        · rw [if_pos h2, if_pos (by omega)]
        · rw [if_neg h2, if_neg (by omega)]
      | some j =>
        simp only [Option.map_some, List.getD_cons_succ, List.take_succ_cons, horner]
        have e : i + 1 + j = i + (j + 1) := by omega
        rw [e, pow7]
        have e2 : acc + c.toNat % 128 * 2 ^ (7 * i) + horner (List.take (j + 1) t) * (128 * 2 ^ (7 * i)) = acc + (c.toNat % 128 + 128 * horner (List.take (j + 1) t)) * 2 ^ (7 * i) := by
          rw [Nat.add_assoc, Nat.add_mul, ← Nat.mul_assoc, Nat.mul_comm (horner _) 128]
        rw [e2]
theorem dec_fst (t : List UInt8) : dec t = match fst128 t 10 with
    | none => if t.length < 10 then .error 41 else .error 3
    | some j => if (j = 9 ∧ 1 < (t.getD j 0).toNat) ∨ (0 < j ∧ (t.getD j 0).toNat = 0) then .error 3 else .ok (horner (t.take (j + 1)), j + 1) := by
  have := decU_fst 10 0 0 t rfl
  unfold dec
  rw [this]
  cases fst128 t 10 <;> simp
theorem fst128_min : ∀ (f : Nat) (t : List UInt8), fst128 t (min t.length f) = fst128 t f
  | f, [] => by simp [fst128]
  | 0, c :: t => by simp
  | f + 1, c :: t => by
    have e : min (c :: t).length (f + 1) = min t.length f + 1 := by simp only [List.length_cons]; omega
    rw [e]
    unfold fst128
    rw [fst128_min f t]
theorem fst128_lt : ∀ {f : Nat} {t : List UInt8} {j : Nat}, fst128 t f = some j → j < f ∧ j < t.length
  | f, [], j, h => by simp [fst128] at h
  | 0, c :: t, j, h => by simp [fst128] at h
  | f + 1, c :: t, j, h => by
    unfold fst128 at h
    split at h
    · cases h; simp
    · cases hq : fst128 t f with
      | none => rw [hq] at h; cases h
      | some q =>
        rw [hq] at h
        cases h
        have := fst128_lt hq
        simp only [List.length_cons]
        omega
/-- What the loop from above holds. -/
def lastOf (t : List UInt8) (m k : Nat) : Int := match fst128 (t.drop k) (m - k) with
  | none => -1
  | some j => (k : Int) + j
theorem lastOf_end (t : List UInt8) (m : Nat) : lastOf t m m = -1 := by
  unfold lastOf
  rw [Nat.sub_self]
  cases t.drop m <;> rfl
theorem fst128_cons (c : UInt8) (t : List UInt8) (f : Nat) : fst128 (c :: t) (f + 1) = if c.toNat < 128 then some 0 else (fst128 t f).map (· + 1) := rfl
theorem lastOf_step {t : List UInt8} {m k : Nat} (hk : k < m) (hm : m ≤ t.length) : lastOf t m k = if (t[k]'(by omega)).toNat < 128 then (k : Int) else lastOf t m (k + 1) := by
  unfold lastOf
  rw [List.drop_eq_getElem_cons (by omega), show m - k = m - (k + 1) + 1 by omega, fst128_cons]
  by_cases h : (t[k]'(by omega)).toNat < 128
  · rw [if_pos h, if_pos h]; simp
  · rw [if_neg h, if_neg h]
    cases hq : fst128 (t.drop (k + 1)) (m - (k + 1)) with
    | none => simp
    | some j => simp only [Option.map_some]; push_cast; omega
theorem horner_step (l : List UInt8) (k : Nat) (h : k < l.length) : horner (l.drop k) = horner (l.drop (k + 1)) * 128 + l[k].toNat % 128 := by
  rw [List.drop_eq_getElem_cons h, horner]
  omega
theorem horner_le : ∀ (l : List UInt8) (k : Nat), horner (l.drop k) ≤ horner l
  | [], k => by simp
  | c :: t, 0 => Nat.le_refl _
  | c :: t, k + 1 => by
    have := horner_le t k
    simp only [List.drop_succ_cons, horner]
    omega
end Go.Proofs.Ytfpkibfofainaaa.Wire
