/- Plain mathematics of the checksum: it is linear. No program in sight. -/
import Derived.Test.YtmjanlgcindfpaaFeed
namespace Go.Proofs.Ytmjanlgcindfpaa.Crc

/-- Byte strings combined, byte by byte. -/
def xorl (l m : List UInt8) : List UInt8 := List.zipWith (fun x y => x ^^^ y) l m
theorem step_xor (r s : BitVec 32) (x y : UInt8) : step (r ^^^ s) (x ^^^ y) = step r x ^^^ step s y := by
  rw [step_feed, step_feed, step_feed, UInt8.toNat_xor, feed_xor]
theorem run_xor (l : List UInt8) : ∀ (m : List UInt8) (r s : BitVec 32), l.length = m.length → run (r ^^^ s) (xorl l m) = run r l ^^^ run s m := by
  induction l with
  | nil =>
    intro m r s h
    have : m = [] := List.eq_nil_of_length_eq_zero (by simpa using h.symm)
    subst this
    rfl
  | cons x l ih =>
    intro m r s h
    cases m with
    | nil => simp at h
    | cons y m =>
      show run (step (r ^^^ s) (x ^^^ y)) (xorl l m) = _
      rw [step_xor, ih m _ _ (by simpa using h)]; rfl
theorem xorl_length (l m : List UInt8) (h : l.length = m.length) : (xorl l m).length = l.length := by
  unfold xorl; rw [List.length_zipWith]; omega
/-- The checksum of three byte strings combined is the combination of their checksums. -/
theorem ext_xor3 (a b c : List UInt8) (h1 : a.length = b.length) (h2 : a.length = c.length) : ext 0#32 (xorl (xorl a b) c) = ext 0#32 a ^^^ ext 0#32 b ^^^ ext 0#32 c := by
  unfold ext
  have e : (~~~0#32 : BitVec 32) = ((~~~0#32) ^^^ (~~~0#32)) ^^^ (~~~0#32) := by decide
  have h := run_xor (xorl a b) c ((~~~0#32) ^^^ (~~~0#32)) (~~~0#32) (by rw [xorl_length _ _ h1, h2])
  rw [run_xor a b _ _ h1, ← e] at h
  rw [h]
  generalize run (~~~0#32) a = x
  generalize run (~~~0#32) b = y
  generalize run (~~~0#32) c = z
  apply BitVec.eq_of_getLsbD_eq
  intro i hi
  simp [hi]
theorem xorl_get (l m : List UInt8) (k : Nat) (h1 : k < l.length) (h2 : k < m.length) : (xorl l m)[k]? = some (l[k] ^^^ m[k]) := by
  unfold xorl
  rw [List.getElem?_zipWith, List.getElem?_eq_getElem h1, List.getElem?_eq_getElem h2]

theorem xor3_get (l l2 l3 : List UInt8) (n k : Nat) (h1 : n ≤ l.length) (h2 : n ≤ l2.length) (h3 : n ≤ l3.length) (hk : k < n) :
    (xorl (xorl (l.take n) (l2.take n)) (l3.take n))[k]? = some (l[k] ^^^ l2[k] ^^^ l3[k]) := by
  unfold xorl
  simp only [List.getElem?_zipWith, List.getElem?_take, if_pos hk]
  rw [List.getElem?_eq_getElem (show k < l.length by omega), List.getElem?_eq_getElem (show k < l2.length by omega), List.getElem?_eq_getElem (show k < l3.length by omega)]

end Go.Proofs.Ytmjanlgcindfpaa.Crc
