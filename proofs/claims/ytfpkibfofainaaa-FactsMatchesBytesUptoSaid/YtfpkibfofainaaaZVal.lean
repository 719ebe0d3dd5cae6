/- Values: what a value is, what is checked, the encoding: plain. -/
import Derived.Test.YtfpkibfofainaaaZGC
import Derived.Test.YtfpkibfofainaaaProg
namespace Go.Proofs.Ytfpkibfofainaaa
open Go

/-- A value: its kind, its number, its letters. -/
structure Vl where
  k : Int
  n : Int
  s : ByteArray
theorem vl_eq (a b : Vl) : a = b ↔ a.k = b.k ∧ a.n = b.n ∧ a.s = b.s := by
  cases a; cases b; simp
instance : DecidableEq Vl := fun a b => decidable_of_iff (a.k = b.k ∧ a.n = b.n ∧ a.s = b.s) (vl_eq a b).symm
instance : Inhabited Vl := ⟨⟨0, 0, ⟨#[]⟩⟩⟩
@[reducible] def Vl.cells (v : Vl) : List Value := [.int .i64 v.k, .int .i64 v.n, .string v.s]
@[reducible] def Vl.val (v : Vl) : Value := .agg #[.int .i64 v.k, .int .i64 v.n, .string v.s]
def okByte (low : Nat) (c : UInt8) : Bool := decide (low ≤ c.toNat) && decide (c.toNat ≤ 126) && decide (c.toNat ≠ 34) && decide (c.toNat ≠ 92)
def okStr (low : Nat) (l : List UInt8) : Bool := l.all (okByte low)
def Vl.check (v : Vl) : Int :=
  if v.k < 0 ∨ 5 < v.k then 1
  else if v.k = 0 then (if v.s.size = 0 ∧ v.n = 0 then 0 else 1)
  else if v.k = 1 then (if v.s.size = 0 ∧ (v.n = 0 ∨ v.n = 1) then 0 else 1)
  else if v.k = 2 ∨ v.k = 3 then (if v.s.size ≠ 0 then 1 else if v.n < -1152921504606846976 ∨ 1152921504606846976 < v.n then 2 else 0)
  else if v.n ≠ 0 then 1
  else if (if v.k = 5 then 32 else 64) < v.s.size then 2
  else if v.k = 5 ∧ v.s.size = 0 then 3
  else if okStr (if v.k = 5 then 33 else 32) v.s.data.toList then 0 else 3
def Vl.has (v : Vl) (k : Int) : Bool := decide (v.check = 0) && (decide (v.k = 0) || decide (v.k = k))
end Go.Proofs.Ytfpkibfofainaaa
