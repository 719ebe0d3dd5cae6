/- Plain mathematics of the checksum: the table's entry, the step by a byte, the checksum of a list of bytes, over bit vectors. No program in sight. -/
import Derived.Below
namespace Go.Proofs.Ytblfpkhgnfjbbaa.Crc

/-- One of the eight rounds. -/
def rnd (r : BitVec 32) : BitVec 32 := if r &&& 1#32 = 1#32 then (r >>> 1) ^^^ 0xedb88320#32 else r >>> 1
/-- So many rounds. -/
def rnds : Nat → BitVec 32 → BitVec 32
  | 0, r => r
  | n + 1, r => rnd (rnds n r)
/-- The entry of the table. -/
def tab (i : Nat) : BitVec 32 := rnds 8 (BitVec.ofNat 32 i)

/-- The table as the machine holds it. -/
def tabVals : Array Value := Array.ofFn fun i : Fin 256 => Value.int .u32 ((tab i.val).toNat : Int)

/-- The step by a byte, with the table. -/
def step (r : BitVec 32) (x : UInt8) : BitVec 32 := (r >>> 8) ^^^ tab ((r.setWidth 8) ^^^ x.toBitVec).toNat
/-- The state after a list of bytes. -/
def run (r : BitVec 32) (l : List UInt8) : BitVec 32 := l.foldl step r
/-- The checksum of bytes with a checksum, followed by l. -/
def ext (s : BitVec 32) (l : List UInt8) : BitVec 32 := ~~~(run (~~~s) l)

def golden : BitVec 64 := 0x9e3779b97f4a7c15#64
/-- The mixing of a word. -/
def mix (x : BitVec 64) : BitVec 64 :=
  let a := (x ^^^ (x >>> 30)) * 0xbf58476d1ce4e5b9#64
  let b := (a ^^^ (a >>> 27)) * 0x94d049bb133111eb#64
  b ^^^ (b >>> 31)
/-- The word of a group: the first byte is the lowest. -/
def grp : List UInt8 → BitVec 64
  | [] => 0#64
  | x :: l => (x.toBitVec.setWidth 64) ||| (grp l <<< 8)
/-- The state after so many groups. -/
def hashTo (h : BitVec 64) (l : List UInt8) : Nat → BitVec 64
  | 0 => h
  | k + 1 => mix ((hashTo h l k ^^^ grp ((l.drop (8 * k)).take 8)) + golden)
def hash0 (seed : BitVec 64) (l : List UInt8) : BitVec 64 := seed ^^^ (BitVec.ofNat 64 l.length * golden)
def hash (seed : BitVec 64) (l : List UInt8) : BitVec 64 := mix (hashTo (hash0 seed l) l ((l.length + 7) / 8))

theorem grp_snoc (l : List UInt8) (x : UInt8) : grp (l ++ [x]) = grp l ||| ((x.toBitVec.setWidth 64) <<< (8 * l.length)) := by
  induction l with
  | nil => simp [grp]
  | cons y l ih =>
    simp only [List.cons_append, grp, ih, List.length_cons, BitVec.shiftLeft_or_distrib, Nat.mul_add]
    rw [← BitVec.or_assoc, ← BitVec.shiftLeft_add]

/-! Linearity of the rounds. -/
def poly : BitVec 32 := 0xedb88320#32
theorem low_iff (r : BitVec 32) : (r &&& 1#32 = 1#32) ↔ r.getLsbD 0 = true := by
  constructor
  · intro h
    have := congrArg (fun x => x.getLsbD 0) h
    simpa using this
  · intro h
    apply BitVec.eq_of_getLsbD_eq
    intro i hi
    by_cases e : i = 0
    · subst e; simp [h]
    · simp [e, BitVec.getLsbD_one]
theorem rnd_eq (r : BitVec 32) : rnd r = (r >>> 1) ^^^ (if r.getLsbD 0 then poly else 0#32) := by
  unfold rnd
  by_cases h : r.getLsbD 0 = true
  · rw [if_pos ((low_iff r).2 h), if_pos h]; rfl
  · rw [if_neg (fun e => h ((low_iff r).1 e)), if_neg h]; simp
theorem rnd_xor (a b : BitVec 32) : rnd (a ^^^ b) = rnd a ^^^ rnd b := by
  simp only [rnd_eq, BitVec.getLsbD_xor, BitVec.ushiftRight_xor_distrib]
  cases a.getLsbD 0 <;> cases b.getLsbD 0 <;> simp
  · rw [← BitVec.xor_assoc]
  · rw [BitVec.xor_assoc, BitVec.xor_assoc, BitVec.xor_comm poly]
  · rw [BitVec.xor_assoc, ← BitVec.xor_assoc poly, BitVec.xor_comm poly, BitVec.xor_assoc, BitVec.xor_self, BitVec.xor_zero]
theorem rnds_xor (n : Nat) (a b : BitVec 32) : rnds n (a ^^^ b) = rnds n a ^^^ rnds n b := by
  induction n with
  | zero => rfl
  | succ n ih => rw [rnds, rnds, rnds, ih, rnd_xor]
theorem rnds_high (n : Nat) (r : BitVec 32) (h : ∀ i, i < n → r.getLsbD i = false) : rnds n r = r >>> n := by
  induction n with
  | zero => simp [rnds]
  | succ n ih =>
    rw [rnds, ih (fun i hi => h i (by omega)), rnd_eq]
    have : (r >>> n).getLsbD 0 = false := by rw [BitVec.getLsbD_ushiftRight]; exact h n (by omega)
    rw [this]
    simp [BitVec.shiftRight_add]
/-- The step by a byte is eight rounds of the word with the byte laid on it. -/
theorem step_rnds (r : BitVec 32) (x : UInt8) : rnds 8 (r ^^^ x.toBitVec.setWidth 32) = step r x := by
  have hsplit : r ^^^ x.toBitVec.setWidth 32 = ((r >>> 8) <<< 8) ^^^ (((r.setWidth 8) ^^^ x.toBitVec).setWidth 32) := by
    apply BitVec.eq_of_getLsbD_eq
    intro i hi
    simp only [BitVec.getLsbD_xor, BitVec.getLsbD_setWidth, BitVec.getLsbD_shiftLeft, BitVec.getLsbD_ushiftRight]
    by_cases h8 : i < 8
    · simp [h8, hi]
    · have hx : x.toBitVec.getLsbD i = false := BitVec.getLsbD_of_ge _ _ (by omega)
      have : 8 + (i - 8) = i := by omega
      simp [h8, hi, hx, this]
  rw [hsplit, rnds_xor, rnds_high]
  · unfold step tab
    congr 1
    · apply BitVec.eq_of_getLsbD_eq
      intro i hi
      simp only [BitVec.getLsbD_ushiftRight, BitVec.getLsbD_shiftLeft]
      by_cases h : 8 + i < 32
      · simp [h]
      · have : r.getLsbD (8 + i) = false := BitVec.getLsbD_of_ge _ _ (by omega)
        simp [h, this]
    · congr 1
      apply BitVec.eq_of_toNat_eq
      rw [BitVec.toNat_setWidth, BitVec.toNat_ofNat]
  · intro i hi
    simp [hi]

/-- A group, by Horner's rule. -/
theorem grp_horner (x : UInt8) (l : List UInt8) : grp (x :: l) = grp l * 256#64 + x.toBitVec.setWidth 64 := by
  have h1 : grp l * 256#64 = grp l <<< 8 := by
    have : (256#64 : BitVec 64) = 1#64 <<< 8 := by decide
    rw [this, BitVec.mul_comm, BitVec.shiftLeft_eq_mul_twoPow (grp l), BitVec.mul_comm]; congr 1
  rw [h1, grp, BitVec.or_comm]
  refine (BitVec.add_eq_or_of_and_eq_zero _ _ ?_).symm
  apply BitVec.eq_of_getLsbD_eq
  intro i hi
  simp only [BitVec.getLsbD_and, BitVec.getLsbD_shiftLeft, BitVec.getLsbD_setWidth, BitVec.getLsbD_zero]
  by_cases h8 : i < 8
  · simp [h8]
  · have hx : x.toBitVec.getLsbD i = false := BitVec.getLsbD_of_ge _ _ (by omega)
    simp [hx]

theorem run_append (r : BitVec 32) (a b : List UInt8) : run r (a ++ b) = run (run r a) b := List.foldl_append
/-- The checksum of a followed by b is that of a, extended by b. -/
theorem ext_append (s : BitVec 32) (a b : List UInt8) : ext (ext s a) b = ext s (a ++ b) := by
  unfold ext; rw [BitVec.not_not, run_append]

end Go.Proofs.Ytblfpkhgnfjbbaa.Crc
