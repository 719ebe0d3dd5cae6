/- Readings of memory: a slice of bytes that reads as a list; what is below a bound stays. Over whatever program. -/
import Derived.WalkKit
import Derived.WalkSpells
import Derived.WalkLawsBesides
import Derived.Lib.Hide
namespace Go.Proofs.Ytihohhjaomoemaa
open Go.RowKit

/-- A slice value that reads, in a world, as n elements of sz cells each: the cells are xs. -/
def IsRow (sz : Nat) (w : World) (v : Value) (n : Nat) (xs : List Value) : Prop :=
  ∃ base cap, v = .slice base n cap ∧ xs.length = n * sz ∧ n ≤ cap ∧ cap ≤ maxLen ∧ (base = none → cap = 0) ∧
    ∀ i (h : i < xs.length), ∃ b off, base = some ⟨b, off, none⟩ ∧ w.cell? ⟨b, off + i, none⟩ = some xs[i]

theorem IsRow.below {sz n B : Nat} {w w' : World} {v : Value} {xs : List Value} (h : IsRow sz w v n xs) (hb : Below B w w') (hB : B = w.heap.size) : IsRow sz w' v n xs := by
  obtain ⟨base, cap, hv, hx, hl, hm, hn, hc⟩ := h
  refine ⟨base, cap, hv, hx, hl, hm, hn, fun i hi => ?_⟩
  obtain ⟨b, off, e, hcell⟩ := hc i hi
  exact ⟨b, off, e, by rw [hb.cell (hB ▸ block_lt_of_cell hcell)]; exact hcell⟩

theorem IsRow.nil (sz : Nat) (w : World) : IsRow sz w (.slice none 0 0) 0 [] := ⟨none, 0, rfl, by simp, Nat.le_refl _, by simp [maxLen], fun _ => rfl, fun i h => by simp at h⟩

/-- A part of a row: what a slice expression within the length reads. -/
theorem IsRow.part {sz : Nat} {w : World} {base : Option Addr} {n cap : Nat} {xs : List Value} (h : IsRow sz w (.slice base n cap) n xs) (lo hi m : Nat) (hlo : lo ≤ hi) (hhi : hi ≤ n) (hm : hi ≤ m) (hmc : m ≤ cap) :
    IsRow sz w (.slice (if m = lo then base else base.map (·.add (lo * sz))) (hi - lo) (m - lo)) (hi - lo) ((xs.take (hi * sz)).drop (lo * sz)) := by
  obtain ⟨base', cap', hv, hx, hl, hm', hn, hc⟩ := h
  simp only [Value.slice.injEq, true_and] at hv
  obtain ⟨rfl, rfl⟩ := hv
  have hmul : hi * sz ≤ n * sz := Nat.mul_le_mul_right _ hhi
  have hmul2 : lo * sz ≤ hi * sz := Nat.mul_le_mul_right _ hlo
  refine ⟨_, _, rfl, ?_, by omega, by omega, ?_, fun i hi' => ?_⟩
  · rw [List.length_drop, List.length_take, Nat.sub_mul]; omega
  · intro hb
    by_cases e : m = lo
    · omega
    · rw [if_neg e] at hb
      cases base with
      | none => have := hn rfl; omega
      | some x => simp at hb
  · rw [List.length_drop, List.length_take] at hi'
    obtain ⟨b, off, e, hcell⟩ := hc (lo * sz + i) (by omega)
    have hne : ¬ m = lo := by
      intro e; subst e
      have : hi = m := by omega
      subst this; omega
    rw [if_neg hne, e]
    refine ⟨b, off + lo * sz, ?_, ?_⟩
    · simp only [Option.map_some, Addr.add_lit]
    · rw [Nat.add_assoc, hcell]
      simp

theorem run_slice_row {P : Program} {t e sz : Nat} (ht : P.underlying t = some (.slice e)) (hsz : (P.info? e).map (·.size) = some sz) (w : World) (base : Option Addr) (n cap : Nat) (k k' : IntKind) (lo hi : Nat) (hlo : lo ≤ hi) (hhi : hi ≤ cap) :
    (Instr.slice t (.slice base n cap) (some (.int k lo)) (some (.int k' hi)) none).run P w = .ok (.slice (if cap = lo then base else base.map (·.add (lo * sz))) (hi - lo) (cap - lo)) w := by
  cases hq : P.info? e with
  | none => simp [hq] at hsz
  | some i =>
    have hs : i.size = sz := by simpa [hq] using hsz
    simp [Instr.slice, run_underlying ht, Instr.sliceBounds, run_sliceBound, sizeOf, typeInfo, hq, hs, hlo, hhi]
theorem run_slice_row_to {P : Program} {t e sz : Nat} (ht : P.underlying t = some (.slice e)) (hsz : (P.info? e).map (·.size) = some sz) (w : World) (base : Option Addr) (n cap : Nat) (k' : IntKind) (hi : Nat) (hhi : hi ≤ cap) :
    (Instr.slice t (.slice base n cap) none (some (.int k' hi)) none).run P w = .ok (.slice (if cap = 0 then base else base.map (·.add (0 * sz))) (hi - 0) (cap - 0)) w := by
  cases hq : P.info? e with
  | none => simp [hq] at hsz
  | some i =>
    have hs : i.size = sz := by simpa [hq] using hsz
    simp [Instr.slice, run_underlying ht, Instr.sliceBounds, run_sliceBound, sizeOf, typeInfo, hq, hhi]
theorem run_slice_row_from {P : Program} {t e sz : Nat} (ht : P.underlying t = some (.slice e)) (hsz : (P.info? e).map (·.size) = some sz) (w : World) (base : Option Addr) (n cap : Nat) (k : IntKind) (lo : Nat) (hlo : lo ≤ n) :
    (Instr.slice t (.slice base n cap) (some (.int k lo)) none none).run P w = .ok (.slice (if cap = lo then base else base.map (·.add (lo * sz))) (n - lo) (cap - lo)) w := by
  cases hq : P.info? e with
  | none => simp [hq] at hsz
  | some i =>
    have hs : i.size = sz := by simpa [hq] using hsz
    simp [Instr.slice, run_underlying ht, Instr.sliceBounds, run_sliceBound, sizeOf, typeInfo, hq, hs, hlo]
/-- A slice expression whose outcome is known. -/
theorem wpList_slice {P : Program} {ops : Array Oper} {rest : List Oper} {o : Oper} {a : Act} {w : World} {Q : Exit → Act → World → Prop} (hgd : o.guard = none) (t : TypeId) (x : Operand) (lo hi mx : Option Operand) (ho : o.op = .slice t x lo hi mx)
    (e : TypeId) (ht : P.underlying t = some (.slice e)) (u : Value)
    (hrun : (Instr.slice t (a.eval x) (lo.map a.eval) (hi.map a.eval) (mx.map a.eval)).run P w = .ok u w)
    (h : wpList P ops Q rest (a.put o.dst u) w) : wpList P ops Q (o :: rest) a w := by
  refine wpList_plain hgd fun K hK => ?_
  unfold Oper.wp execOp
  simp only [ho, Instr.sliceAt, Sem.run_bind, run_underlying ht, Result.andThen_ok, hrun]
  exact hK _ _ h

/-- The cell of a byte. -/
@[reducible] def u8v (x : UInt8) : Value := .int .u8 (x.toNat : Int)
/-- A slice value that reads, in a world, as a list of bytes. -/
def IsBytes (w : World) (v : Value) (l : List UInt8) : Prop := IsRow 1 w v l.length (l.map u8v)

theorem IsBytes.out {w : World} {v : Value} {l : List UInt8} (h : IsBytes w v l) :
  ∃ base cap, v = .slice base l.length cap ∧ l.length ≤ cap ∧ cap ≤ maxLen ∧ (base = none → cap = 0) ∧
    ∀ i (h : i < l.length), ∃ b off, base = some ⟨b, off, none⟩ ∧ w.cell? ⟨b, off + i, none⟩ = some (.int .u8 (l[i].toNat : Int)) := by
  obtain ⟨base, cap, hv, _, hl, hm, hn, hc⟩ := h
  exact ⟨base, cap, hv, hl, hm, hn, fun i hi => by have := hc i (by simpa using hi); simpa using this⟩
theorem IsBytes.below {B : Nat} {w w' : World} {v : Value} {l : List UInt8} (h : IsBytes w v l) (hb : Below B w w') (hB : B = w.heap.size) : IsBytes w' v l := IsRow.below h hb hB

/-- A part of a slice of bytes. -/
theorem IsBytes.part {w : World} {base : Option Addr} {n cap : Nat} {l : List UInt8} (h : IsBytes w (.slice base n cap) l) (lo hi m : Nat) (hlo : lo ≤ hi) (hhi : hi ≤ l.length) (hm : hi ≤ m) (hmc : m ≤ cap) :
    IsBytes w (.slice (if m = lo then base else base.map (·.add lo)) (hi - lo) (m - lo)) ((l.take hi).drop lo) := by
  have hn : n = l.length := by
    obtain ⟨_, _, hv, _⟩ := h
    simp only [Value.slice.injEq] at hv
    exact hv.2.1
  subst hn
  have hlen : ((l.take hi).drop lo).length = hi - lo := by rw [List.length_drop, List.length_take]; omega
  have hp := IsRow.part h lo hi m hlo hhi hm hmc
  unfold IsBytes
  rw [hlen, List.map_drop, List.map_take]
  simpa using hp
theorem IsBytes.drop {w : World} {b off cap : Nat} {l : List UInt8} (h : IsBytes w (.slice (some ⟨b, off, none⟩) l.length cap) l) (lo : Nat) (hlo : lo ≤ l.length) :
    IsBytes w (.slice (if cap = lo then some ⟨b, off, none⟩ else some ⟨b, off + lo, none⟩) (l.length - lo) (cap - lo)) (l.drop lo) := by
  have hcap : l.length ≤ cap := by
    obtain ⟨_, _, hv, _, hl, _⟩ := h
    simp only [Value.slice.injEq] at hv
    omega
  have hp := IsBytes.part h lo l.length cap hlo (Nat.le_refl _) hcap (Nat.le_refl _)
  rw [List.take_length] at hp
  simpa only [Option.map_some, Addr.add_lit] using hp

theorem IsBytes.take {w : World} {base : Option Addr} {n cap : Nat} {l : List UInt8} (h : IsBytes w (.slice base n cap) l) (hi : Nat) (hhi : hi ≤ l.length) : IsBytes w (.slice base hi cap) (l.take hi) := by
  have hcap : l.length ≤ cap := by
    obtain ⟨_, _, hv, _, hl, _⟩ := h
    simp only [Value.slice.injEq] at hv
    omega
  have h2 := IsBytes.part h 0 hi cap (Nat.zero_le _) hhi (by omega) (Nat.le_refl _)
  have e : base.map (fun x => x.add 0) = base := by cases base <;> simp [Addr.add]
  rw [e, ite_self] at h2
  simpa using h2
theorem cell_new (w : World) (c : Array Value) (t : TypeId) (fr : Nat × Nat) (i : Nat) : (w.alloc (.cells c t fr)).cell? ⟨w.heap.size, i, none⟩ = c[i]? :=
  cell_of_row _ _ _ _ _ _ (heap_alloc_new _ _)
/-- A new block of bytes, and the slice over it. -/
theorem IsBytes.new (w : World) (t : TypeId) (fr : Nat × Nat) (l : List UInt8) (hl : l.length ≤ maxLen) : IsBytes (w.alloc (.cells (l.map u8v).toArray t fr)) (.slice (some ⟨w.heap.size, 0, none⟩) l.length l.length) l := by
  refine ⟨_, _, rfl, by simp, Nat.le_refl _, hl, fun h => by simp at h, fun i hi => ⟨_, _, rfl, ?_⟩⟩
  rw [cell_new]
  simp only [Nat.zero_add, List.getElem?_toArray]
  exact List.getElem?_eq_getElem hi
theorem IsBytes.none (w : World) : IsBytes w (.slice none 0 0) [] := IsRow.nil 1 w

theorem below_setRow {B : Nat} {a w : World} (h : Below B a w) {g : Nat} (hg : B ≤ g) (cs : Array Value) : Below B a (w.setRow g cs) :=
  h.trans ⟨rfl, rfl, rfl, by simp, fun k hk => setRow_other w g k cs (by omega)⟩

/-- A variable of whatever type is laid: a new block of its zero's cells. -/
theorem wpList_alloc {P : Program} {ops : Array Oper} {rest : List Oper} {o : Oper} {a : Act} {w : World} {Q : Exit → Act → World → Prop} (hgd : o.guard = none) (ty : TypeId) (ho : o.op = .alloc ty)
    (z : Value) (hz : (P.info? ty).bind (·.zero) = some z)
    (h : wpList P ops Q rest (a.put o.dst (.pointer (some ⟨w.heap.size, 0, none⟩))) (w.alloc (.cells z.cells ty))) : wpList P ops Q (o :: rest) a w := by
  refine wpList_plain hgd fun K hK => ?_
  cases hq : P.info? ty with
  | none => simp [hq] at hz
  | some i =>
    have hz' : i.zero = some z := by simpa [hq] using hz
    unfold Oper.wp execOp
    simp only [ho, Instr.alloc, zeroValue, typeInfo, Sem.run_bind, run_program, hq, hz', Sem.run_pure, Result.andThen_ok, newVar, newRow, run_newObj_alloc]
    exact hK _ _ h

end Go.Proofs.Ytihohhjaomoemaa
