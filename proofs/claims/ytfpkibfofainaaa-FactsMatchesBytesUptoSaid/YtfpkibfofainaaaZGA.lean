/- Readings of memory: a slice of bytes that reads as a list; what is below a bound stays. Over whatever program. -/
import Derived.WalkKit
import Derived.WalkSpells
import Derived.WalkLawsBesides
import Derived.Lib.Hide
import Derived.ProofKit
import Derived.OpenShut
import Derived.ShutString
import Derived.ChangeOld
import Derived.Below
import Derived.Test.YtfpkibfofainaaaRows
import Derived.JoinedCond
import Derived.Laws.CopyOwn
import Derived.Deep.Slices
import Derived.Deep.Fields
namespace Go.Proofs.Ytfpkibfofainaaa
open Go.RowKit

/-- A slice value that reads, in a world, as n elements of sz cells each: the cells are xs. -/
def IsRow (sz : Nat) (w : World) (v : Value) (n : Nat) (xs : List Value) : Prop :=
  ∃ base cap, v = .slice base n cap ∧ xs.length = n * sz ∧ n ≤ cap ∧ cap ≤ maxLen ∧ (base = none → cap = 0) ∧
    ∀ i (h : i < xs.length), ∃ b off, base = some ⟨b, off, none⟩ ∧ w.cell? ⟨b, off + i, none⟩ = some xs[i]

theorem IsRow.below {sz n B : Nat} {w w' : World} {v : Value} {xs : List Value} (h : IsRow sz w v n xs) (hb : Below B w w') (hB : B = w.heap.size) : IsRow sz w' v n xs := by
  obtain ⟨base, cap, hv, hx, hl, hm, hn, hc⟩ := h
  refine ⟨base, cap, hv, hx, hl, hm, hn, fun i hi => ?_⟩
  obtain ⟨b, off, e, hcell⟩ := hc i hi
  exact ⟨b, off, e, by rw [hb.cell (hB ▸ block_lt_of_cell hcell)]; exact hcell⟩

theorem IsRow.nil (sz : Nat) (w : World) : IsRow sz w (.slice none 0 0) 0 [] := ⟨none, 0, rfl, by simp, Nat.le_refl _, by simp [maxLen], fun _ => rfl, fun i h => by simp at h⟩

/-- A part of a row: what a slice expression within the length reads. -/
theorem IsRow.part {sz : Nat} {w : World} {base : Option Addr} {n cap : Nat} {xs : List Value} (h : IsRow sz w (.slice base n cap) n xs) (lo hi m : Nat) (hlo : lo ≤ hi) (hhi : hi ≤ n) (hm : hi ≤ m) (hmc : m ≤ cap) :
    IsRow sz w (.slice (if m = lo then base else base.map (·.add (lo * sz))) (hi - lo) (m - lo)) (hi - lo) ((xs.take (hi * sz)).drop (lo * sz)) := by
  obtain ⟨base', cap', hv, hx, hl, hm', hn, hc⟩ := h
  simp only [Value.slice.injEq, true_and] at hv
  obtain ⟨rfl, rfl⟩ := hv
  have hmul : hi * sz ≤ n * sz := Nat.mul_le_mul_right _ hhi
  have hmul2 : lo * sz ≤ hi * sz := Nat.mul_le_mul_right _ hlo
  refine ⟨_, _, rfl, ?_, by omega, by omega, ?_, fun i hi' => ?_⟩
  · rw [List.length_drop, List.length_take, Nat.sub_mul]; omega
  · intro hb
    by_cases e : m = lo
    · omega
    · rw [if_neg e] at hb
      cases base with
      | none => have := hn rfl; omega
      | some x => simp at hb
  · rw [List.length_drop, List.length_take] at hi'
    obtain ⟨b, off, e, hcell⟩ := hc (lo * sz + i) (by omega)
    have hne : ¬ m = lo := by
      intro e; subst e
      have : hi = m := by omega
      subst this; omega
    rw [if_neg hne, e]
    refine ⟨b, off + lo * sz, ?_, ?_⟩
    · simp only [Option.map_some, Addr.add_lit]
    · rw [Nat.add_assoc, hcell]
      simp

theorem run_slice_row {P : Program} {t e sz : Nat} (ht : P.underlying t = some (.slice e)) (hsz : (P.info? e).map (·.size) = some sz) (w : World) (base : Option Addr) (n cap : Nat) (k k' : IntKind) (lo hi : Nat) (hlo : lo ≤ hi) (hhi : hi ≤ cap) :
    (Instr.slice t (.slice base n cap) (some (.int k lo)) (some (.int k' hi)) none).run P w = .ok (.slice (if cap = lo then base else base.map (·.add (lo * sz))) (hi - lo) (cap - lo)) w := by
  cases hq : P.info? e with
  | none => simp [hq] at hsz
  | some i =>
    have hs : i.size = sz := by simpa [hq] using hsz
    simp [Instr.slice, run_underlying ht, Instr.sliceBounds, run_sliceBound, sizeOf, typeInfo, hq, hs, hlo, hhi]
theorem run_slice_row_to {P : Program} {t e sz : Nat} (ht : P.underlying t = some (.slice e)) (hsz : (P.info? e).map (·.size) = some sz) (w : World) (base : Option Addr) (n cap : Nat) (k' : IntKind) (hi : Nat) (hhi : hi ≤ cap) :
    (Instr.slice t (.slice base n cap) none (some (.int k' hi)) none).run P w = .ok (.slice (if cap = 0 then base else base.map (·.add (0 * sz))) (hi - 0) (cap - 0)) w := by
  cases hq : P.info? e with
  | none => simp [hq] at hsz
  | some i =>
    have hs : i.size = sz := by simpa [hq] using hsz
    simp [Instr.slice, run_underlying ht, Instr.sliceBounds, run_sliceBound, sizeOf, typeInfo, hq, hhi]
theorem run_slice_row_from {P : Program} {t e sz : Nat} (ht : P.underlying t = some (.slice e)) (hsz : (P.info? e).map (·.size) = some sz) (w : World) (base : Option Addr) (n cap : Nat) (k : IntKind) (lo : Nat) (hlo : lo ≤ n) :
    (Instr.slice t (.slice base n cap) (some (.int k lo)) none none).run P w = .ok (.slice (if cap = lo then base else base.map (·.add (lo * sz))) (n - lo) (cap - lo)) w := by
  cases hq : P.info? e with
  | none => simp [hq] at hsz
  | some i =>
    have hs : i.size = sz := by simpa [hq] using hsz
    simp [Instr.slice, run_underlying ht, Instr.sliceBounds, run_sliceBound, sizeOf, typeInfo, hq, hs, hlo]
/-- A slice expression whose outcome is known. -/
theorem wpList_slice {P : Program} {ops : Array Oper} {rest : List Oper} {o : Oper} {a : Act} {w : World} {Q : Exit → Act → World → Prop} (hgd : o.guard = none) (t : TypeId) (x : Operand) (lo hi mx : Option Operand) (ho : o.op = .slice t x lo hi mx)
    (e : TypeId) (ht : P.underlying t = some (.slice e)) (u : Value)
    (hrun : (Instr.slice t (a.eval x) (lo.map a.eval) (hi.map a.eval) (mx.map a.eval)).run P w = .ok u w)
    (h : wpList P ops Q rest (a.put o.dst u) w) : wpList P ops Q (o :: rest) a w := by
  refine wpList_plain hgd fun K hK => ?_
  unfold Oper.wp execOp
  simp only [ho, Instr.sliceAt, Sem.run_bind, run_underlying ht, Result.andThen_ok, hrun]
  exact hK _ _ h

/-- The cell of a byte. -/
@[reducible] def u8v (x : UInt8) : Value := .int .u8 (x.toNat : Int)
/-- A slice value that reads, in a world, as a list of bytes. -/
def IsBytes (w : World) (v : Value) (l : List UInt8) : Prop := IsRow 1 w v l.length (l.map u8v)

theorem IsBytes.out {w : World} {v : Value} {l : List UInt8} (h : IsBytes w v l) :
  ∃ base cap, v = .slice base l.length cap ∧ l.length ≤ cap ∧ cap ≤ maxLen ∧ (base = none → cap = 0) ∧
    ∀ i (h : i < l.length), ∃ b off, base = some ⟨b, off, none⟩ ∧ w.cell? ⟨b, off + i, none⟩ = some (.int .u8 (l[i].toNat : Int)) := by
  obtain ⟨base, cap, hv, _, hl, hm, hn, hc⟩ := h
  exact ⟨base, cap, hv, hl, hm, hn, fun i hi => by have := hc i (by simpa using hi); simpa using this⟩
theorem IsBytes.below {B : Nat} {w w' : World} {v : Value} {l : List UInt8} (h : IsBytes w v l) (hb : Below B w w') (hB : B = w.heap.size) : IsBytes w' v l := IsRow.below h hb hB

/-- A part of a slice of bytes. -/
theorem IsBytes.part {w : World} {base : Option Addr} {n cap : Nat} {l : List UInt8} (h : IsBytes w (.slice base n cap) l) (lo hi m : Nat) (hlo : lo ≤ hi) (hhi : hi ≤ l.length) (hm : hi ≤ m) (hmc : m ≤ cap) :
    IsBytes w (.slice (if m = lo then base else base.map (·.add lo)) (hi - lo) (m - lo)) ((l.take hi).drop lo) := by
  have hn : n = l.length := by
    obtain ⟨_, _, hv, _⟩ := h
    simp only [Value.slice.injEq] at hv
    exact hv.2.1
  subst hn
  have hlen : ((l.take hi).drop lo).length = hi - lo := by rw [List.length_drop, List.length_take]; omega
  have hp := IsRow.part h lo hi m hlo hhi hm hmc
  unfold IsBytes
  rw [hlen, List.map_drop, List.map_take]
  simpa using hp
theorem IsBytes.drop {w : World} {b off cap : Nat} {l : List UInt8} (h : IsBytes w (.slice (some ⟨b, off, none⟩) l.length cap) l) (lo : Nat) (hlo : lo ≤ l.length) :
    IsBytes w (.slice (if cap = lo then some ⟨b, off, none⟩ else some ⟨b, off + lo, none⟩) (l.length - lo) (cap - lo)) (l.drop lo) := by
  have hcap : l.length ≤ cap := by
    obtain ⟨_, _, hv, _, hl, _⟩ := h
    simp only [Value.slice.injEq] at hv
    omega
  have hp := IsBytes.part h lo l.length cap hlo (Nat.le_refl _) hcap (Nat.le_refl _)
  rw [List.take_length] at hp
  simpa only [Option.map_some, Addr.add_lit] using hp

theorem IsBytes.take {w : World} {base : Option Addr} {n cap : Nat} {l : List UInt8} (h : IsBytes w (.slice base n cap) l) (hi : Nat) (hhi : hi ≤ l.length) : IsBytes w (.slice base hi cap) (l.take hi) := by
  have hcap : l.length ≤ cap := by
    obtain ⟨_, _, hv, _, hl, _⟩ := h
    simp only [Value.slice.injEq] at hv
    omega
  have h2 := IsBytes.part h 0 hi cap (Nat.zero_le _) hhi (by omega) (Nat.le_refl _)
  have e : base.map (fun x => x.add 0) = base := by cases base <;> simp [Addr.add]
  rw [e, ite_self] at h2
  simpa using h2
theorem cell_new (w : World) (c : Array Value) (t : TypeId) (fr : Nat × Nat) (i : Nat) : (w.alloc (.cells c t fr)).cell? ⟨w.heap.size, i, none⟩ = c[i]? :=
  cell_of_row _ _ _ _ _ _ (heap_alloc_new _ _)
/-- A new block of bytes, and the slice over it. -/
theorem IsBytes.new (w : World) (t : TypeId) (fr : Nat × Nat) (l : List UInt8) (hl : l.length ≤ maxLen) : IsBytes (w.alloc (.cells (l.map u8v).toArray t fr)) (.slice (some ⟨w.heap.size, 0, none⟩) l.length l.length) l := by
  refine ⟨_, _, rfl, by simp, Nat.le_refl _, hl, fun h => by simp at h, fun i hi => ⟨_, _, rfl, ?_⟩⟩
  rw [cell_new]
  simp only [Nat.zero_add, List.getElem?_toArray]
  exact List.getElem?_eq_getElem hi
theorem IsBytes.none (w : World) : IsBytes w (.slice none 0 0) [] := IsRow.nil 1 w

theorem below_setRow {B : Nat} {a w : World} (h : Below B a w) {g : Nat} (hg : B ≤ g) (cs : Array Value) : Below B a (w.setRow g cs) :=
  h.trans ⟨rfl, rfl, rfl, by simp, fun k hk => setRow_other w g k cs (by omega)⟩

/-- A variable of whatever type is laid: a new block of its zero's cells. -/
theorem wpList_alloc {P : Program} {ops : Array Oper} {rest : List Oper} {o : Oper} {a : Act} {w : World} {Q : Exit → Act → World → Prop} (hgd : o.guard = none) (ty : TypeId) (ho : o.op = .alloc ty)
    (z : Value) (hz : (P.info? ty).bind (·.zero) = some z)
    (h : wpList P ops Q rest (a.put o.dst (.pointer (some ⟨w.heap.size, 0, none⟩))) (w.alloc (.cells z.cells ty))) : wpList P ops Q (o :: rest) a w := by
  refine wpList_plain hgd fun K hK => ?_
  cases hq : P.info? ty with
  | none => simp [hq] at hz
  | some i =>
    have hz' : i.zero = some z := by simpa [hq] using hz
    unfold Oper.wp execOp
    simp only [ho, Instr.alloc, zeroValue, typeInfo, Sem.run_bind, run_program, hq, hz', Sem.run_pure, Result.andThen_ok, newVar, newRow, run_newObj_alloc]
    exact hK _ _ h

end Go.Proofs.Ytfpkibfofainaaa
/- Opening the arguments of a statement: what the form's reading says of a value, in the words of the walks. Over whatever program. -/
namespace Go.Proofs.Ytfpkibfofainaaa
open Go.ChangeShapes Go.WideShapes Go.ChangeAt Go.RowKit

theorem u32_bv {a : Int} (h : (Lit.int .u32 a).wf = true) : ∃ s : BitVec 32, a = (s.toNat : Int) := by
  have h1 : 0 ≤ a ∧ a < 4294967296 := by
    simp only [Lit.wf, IntKind.min, IntKind.max, IntKind.signed, IntKind.bits, Bool.and_eq_true] at h
    simpa using (show 0 ≤ a ∧ a < 4294967296 by have h1 := h.1; have h2 := h.2; simp at h1 h2; omega)
  refine ⟨BitVec.ofNat 32 a.toNat, ?_⟩
  rw [BitVec.toNat_ofNat]
  omega
theorem u64_bv {a : Int} (h : (Lit.int .u64 a).wf = true) : ∃ s : BitVec 64, a = (s.toNat : Int) := by
  have h1 : 0 ≤ a ∧ a < 18446744073709551616 := by
    simp only [Lit.wf, IntKind.min, IntKind.max, IntKind.signed, IntKind.bits, Bool.and_eq_true] at h
    have h1 := h.1
    have h2 := h.2
    simp at h1 h2
    omega
  refine ⟨BitVec.ofNat 64 a.toNat, ?_⟩
  rw [BitVec.toNat_ofNat]
  omega
theorem i64_range {a : Int} (h : (Lit.int .i64 a).wf = true) : -9223372036854775808 ≤ a ∧ a ≤ 9223372036854775807 := by
  simp only [Lit.wf, IntKind.min, IntKind.max, IntKind.signed, IntKind.bits, Bool.and_eq_true] at h
  have h1 := h.1
  have h2 := h.2
  simp at h1 h2
  omega
theorem u8_of_int {a : Int} (h : (Lit.int .u8 a).wf = true) : a = (((UInt8.ofNat a.toNat).toNat : Nat) : Int) := by
  have h1 : 0 ≤ a ∧ a < 256 := by
    simp only [Lit.wf, IntKind.min, IntKind.max, IntKind.signed, IntKind.bits, Bool.and_eq_true] at h
    have h1 := h.1
    have h2 := h.2
    simp at h1 h2
    omega
  rw [UInt8.toNat_ofNat']
  omega

/-- A slice of bytes that came in. -/
theorem open_bytes {H : Type} {enc : TypeId × Value → H} {P : Program} {W : World} {base b0 : Nat} {spare : Nat → Bool} {held : Bool} {t e : TypeId} {v : Value} {d : DataW H} {ps : List MemPlace} (ht : P.underlying t = some (.slice e)) (he : P.underlying e = some (.int .u8)) (hc : P.cellsOf e = 1)
    (hval : Value.okWide P W .any base t v) (h : DataW.Trod enc P W b0 spare held t v d ps) : ∃ l, IsBytes W v l := by
  obtain ⟨a, len, cap, rfl⟩ := okWide_slice ht hval
  obtain ⟨fuel, hf⟩ := h
  rcases open_ints ht he hc hf with ⟨hcs, _⟩ | ⟨x, l, c, zs, hcs, _, hl, hm, hz, _, hcell, hwz⟩
  · simp [Value.cells] at hcs
    obtain ⟨rfl, rfl, rfl⟩ := hcs
    exact ⟨[], IsBytes.none W⟩
  · simp [Value.cells] at hcs
    obtain ⟨rfl, rfl, rfl⟩ := hcs
    have hlz : len ≤ zs.length := by rw [hz]; split <;> omega
    have hlen : ((zs.take len).map fun n => UInt8.ofNat n.toNat).length = len := by simp; omega
    refine ⟨(zs.take len).map fun n => UInt8.ofNat n.toNat, ?_⟩
    unfold IsBytes
    rw [hlen]
    refine ⟨_, _, rfl, by simp; omega, hl, hm, (fun h => by cases h), fun i hi => ?_⟩
    have hi' : i < len := by simp at hi; omega
    have h1 := hcell i (by omega)
    obtain ⟨b, off, spot⟩ := x
    have hspot : spot = none := by
      have := World.cell?_spot h1
      unfold Addr.add at this
      split at this
      · exact this
      · have h0 := hcell 0 (by omega)
        have := World.cell?_spot h0
        simpa [Addr.add] using this
    subst hspot
    refine ⟨b, off, rfl, ?_⟩
    rw [Addr.add_lit] at h1
    rw [h1]
    have hg : zs.getD i 0 = zs[i]'(by omega) := by rw [List.getD_eq_getElem?_getD, List.getElem?_eq_getElem (by omega)]; rfl
    rw [hg]
    have hw := hwz (zs[i]'(by omega)) (List.getElem_mem _)
    simp only [List.getElem_map, List.getElem_take]
    exact congrArg (fun n => some (Value.int .u8 n)) (u8_of_int hw)

end Go.Proofs.Ytfpkibfofainaaa
/- Opening the arguments of a statement of the second form, with their bulk. -/
namespace Go.Proofs.Ytfpkibfofainaaa
open Go.ChangeShapes Go.WideShapes Go.ChangeAt Go.RowKit

theorem bulk_one {H : Type} (d : DataW H) : 1 ≤ Rows.uptoBulk d := by
  cases d with
  | lit l => cases l <;> simp [Rows.uptoBulk]
  | nil => simp [Rows.uptoBulk]
  | ptr d => simp [Rows.uptoBulk]
  | slice elems spare => simp [Rows.uptoBulk]
  | agg parts => simp [Rows.uptoBulk]
  | iface t d => simp [Rows.uptoBulk]
  | map entries => simp [Rows.uptoBulk]
  | held h => simp [Rows.uptoBulk]
theorem bulk_length {H : Type} : ∀ l : List (DataW H), l.length ≤ Rows.uptoBulkAll l
  | [] => by simp [Rows.uptoBulkAll]
  | x :: r => by have := bulk_one x; have := bulk_length r; simp only [Rows.uptoBulkAll, List.length_cons]; omega
theorem bulk_mem {H : Type} {d : DataW H} : ∀ {l : List (DataW H)}, d ∈ l → Rows.uptoBulk d ≤ Rows.uptoBulkAll l
  | [], h => by cases h
  | x :: r, h => by
    simp only [Rows.uptoBulkAll]
    rcases List.mem_cons.1 h with rfl | h
    · omega
    · have := bulk_mem h; omega
theorem bulk_string {H : Type} (l : List UInt8) : Rows.uptoBulk (DataW.lit (H := H) (.string l)) = l.length + 1 := by simp [Rows.uptoBulk]

theorem open_bytes_bulk {H : Type} {enc : TypeId × Value → H} {P : Program} {W : World} {base b0 : Nat} {spare : Nat → Bool} {held : Bool} {t e : TypeId} {v : Value} {d : DataW H} {ps : List MemPlace} (ht : P.underlying t = some (.slice e)) (he : P.underlying e = some (.int .u8)) (hc : P.cellsOf e = 1)
    (hval : Value.okWide P W .any base t v) (h : DataW.Trod enc P W b0 spare held t v d ps) : ∃ l, IsBytes W v l ∧ l.length + 1 ≤ Rows.uptoBulk d := by
  obtain ⟨l, hl⟩ := open_bytes ht he hc hval h
  refine ⟨l, hl, ?_⟩
  obtain ⟨base, cap, rfl, -⟩ := hl.out
  obtain ⟨fuel, hf⟩ := h
  rcases open_ints ht he hc hf with ⟨hcs, _⟩ | ⟨x, l', c, zs, hcs, _, h3, hm, hz, hx, _⟩
  · simp [Value.cells] at hcs
    have hz : l.length = 0 := by rw [hcs.2.1]; rfl
    have := bulk_one d
    omega
  · simp [Value.cells] at hcs
    have hll := hcs.2.1
    simp only [Prod.mk.injEq] at hx
    rw [hx.1]
    have h5 : (lits (H := H) .u8 (zs.take l')).length = l' := by
      have : l' ≤ zs.length := by rw [hz]; split <;> omega
      simp [lits]
      omega
    have h6 := bulk_length (lits (H := H) .u8 (zs.take l'))
    simp only [Rows.uptoBulk]
    omega
end Go.Proofs.Ytfpkibfofainaaa
/- append onto a slice that the call owns, or onto one that must grow, from a slice, a nil slice or a string: laws for the walk, over whatever program. -/
namespace Go.Proofs.Ytfpkibfofainaaa
open Go.RowKit

/-- What an append reads: m elements, the cells news. -/
structure Src (P : Program) (size : Nat) (w : World) (t2 : TypeId) (x : Value) (m : Nat) (news : List Value) : Prop where
  desc : (∃ e2, P.underlying t2 = some (.slice e2)) ∨ P.underlying t2 = some .string
  len : ∀ w', (Builtin.lenOf x).run P w' = .ok m w'
  cells : (Builtin.firstCells size m x).run P w = .ok news.toArray w
  cells' : (Builtin.firstCells size m x).run P w.drew = .ok news.toArray w.drew
  many : news.length = m * size
  one : ∀ u ∈ news, u.oneCell' = true

theorem Src.row {P : Program} {size : Nat} {w : World} {t2 e2 : TypeId} {x : Value} {m : Nat} {news : List Value} (ht : P.underlying t2 = some (.slice e2)) (h : IsRow size w x m news) (h1 : ∀ u ∈ news, u.oneCell' = true) : Src P size w t2 x m news := by
  obtain ⟨base, cap, rfl, hx, hl, hm, hn, hc⟩ := h
  refine ⟨.inl ⟨_, ht⟩, fun w' => rfl, ?_, ?_, hx, h1⟩
  · cases base with
    | none =>
      have : news = [] := List.eq_nil_of_length_eq_zero (by rw [hx]; have := hn rfl; rw [show m = 0 from by omega]; simp)
      subst this
      exact run_firstCells_none _ _ _ _ _
    | some b =>
      refine run_firstCells_some _ _ _ _ _ _ _ hx fun j u hu => ?_
      obtain ⟨hj, hu'⟩ := List.getElem?_eq_some_iff.1 hu
      obtain ⟨b', off, e, hcell⟩ := hc j hj
      cases e
      rw [Addr.add_lit, hcell, hu']
  · cases base with
    | none =>
      have : news = [] := List.eq_nil_of_length_eq_zero (by rw [hx]; have := hn rfl; rw [show m = 0 from by omega]; simp)
      subst this
      exact run_firstCells_none _ _ _ _ _
    | some b =>
      refine run_firstCells_some _ _ _ _ _ _ _ hx fun j u hu => ?_
      obtain ⟨hj, hu'⟩ := List.getElem?_eq_some_iff.1 hu
      obtain ⟨b', off, e, hcell⟩ := hc j hj
      cases e
      rw [Addr.add_lit]
      show w.cell? _ = _
      rw [hcell, hu']

theorem Src.str {P : Program} {w : World} {t2 : TypeId} {s : ByteArray} (ht : P.underlying t2 = some .string) : Src P 1 w t2 (.string s) s.size (s.data.toList.map u8v) := by
  have h : ∀ w', (Builtin.firstCells 1 s.size (.string s)).run P w' = .ok (s.data.toList.map u8v).toArray w' := by
    intro w'
    simp only [Builtin.firstCells, Sem.run_pure]
    congr 1
    have e : s.extract 0 s.size = s := by simp
    rw [e]
    apply Array.ext'
    simp
  refine ⟨.inr ht, fun w' => rfl, h w, h w.drew, by simp, fun u hu => ?_⟩
  obtain ⟨b, _, rfl⟩ := List.mem_map.1 hu
  rfl

section
variable {P : Program} {w : World}

theorem run_append_grows (t ty t2 e : TypeId) (z : Value) (size bytes : Nat) (ht : P.underlying t = some (.slice e)) (hinfo : (P.info? e).map (fun i => (i.zero, i.size, i.bytes)) = some (some z, size, bytes)) (hzs : z.cells.size = size)
    (base : Option Addr) (n cap : Nat) (xs : List Value) (hs : IsRow size w (.slice base n cap) n xs) (x : Value) (m : Nat) (news : List Value) (hx : Src P size w t2 x m news)
    (hg : cap < n + m) (hbytes : (n + m) * bytes ≤ 140737488355328) (h63 : n + m ≤ maxLen) :
    ∃ v' w', (Builtin.append_ #[t, t2] ty #[.slice base n cap, x]).run P w = .ok v' w' ∧ w'.ownsRow w.heap.size e size v' (n + m) (xs ++ news) ∧ w.grownBy w' none ∧ w.heap.size < w'.heap.size := by
  obtain ⟨i, hi, hz, rfl, rfl⟩ := info_parts hinfo
  obtain ⟨hd, hlen, hcells, hcells', hmany, _⟩ := hx
  have hn : ¬ (n + m ≤ cap) := by omega
  have h63' : ¬ (9223372036854775807 < ((n : Int) + (m : Int))) := by simp only [maxLen] at h63; omega
  have h48' : ¬ (281474976710656 < Builtin.nextslicecap (n + m) cap * i.bytes) := by have := growslice_fits hg hbytes; omega
  obtain ⟨base', cap', hv, hxl, hl, hm', hnil, hc⟩ := hs
  simp only [Value.slice.injEq, true_and] at hv
  obtain ⟨rfl, rfl⟩ := hv
  have hold : (Builtin.firstCells i.size n (.slice base n cap)).run P w.drew = .ok xs.toArray w.drew := by
    cases base with
    | none =>
      have : xs = [] := List.eq_nil_of_length_eq_zero (by rw [hxl]; have := hnil rfl; rw [show n = 0 from by omega]; simp)
      subst this
      exact run_firstCells_none _ _ _ _ _
    | some b =>
      refine run_firstCells_some _ _ _ _ _ _ _ hxl fun j u hu => ?_
      obtain ⟨hj, hu'⟩ := List.getElem?_eq_some_iff.1 hu
      obtain ⟨b', off, e, hcell⟩ := hc j hj
      cases e
      rw [Addr.add_lit]
      show w.cell? _ = _
      rw [hcell, hu']
  have hge := grownCap_ge w (n + m) cap e
  have hcm := grownCap_le_maxLen w (n + m) cap e h63
  refine ⟨.slice (some ⟨w.heap.size, 0, none⟩) (n + m) (grownCap w (n + m) cap e), w.drew.alloc (.cells (xs.toArray ++ (news.toArray ++ Builtin.zeroCells z.cells (grownCap w (n + m) cap e - (n + m)))) e), ?_, ?_, ?_, by simp⟩
  · rcases hd with ⟨e2, hd⟩ | hd <;>
      (simp [Builtin.append_, run_underlying ht, run_underlying hd, sizeOf, typeInfo, zeroValue, hi, hz, hlen, hn, h63', h48', Question.forced, hold, hcells', newRow, grownCap])
  · have hlen' : (xs ++ news).length = (n + m) * i.size := by rw [List.length_append, hxl, hmany, Nat.add_mul]
    refine ⟨hlen', .inr ⟨w.heap.size, _, _, rfl, Nat.le_refl _, heap_alloc_new w.drew _, hge, hcm, ?_, ?_⟩⟩
    · simp only [Array.size_append, List.size_toArray, size_zeroCells, hzs, hxl, hmany, ← Nat.add_mul]
      congr 1
      omega
    · simp only [Array.toList_append]
      rw [← List.append_assoc, ← hlen']
      exact List.take_left
  · exact ⟨rfl, rfl, rfl, by simp, fun k hk _ => Below.heap_alloc w.drew _ k hk⟩

/-- An owned row reads as a row. -/
theorem ownsRow_isRow {base e size n : Nat} {v : Value} {xs : List Value} (h : w.ownsRow base e size v n xs) : IsRow size w v n xs := by
  obtain ⟨hx, hr⟩ := h
  rcases hr with ⟨rfl, rfl⟩ | ⟨g, cap, cur, rfl, hb, hg, hnc, hcm, hcs, htake⟩
  · have : xs = [] := List.eq_nil_of_length_eq_zero (by simpa using hx)
    subst this
    exact IsRow.nil size w
  · refine ⟨_, _, rfl, hx, hnc, hcm, (fun h => by cases h), fun i hi => ⟨g, 0, rfl, ?_⟩⟩
    rw [Nat.zero_add, cell_of_row w g i cur e (0, 0) hg, ← Array.getElem?_toList]
    have : (cur.toList.take (n * size))[i]? = some xs[i] := by rw [htake]; exact List.getElem?_eq_getElem hi
    rw [List.getElem?_take] at this
    split at this
    · exact this
    · cases this

theorem run_append_any (base : Nat) (t ty t2 e : TypeId) (z : Value) (size bytes : Nat) (ht : P.underlying t = some (.slice e)) (hinfo : (P.info? e).map (fun i => (i.zero, i.size, i.bytes)) = some (some z, size, bytes)) (hzs : z.cells.size = size)
    (v : Value) (n : Nat) (xs : List Value) (hown : w.ownsRow base e size v n xs) (x : Value) (m : Nat) (news : List Value) (hx : Src P size w t2 x m news)
    (hbytes : (n + m) * bytes ≤ 140737488355328) (h63 : n + m ≤ maxLen) (hbase : base ≤ w.heap.size) :
    ∃ v' w', (Builtin.append_ #[t, t2] ty #[v, x]).run P w = .ok v' w' ∧ w'.ownsRow base e size v' (n + m) (xs ++ news) ∧ w.grownBy w' v.ownBlock := by
  have hrow := ownsRow_isRow hown
  obtain ⟨bs, cap, rfl, _⟩ := hrow
  by_cases hg : cap < n + m
  · obtain ⟨v', w', h1, h2, h3, h4⟩ := run_append_grows (w := w) (ty := ty) t t2 e z size bytes ht hinfo hzs bs n cap xs (ownsRow_isRow hown) x m news hx hg hbytes h63
    refine ⟨v', w', h1, ⟨h2.1, ?_⟩, ⟨h3.os, h3.tape, h3.output, h3.size, fun k hk _ => h3.block k hk (by simp)⟩⟩
    rcases h2.2 with hh | ⟨g, cap', cur, a, b, r⟩
    · exact .inl hh
    · exact .inr ⟨g, cap', cur, a, by omega, r⟩
  · obtain ⟨i, hi, hz, rfl, rfl⟩ := info_parts hinfo
    obtain ⟨hd, hlen, hcells, hcells', hmany, hone⟩ := hx
    have hroom : n + m ≤ cap := by omega
    obtain ⟨hxl, hr⟩ := hown
    rcases hr with ⟨hv, rfl⟩ | ⟨g, cap', cur, hv, hb, hgg, hnc, hcm, hcs, htake⟩
    · simp only [Value.slice.injEq] at hv
      obtain ⟨rfl, -, rfl⟩ := hv
      have hm0 : m = 0 := by omega
      subst hm0
      have hnn : news = [] := List.eq_nil_of_length_eq_zero (by simpa using hmany)
      have hxx : xs = [] := List.eq_nil_of_length_eq_zero (by simpa using hxl)
      subst hnn hxx
      refine ⟨.slice none 0 0, w, ?_, World.ownsRow_nil w base e i.size, ⟨rfl, rfl, rfl, Nat.le_refl _, fun _ _ _ => rfl⟩⟩
      rcases hd with ⟨e2, hd⟩ | hd <;> simp [Builtin.append_, run_underlying ht, run_underlying hd, sizeOf, typeInfo, hi, hlen, hcells]
    · simp only [Value.slice.injEq, true_and] at hv
      obtain ⟨rfl, rfl⟩ := hv
      have hfit : n * i.size + news.length ≤ cur.size := by rw [hmany, hcs, ← Nat.add_mul]; exact Nat.mul_le_mul_right _ hroom
      have hst := run_storeCells_at P g (n * i.size) e news 0 cur w hgg (by simpa using hfit) hone
      simp only [Nat.add_zero] at hst
      refine ⟨.slice (some ⟨g, 0, none⟩) (n + m) cap, w.setRow g (cur.toList.take (n * i.size) ++ news ++ cur.toList.drop (n * i.size + news.length)).toArray, ?_, ⟨?_, .inr ⟨g, cap, _, rfl, hb, setRow_heap w g cur _ e _ hgg, hroom, hcm, ?_, ?_⟩⟩, ⟨rfl, rfl, rfl, by simp, fun k _ hk => setRow_other w g k _ (fun e => hk (by simp [Value.ownBlock, e]))⟩⟩
      · rcases hd with ⟨e2, hd⟩ | hd <;> simp [Builtin.append_, run_underlying ht, run_underlying hd, sizeOf, typeInfo, hi, hlen, hcells, hroom, Addr.add_lit, hst]
      · rw [List.length_append, hxl, hmany, Nat.add_mul]
      · simp only [List.size_toArray, List.length_append, List.length_take, List.length_drop, Array.length_toList]
        omega
      · have hlen' : (xs ++ news).length = (n + m) * i.size := by rw [List.length_append, hxl, hmany, Nat.add_mul]
        rw [htake, ← hlen']
        exact List.take_left

theorem wpList_append_any {ops : Array Oper} {rest : List Oper} {o : Oper} {a : Act} {Q : Exit → Act → World → Prop} (hw : Region.wanted o (yielded ops a.tmps) = true) (s x : Operand) (t t2 : TypeId)
    (ho : o.op = .call { callee := .builtin .append, args := #[s, x], argTypes := #[t, t2] })
    (base : Nat) (e : TypeId) (z : Value) (size bytes : Nat) (ht : P.underlying t = some (.slice e)) (hinfo : (P.info? e).map (fun i => (i.zero, i.size, i.bytes)) = some (some z, size, bytes)) (hzs : z.cells.size = size)
    (v : Value) (n : Nat) (xs : List Value) (hs : a.eval s = v) (hown : w.ownsRow base e size v n xs) (u : Value) (m : Nat) (news : List Value) (hx : a.eval x = u) (hsrc : Src P size w t2 u m news)
    (hbytes : (n + m) * bytes ≤ 140737488355328) (h63 : n + m ≤ maxLen) (hbase : base ≤ w.heap.size)
    (h : ∀ v' w', w'.ownsRow base e size v' (n + m) (xs ++ news) → w.grownBy w' v.ownBlock → wpList P ops Q rest (a.put o.dst v') w') : wpList P ops Q (o :: rest) a w := by
  obtain ⟨v', w', hr, h2, h3⟩ := run_append_any (w := w) base t o.type t2 e z size bytes ht hinfo hzs v n xs hown u m news hsrc hbytes h63 hbase
  unfold wpList
  rw [if_pos hw]
  refine .inl ?_
  unfold Oper.wp execOp
  simp only [ho, resolve, invoke, builtin, Sem.run_bind, Sem.run_pure, Result.andThen_ok, List.map_toArray, List.map_cons, List.map_nil, hs, hx, hr]
  exact h v' w' h2 h3

theorem wpList_append_grow {ops : Array Oper} {rest : List Oper} {o : Oper} {a : Act} {Q : Exit → Act → World → Prop} (hw : Region.wanted o (yielded ops a.tmps) = true) (s x : Operand) (t t2 : TypeId)
    (ho : o.op = .call { callee := .builtin .append, args := #[s, x], argTypes := #[t, t2] })
    (e : TypeId) (z : Value) (size bytes : Nat) (ht : P.underlying t = some (.slice e)) (hinfo : (P.info? e).map (fun i => (i.zero, i.size, i.bytes)) = some (some z, size, bytes)) (hzs : z.cells.size = size)
    (bs : Option Addr) (n cap : Nat) (xs : List Value) (hs : a.eval s = .slice bs n cap) (hrow : IsRow size w (.slice bs n cap) n xs) (u : Value) (m : Nat) (news : List Value) (hx : a.eval x = u) (hsrc : Src P size w t2 u m news)
    (hg : cap < n + m) (hbytes : (n + m) * bytes ≤ 140737488355328) (h63 : n + m ≤ maxLen)
    (h : ∀ v' w', w'.ownsRow w.heap.size e size v' (n + m) (xs ++ news) → w.grownBy w' none → w.heap.size < w'.heap.size → wpList P ops Q rest (a.put o.dst v') w') : wpList P ops Q (o :: rest) a w := by
  obtain ⟨v', w', hr, h2, h3, h4⟩ := run_append_grows (w := w) (ty := o.type) t t2 e z size bytes ht hinfo hzs bs n cap xs hrow u m news hsrc hg hbytes h63
  unfold wpList
  rw [if_pos hw]
  refine .inl ?_
  unfold Oper.wp execOp
  simp only [ho, resolve, invoke, builtin, Sem.run_bind, Sem.run_pure, Result.andThen_ok, List.map_toArray, List.map_cons, List.map_nil, hs, hx, hr]
  exact h v' w' h2 h3 h4
/-- Where the row of an append lies: where it lay, or in a new block. -/
theorem run_append_any' (base : Nat) (t ty t2 e : TypeId) (z : Value) (size bytes : Nat) (ht : P.underlying t = some (.slice e)) (hinfo : (P.info? e).map (fun i => (i.zero, i.size, i.bytes)) = some (some z, size, bytes)) (hzs : z.cells.size = size)
    (v : Value) (n : Nat) (xs : List Value) (hown : w.ownsRow base e size v n xs) (x : Value) (m : Nat) (news : List Value) (hx : Src P size w t2 x m news)
    (hbytes : (n + m) * bytes ≤ 140737488355328) (h63 : n + m ≤ maxLen) (hbase : base ≤ w.heap.size) :
    ∃ v' w', (Builtin.append_ #[t, t2] ty #[v, x]).run P w = .ok v' w' ∧ w'.ownsRow base e size v' (n + m) (xs ++ news) ∧ w.grownBy w' v.ownBlock ∧ (v'.ownBlock = v.ownBlock ∨ ∃ k, w.heap.size ≤ k ∧ v'.ownBlock = some k) := by
  have hrow := ownsRow_isRow hown
  obtain ⟨bs, cap, rfl, _⟩ := hrow
  by_cases hg : cap < n + m
  · obtain ⟨v', w', h1, h2, h3, h4⟩ := run_append_grows (w := w) (ty := ty) t t2 e z size bytes ht hinfo hzs bs n cap xs (ownsRow_isRow hown) x m news hx hg hbytes h63
    refine ⟨v', w', h1, ⟨h2.1, ?_⟩, ⟨h3.os, h3.tape, h3.output, h3.size, fun k hk _ => h3.block k hk (by simp)⟩, ?_⟩
    · rcases h2.2 with hh | ⟨g, cap', cur, a, b, r⟩
      · exact .inl hh
      · exact .inr ⟨g, cap', cur, a, by omega, r⟩
    · rcases h2.2 with ⟨hh, h0⟩ | ⟨g, cap', cur, rfl, b, r⟩
      · omega
      · exact .inr ⟨g, b, rfl⟩
  · obtain ⟨v', w', h1, h2, h3⟩ := run_append_any (w := w) base t ty t2 e z size bytes ht hinfo hzs _ n xs hown x m news hx hbytes h63 hbase
    refine ⟨v', w', h1, h2, h3, .inl ?_⟩
    obtain ⟨i, hi, hz, rfl, rfl⟩ := info_parts hinfo
    obtain ⟨hd, hlen, hcells, hcells', hmany, hone⟩ := hx
    have hroom : n + m ≤ cap := by omega
    obtain ⟨hxl, hr⟩ := hown
    rcases hr with ⟨hv, rfl⟩ | ⟨g, cap', cur, hv, hb, hgg, hnc, hcm, hcs, htake⟩
    · simp only [Value.slice.injEq] at hv
      obtain ⟨rfl, -, rfl⟩ := hv
      have hm0 : m = 0 := by omega
      subst hm0
      have hnn : news = [] := List.eq_nil_of_length_eq_zero (by simpa using hmany)
      subst hnn
      have : (Builtin.append_ #[t, t2] ty #[.slice none 0 0, x]).run P w = .ok (.slice none 0 0) w := by
        rcases hd with ⟨e2, hd⟩ | hd <;> simp [Builtin.append_, run_underlying ht, run_underlying hd, sizeOf, typeInfo, hi, hlen, hcells]
      rw [this] at h1
      cases h1
      rfl
    · simp only [Value.slice.injEq, true_and] at hv
      obtain ⟨rfl, rfl⟩ := hv
      have hfit : n * i.size + news.length ≤ cur.size := by rw [hmany, hcs, ← Nat.add_mul]; exact Nat.mul_le_mul_right _ hroom
      have hst := run_storeCells_at P g (n * i.size) e news 0 cur w hgg (by simpa using hfit) hone
      simp only [Nat.add_zero] at hst
      have : ∃ w2, (Builtin.append_ #[t, t2] ty #[.slice (some ⟨g, 0, none⟩) n cap, x]).run P w = .ok (.slice (some ⟨g, 0, none⟩) (n + m) cap) w2 := by
        rcases hd with ⟨e2, hd⟩ | hd <;> simp [Builtin.append_, run_underlying ht, run_underlying hd, sizeOf, typeInfo, hi, hlen, hcells, hroom, Addr.add_lit, hst]
      obtain ⟨w2, this⟩ := this
      rw [this] at h1
      cases h1
      rfl

theorem wpList_append_any' {ops : Array Oper} {rest : List Oper} {o : Oper} {a : Act} {Q : Exit → Act → World → Prop} (hw : Region.wanted o (yielded ops a.tmps) = true) (s x : Operand) (t t2 : TypeId)
    (ho : o.op = .call { callee := .builtin .append, args := #[s, x], argTypes := #[t, t2] })
    (base : Nat) (e : TypeId) (z : Value) (size bytes : Nat) (ht : P.underlying t = some (.slice e)) (hinfo : (P.info? e).map (fun i => (i.zero, i.size, i.bytes)) = some (some z, size, bytes)) (hzs : z.cells.size = size)
    (v : Value) (n : Nat) (xs : List Value) (hs : a.eval s = v) (hown : w.ownsRow base e size v n xs) (u : Value) (m : Nat) (news : List Value) (hx : a.eval x = u) (hsrc : Src P size w t2 u m news)
    (hbytes : (n + m) * bytes ≤ 140737488355328) (h63 : n + m ≤ maxLen) (hbase : base ≤ w.heap.size)
    (h : ∀ v' w', w'.ownsRow base e size v' (n + m) (xs ++ news) → w.grownBy w' v.ownBlock → (v'.ownBlock = v.ownBlock ∨ ∃ k, w.heap.size ≤ k ∧ v'.ownBlock = some k) → wpList P ops Q rest (a.put o.dst v') w') : wpList P ops Q (o :: rest) a w := by
  obtain ⟨v', w', hr, h2, h3, h4⟩ := run_append_any' (w := w) base t o.type t2 e z size bytes ht hinfo hzs v n xs hown u m news hsrc hbytes h63 hbase
  unfold wpList
  rw [if_pos hw]
  refine .inl ?_
  unfold Oper.wp execOp
  simp only [ho, resolve, invoke, builtin, Sem.run_bind, Sem.run_pure, Result.andThen_ok, List.map_toArray, List.map_cons, List.map_nil, hs, hx, hr]
  exact h v' w' h2 h3 h4

/-- append, as one step of a region that draws. -/
theorem step_append_any' {ops : Array Oper} {o : Oper} {a : Act} {K : Act → World → Prop} {Q : Exit → Act → World → Prop} {E : Prop} (hgd : o.guard = none) (s x : Operand) (t t2 : TypeId)
    (ho : o.op = .call { callee := .builtin .append, args := #[s, x], argTypes := #[t, t2] })
    (base : Nat) (e : TypeId) (z : Value) (size bytes : Nat) (ht : P.underlying t = some (.slice e)) (hinfo : (P.info? e).map (fun i => (i.zero, i.size, i.bytes)) = some (some z, size, bytes)) (hzs : z.cells.size = size)
    (v : Value) (n : Nat) (xs : List Value) (hs : a.eval s = v) (hown : w.ownsRow base e size v n xs) (u : Value) (m : Nat) (news : List Value) (hx : a.eval x = u) (hsrc : Src P size w t2 u m news)
    (hbytes : (n + m) * bytes ≤ 140737488355328) (h63 : n + m ≤ maxLen) (hbase : base ≤ w.heap.size)
    (h : ∀ v' w', w'.ownsRow base e size v' (n + m) (xs ++ news) → w.grownBy w' v.ownBlock → (v'.ownBlock = v.ownBlock ∨ ∃ k, w.heap.size ≤ k ∧ v'.ownBlock = some k) → K (a.put o.dst v') w') :
    if Region.wanted o (yielded ops a.tmps) = true then Oper.wp P o a w K Q else E := by
  have hw : Region.wanted o (yielded ops a.tmps) = true := by simp [Region.wanted, hgd]
  rw [if_pos hw]
  obtain ⟨v', w', hr, h2, h3, h4⟩ := run_append_any' (w := w) base t o.type t2 e z size bytes ht hinfo hzs v n xs hown u m news hsrc hbytes h63 hbase
  unfold Oper.wp execOp
  simp only [ho, resolve, invoke, builtin, Sem.run_bind, Sem.run_pure, Result.andThen_ok, List.map_toArray, List.map_cons, List.map_nil, hs, hx, hr]
  exact h v' w' h2 h3 h4
end

/-- A slice of bytes that the call owns from block B on. -/
def OwnBytes (E B : Nat) (w : World) (v : Value) (l : List UInt8) : Prop := w.ownsRow B E 1 v l.length (l.map u8v)
theorem OwnBytes.is {E B : Nat} {w : World} {v : Value} {l : List UInt8} (h : OwnBytes E B w v l) : IsBytes w v l := ownsRow_isRow h
theorem OwnBytes.nil (E B : Nat) (w : World) : OwnBytes E B w (.slice none 0 0) [] := World.ownsRow_nil w B E 1
theorem u8v_one (l : List UInt8) : ∀ u ∈ l.map u8v, u.oneCell' = true := by
  intro u hu
  obtain ⟨b, _, rfl⟩ := List.mem_map.1 hu
  rfl
theorem IsBytes.src {P : Program} {w : World} {t2 e2 : TypeId} {x : Value} {l : List UInt8} (ht : P.underlying t2 = some (.slice e2)) (h : IsBytes w x l) : Src P 1 w t2 x l.length (l.map u8v) := Src.row ht h (u8v_one l)
theorem OwnBytes.made (E : Nat) (w : World) (B : Nat) (hB : B ≤ w.heap.size) : OwnBytes E B (w.alloc (.cells #[] E)) (.slice (some ⟨w.heap.size, 0, none⟩) 0 0) [] := World.ownsRow_made w #[] 0 hB (by simp [maxLen]) (by simp)

/-- append of bytes onto bytes of the call's own. -/
theorem wpList_append_bytes {P : Program} {w : World} {ops : Array Oper} {rest : List Oper} {o : Oper} {a : Act} {Q : Exit → Act → World → Prop} (hw : Region.wanted o (yielded ops a.tmps) = true) (s x : Operand) (t t2 : TypeId)
    (ho : o.op = .call { callee := .builtin .append, args := #[s, x], argTypes := #[t, t2] })
    (base : Nat) (e : TypeId) (ht : P.underlying t = some (.slice e)) (hinfo : (P.info? e).map (fun i => (i.zero, i.size, i.bytes)) = some (some (.int .u8 0), 1, 1))
    (v : Value) (l : List UInt8) (hs : a.eval s = v) (hown : OwnBytes e base w v l) (u : Value) (m : List UInt8) (hx : a.eval x = u) (hsrc : Src P 1 w t2 u m.length (m.map u8v))
    (hbytes : l.length + m.length ≤ 140737488355328) (hbase : base ≤ w.heap.size)
    (h : ∀ v' w', OwnBytes e base w' v' (l ++ m) → w.grownBy w' v.ownBlock → wpList P ops Q rest (a.put o.dst v') w') : wpList P ops Q (o :: rest) a w := by
  refine wpList_append_any hw s x t t2 ho base e (.int .u8 0) 1 1 ht hinfo rfl v l.length (l.map u8v) hs hown u m.length (m.map u8v) hx hsrc (by omega) (by simp only [maxLen]; omega) hbase ?_
  intro v' w' h1 h2
  refine h v' w' ?_ h2
  unfold OwnBytes
  rw [List.length_append, List.map_append]
  exact h1

/-- make([]byte, n). -/
theorem wpList_make_bytes {P : Program} {w : World} {ops : Array Oper} {rest : List Oper} {o : Oper} {a : Act} {Q : Exit → Act → World → Prop}
    (hg : o.guard = none) (x c : Operand) (t : TypeId) (hop : o.op = Op.makeSlice t x c)
    (base : Nat) (e : TypeId) (h1 : P.underlying t = some (.slice e)) (hinfo : (P.info? e).map (fun i => (i.zero, i.size, i.bytes)) = some (some (.int .u8 0), 1, 1))
    (n : Nat) (hl : a.eval x = .int .i64 n) (hc : a.eval c = .int .i64 n) (hn : n ≤ 281474976710656) (hbase : base ≤ w.heap.size)
    (hK : ∀ w', OwnBytes e base w' (.slice (some ⟨w.heap.size, 0, none⟩) n n) (List.replicate n 0) → w.grownBy w' none → wpList P ops Q rest (a.put o.dst (.slice (some ⟨w.heap.size, 0, none⟩) n n)) w') :
    wpList P ops Q (o :: rest) a w := by
  obtain ⟨i, hi, hz, hs, hb⟩ := info_parts hinfo
  refine wpList_make_full w hg x c t hop base e i (.int .u8 0) 1 h1 hi hz hs .i64 .i64 n n n hl hc rfl rfl (by rw [hb]; omega) (by simp only [maxLen]; omega) hbase ?_
  intro w' ho hgr
  refine hK w' ?_ hgr
  unfold OwnBytes
  rw [List.length_replicate, List.map_replicate]
  have e : (madeCells (Value.int .u8 0).cells (n * 1)).toList = List.replicate n (u8v 0) := by
    rw [Nat.mul_one]; exact toList_madeCells_one _ n
  rw [← e]
  exact ho

theorem OwnBytes.cellAt {E B g cap : Nat} {w : World} {n : Nat} {l : List UInt8} (h : OwnBytes E B w (.slice (some ⟨g, 0, none⟩) n cap) l) (j : Nat) (hj : j < l.length) : w.cell? ⟨g, j, none⟩ = some (.int .u8 (l[j].toNat : Int)) := by
  have hn : n = l.length := by
    obtain ⟨_, hr⟩ := h
    rcases hr with ⟨hv, _⟩ | ⟨_, _, _, hv, _⟩ <;> simp only [Value.slice.injEq] at hv
    · simp at hv
    · exact hv.2.1
  subst hn
  have := World.ownsRow.cellAt h j (by omega)
  rw [this, List.getElem?_map, List.getElem?_eq_getElem hj]
  rfl
theorem OwnBytes.frozenAt {E B g cap : Nat} {w : World} {n : Nat} {l : List UInt8} (h : OwnBytes E B w (.slice (some ⟨g, 0, none⟩) n cap) l) (j : Nat) : w.frozen? ⟨g, j, none⟩ = false := by
  have hn : n = l.length := by
    obtain ⟨_, hr⟩ := h
    rcases hr with ⟨hv, _⟩ | ⟨_, _, _, hv, _⟩ <;> simp only [Value.slice.injEq] at hv
    · simp at hv
    · exact hv.2.1
  subst hn
  exact World.ownsRow.frozenAt h j
theorem OwnBytes.stored {E B g cap : Nat} {w : World} {n : Nat} {l : List UInt8} (h : OwnBytes E B w (.slice (some ⟨g, 0, none⟩) n cap) l) (j : Nat) (x : UInt8) : OwnBytes E B (w.setCell ⟨g, j, none⟩ (.int .u8 (x.toNat : Int))) (.slice (some ⟨g, 0, none⟩) n cap) (l.set j x) := by
  have hn : n = l.length := by
    obtain ⟨_, hr⟩ := h
    rcases hr with ⟨hv, _⟩ | ⟨_, _, _, hv, _⟩ <;> simp only [Value.slice.injEq] at hv
    · simp at hv
    · exact hv.2.1
  subst hn
  have := World.ownsRow.stored h j (u8v x)
  unfold OwnBytes
  rw [List.length_set, List.map_set]
  exact this.1

theorem OwnBytes.shape {E B : Nat} {w : World} {v : Value} {l : List UInt8} (h : OwnBytes E B w v l) (hl : l ≠ []) : ∃ g cap, v = .slice (some ⟨g, 0, none⟩) l.length cap ∧ B ≤ g := by
  obtain ⟨_, hr⟩ := h
  rcases hr with ⟨hv, hn⟩ | ⟨g, cap, _, hv, hB, _⟩
  · exact absurd (List.eq_nil_of_length_eq_zero hn) hl
  · exact ⟨g, cap, hv, hB⟩

/-- What is owned stays, where nothing of what there was turns. -/
theorem OwnBytes.later {E B : Nat} {w w' : World} {v : Value} {l : List UInt8} (h : OwnBytes E B w v l) (hb : Below w.heap.size w w') : OwnBytes E B w' v l := by
  obtain ⟨hx, hr⟩ := h
  refine ⟨hx, ?_⟩
  rcases hr with hn | ⟨g, cap, cur, hv, hB, hg, rest⟩
  · exact .inl hn
  · exact .inr ⟨g, cap, cur, hv, hB, by rw [hb.block g (Array.getElem?_eq_some_iff.1 hg).1]; exact hg, rest⟩

end Go.Proofs.Ytfpkibfofainaaa
/- Readings of memory: a slice of byte slices that reads as a list of lists; copies of them. Over whatever program. -/
namespace Go.Proofs.Ytfpkibfofainaaa
open Go.RowKit

/-- A slice value that reads, in a world, as a list of byte strings. -/
def IsLists (w : World) (v : Value) (ll : List (List UInt8)) : Prop :=
  ∃ vs : List Value, IsRow 1 w v ll.length vs ∧ ∀ i (h : i < ll.length), ∃ u, vs[i]? = some u ∧ IsBytes w u ll[i]

theorem IsBytes.one {w : World} {v : Value} {l : List UInt8} (h : IsBytes w v l) : v.oneCell' = true := by
  obtain ⟨_, _, rfl, _⟩ := h; rfl
theorem IsLists.below {B : Nat} {w w' : World} {v : Value} {ll : List (List UInt8)} (h : IsLists w v ll) (hb : Below B w w') (hB : B = w.heap.size) : IsLists w' v ll := by
  obtain ⟨vs, hr, hv⟩ := h
  exact ⟨vs, hr.below hb hB, fun i hi => let ⟨u, h1, h2⟩ := hv i hi; ⟨u, h1, h2.below hb hB⟩⟩
theorem IsLists.out {w : World} {v : Value} {ll : List (List UInt8)} (h : IsLists w v ll) :
  ∃ base cap, v = .slice base ll.length cap ∧ ll.length ≤ cap ∧ cap ≤ maxLen ∧ (base = none → cap = 0) ∧
    ∀ i (h : i < ll.length), ∃ b off u, base = some ⟨b, off, none⟩ ∧ w.cell? ⟨b, off + i, none⟩ = some u ∧ IsBytes w u ll[i] := by
  obtain ⟨vs, ⟨base, cap, hv, hx, hl, hm, hn, hc⟩, hu⟩ := h
  refine ⟨base, cap, hv, hl, hm, hn, fun i hi => ?_⟩
  obtain ⟨u, h1, h2⟩ := hu i hi
  obtain ⟨b, off, e, hcell⟩ := hc i (by omega)
  have : vs[i]'(by omega) = u := by
    have := List.getElem?_eq_getElem (l := vs) (i := i) (by omega)
    rw [h1] at this
    exact (Option.some.inj this).symm
  exact ⟨b, off, u, e, by rw [hcell, this], h2⟩
theorem IsLists.parts {w : World} {v : Value} {ll : List (List UInt8)} (h : IsLists w v ll) : ∃ vs : List Value, IsRow 1 w v ll.length vs ∧ (∀ u ∈ vs, u.oneCell' = true) ∧ ∀ i (h : i < ll.length), ∃ u, vs[i]? = some u ∧ IsBytes w u ll[i] := by
  obtain ⟨vs, hr, hv⟩ := h
  refine ⟨vs, hr, fun u hu => ?_, hv⟩
  obtain ⟨i, hi, rfl⟩ := List.getElem_of_mem hu
  obtain ⟨_, _, _, hx, _⟩ := hr
  obtain ⟨u, h1, h2⟩ := hv i (by omega)
  rw [List.getElem?_eq_getElem hi] at h1
  cases h1
  exact h2.one

/-- A slice of byte slices that the call owns; what its elements lead to is as it may be. -/
def OwnLists (E B : Nat) (w : World) (v : Value) (ll : List (List UInt8)) : Prop :=
  ∃ vs : List Value, w.ownsRow B E 1 v ll.length vs ∧ ∀ i (h : i < ll.length), ∃ u, vs[i]? = some u ∧ IsBytes w u ll[i]
theorem OwnLists.is {E B : Nat} {w : World} {v : Value} {ll : List (List UInt8)} (h : OwnLists E B w v ll) : IsLists w v ll := by
  obtain ⟨vs, h1, h2⟩ := h
  exact ⟨vs, ownsRow_isRow h1, h2⟩
theorem OwnLists.shape {E B : Nat} {w : World} {v : Value} {ll : List (List UInt8)} (h : OwnLists E B w v ll) (hl : ll ≠ []) : ∃ g cap, v = .slice (some ⟨g, 0, none⟩) ll.length cap ∧ B ≤ g := by
  obtain ⟨_, ⟨_, hr⟩, _⟩ := h
  rcases hr with ⟨hv, hn⟩ | ⟨g, cap, _, hv, hB, _⟩
  · exact absurd (List.eq_nil_of_length_eq_zero hn) hl
  · exact ⟨g, cap, hv, hB⟩

/-- A store at a block keeps what does not lie in it. -/
theorem IsRow.setCell {sz n : Nat} {w : World} {v : Value} {xs : List Value} (h : IsRow sz w v n xs) (a : Addr) (u : Value) (hne : ∀ b, v.ownBlock = some b → b ≠ a.block) : IsRow sz (w.setCell a u) v n xs := by
  obtain ⟨base, cap, rfl, hx, hl, hm, hn, hc⟩ := h
  refine ⟨base, cap, rfl, hx, hl, hm, hn, fun i hi => ?_⟩
  obtain ⟨b, off, rfl, hcell⟩ := hc i hi
  refine ⟨b, off, rfl, ?_⟩
  rw [World.cell?_of_block (w := w) (heap_setCell_other w a b u (hne b rfl))]
  exact hcell
theorem IsBytes.setCell {w : World} {v : Value} {l : List UInt8} (h : IsBytes w v l) (a : Addr) (u : Value) (hne : ∀ b, v.ownBlock = some b → b ≠ a.block) : IsBytes (w.setCell a u) v l := IsRow.setCell h a u hne

theorem OwnLists.cellAt {E B g n cap : Nat} {w : World} {ll : List (List UInt8)} (h : OwnLists E B w (.slice (some ⟨g, 0, none⟩) n cap) ll) (i : Nat) (hi : i < ll.length) : ∃ ub uc, w.cell? ⟨g, i, none⟩ = some (.slice ub ll[i].length uc) ∧ IsBytes w (.slice ub ll[i].length uc) ll[i] := by
  obtain ⟨base, cap', hvv, _, _, _, hc⟩ := h.is.out
  cases hvv
  obtain ⟨b, off, u, hb, hcell, hu⟩ := hc i hi
  obtain ⟨ub, uc, rfl, _⟩ := hu.out
  cases hb
  exact ⟨ub, uc, by rw [← hcell, Nat.zero_add], hu⟩
theorem OwnLists.frozenAt {E B g n cap : Nat} {w : World} {ll : List (List UInt8)} (h : OwnLists E B w (.slice (some ⟨g, 0, none⟩) n cap) ll) (i : Nat) : w.frozen? ⟨g, i, none⟩ = false := by
  obtain ⟨vs, hr, _⟩ := h
  have hn : n = ll.length := by
    obtain ⟨_, hr⟩ := hr
    rcases hr with ⟨hv, _⟩ | ⟨_, _, _, hv, _⟩ <;> simp only [Value.slice.injEq] at hv
    · simp at hv
    · exact hv.2.1
  subst hn
  exact World.ownsRow.frozenAt hr i
/-- The row's own block is one of the call's: a store at another place keeps it. -/
theorem OwnLists.other {E B g n cap : Nat} {w : World} {ll : List (List UInt8)} (h : OwnLists E B w (.slice (some ⟨g, 0, none⟩) n cap) ll) (a : Addr) (u : Value) (hne : a.block ≠ g) (hall : ∀ j (h : j < ll.length) x, IsBytes w x ll[j] → IsBytes (w.setCell a u) x ll[j]) : OwnLists E B (w.setCell a u) (.slice (some ⟨g, 0, none⟩) n cap) ll := by
  obtain ⟨vs, hr, hv⟩ := h
  refine ⟨vs, ?_, fun i hi => ?_⟩
  · obtain ⟨h1, hr⟩ := hr
    refine ⟨h1, ?_⟩
    rcases hr with hr | ⟨g', cap', cur, hv', hB, hg, hr⟩
    · exact .inl hr
    · refine .inr ⟨g', cap', cur, hv', hB, ?_, hr⟩
      cases hv'
      rw [heap_setCell_other w a _ u (fun e => hne e.symm)]
      exact hg
  · obtain ⟨x, h1, h2⟩ := hv i hi
    exact ⟨x, h1, hall i hi x h2⟩

theorem IsRow.own {sz n : Nat} {w w' : World} {v : Value} {xs : List Value} (h : IsRow sz w v n xs) (hk : ∀ k, v.ownBlock = some k → w'.heap[k]? = w.heap[k]?) : IsRow sz w' v n xs := by
  obtain ⟨base, cap, rfl, hx, hl, hm, hn, hc⟩ := h
  refine ⟨base, cap, rfl, hx, hl, hm, hn, fun i hi => ?_⟩
  obtain ⟨b, off, rfl, hcell⟩ := hc i hi
  refine ⟨b, off, rfl, ?_⟩
  rw [World.cell?_of_block (w := w) (hk b rfl)]
  exact hcell
theorem IsRow.heap {sz n : Nat} {w w' : World} {v : Value} {xs : List Value} (h : IsRow sz w v n xs) (hk : ∀ k, k < w.heap.size → w'.heap[k]? = w.heap[k]?) : IsRow sz w' v n xs := by
  obtain ⟨base, cap, rfl, hx, hl, hm, hn, hc⟩ := h
  refine ⟨base, cap, rfl, hx, hl, hm, hn, fun i hi => ?_⟩
  obtain ⟨b, off, rfl, hcell⟩ := hc i hi
  refine ⟨b, off, rfl, ?_⟩
  have hb : b < w.heap.size := by
    rcases Nat.lt_or_ge b w.heap.size with h | h
    · exact h
    · simp [World.cell?, Array.getElem?_eq_none h] at hcell
  rw [World.cell?_of_block (w := w) (hk b hb)]
  exact hcell
/-- A reading that does not go through the blocks from lo to hi. -/
def IsListsOff (lo hi : Nat) (w : World) (v : Value) (ll : List (List UInt8)) : Prop := ∀ w' : World, (∀ k, ¬ (lo ≤ k ∧ k < hi) → w'.heap[k]? = w.heap[k]?) → IsLists w' v ll
theorem IsListsOff.is {lo hi : Nat} {w : World} {v : Value} {ll : List (List UInt8)} (h : IsListsOff lo hi w v ll) : IsLists w v ll := h w (fun _ _ => rfl)
theorem IsListsOff.set {lo hi : Nat} {w : World} {v : Value} {ll : List (List UInt8)} (h : IsListsOff lo hi w v ll) (p : Nat) (hp : lo ≤ p ∧ p < hi) (i : Nat) (u : Value) : IsListsOff lo hi (w.setCell ⟨p, i, none⟩ u) v ll :=
  fun w' hw => h w' (fun k hk => (hw k hk).trans (heap_setCell_other _ _ _ _ (fun e => hk (by rw [e]; exact hp))))
theorem IsListsOff.setRow {lo hi : Nat} {w : World} {v : Value} {ll : List (List UInt8)} (h : IsListsOff lo hi w v ll) (p : Nat) (hp : lo ≤ p ∧ p < hi) (cs : Array Value) : IsLists (w.setRow p cs) v ll :=
  h _ (fun k hk => setRow_other w p k _ (fun e => hk (by rw [e]; exact hp)))

theorem IsLists.heap {w w' : World} {v : Value} {ll : List (List UInt8)} (h : IsLists w v ll) (hk : ∀ k, k < w.heap.size → w'.heap[k]? = w.heap[k]?) : IsLists w' v ll := by
  obtain ⟨vs, hr, hv⟩ := h
  exact ⟨vs, hr.heap hk, fun i hi => let ⟨u, h1, h2⟩ := hv i hi; ⟨u, h1, IsRow.heap h2 hk⟩⟩
theorem setCell_grown (w : World) (a : Addr) (u : Value) : w.grownBy (w.setCell a u) (some a.block) :=
  ⟨rfl, rfl, rfl, by simp [World.setCell], fun k _ hk => heap_setCell_other w a k u (fun e => hk (by rw [e]))⟩
/-- A row of byte slices whose elements are read in an older world. -/
theorem isLists_of_row {w : World} {v : Value} {vs : List Value} {ll : List (List UInt8)} (hr : IsRow 1 w v ll.length vs) (hv : ∀ i (h : i < ll.length), ∃ u, vs[i]? = some u ∧ IsBytes w u ll[i]) : IsLists w v ll := ⟨vs, hr, hv⟩

/-- A cell stored anew in a row that the call owns. -/
theorem OwnLists.stored {E B g n cap : Nat} {w : World} {ll : List (List UInt8)} (h : OwnLists E B w (.slice (some ⟨g, 0, none⟩) n cap) ll) (i : Nat) (u : Value) (l : List UInt8) (hi : i < ll.length)
    (hu : IsBytes (w.setCell ⟨g, i, none⟩ u) u l) (hall : ∀ j (h : j < ll.length) x, j ≠ i → IsBytes w x ll[j] → IsBytes (w.setCell ⟨g, i, none⟩ u) x ll[j]) : OwnLists E B (w.setCell ⟨g, i, none⟩ u) (.slice (some ⟨g, 0, none⟩) n cap) (ll.set i l) := by
  obtain ⟨vs, hr, hv⟩ := h
  have hn : n = ll.length := by
    obtain ⟨_, hr⟩ := hr
    rcases hr with ⟨hv, _⟩ | ⟨_, _, _, hv, _⟩ <;> simp only [Value.slice.injEq] at hv
    · simp at hv
    · exact hv.2.1
  subst hn
  have hlen : vs.length = ll.length := by rw [hr.1]; omega
  refine ⟨vs.set i u, by rw [List.length_set]; exact (World.ownsRow.stored hr i u).1, fun j hj => ?_⟩
  rw [List.length_set] at hj
  by_cases e : i = j
  · subst e
    refine ⟨u, ?_, ?_⟩
    · rw [List.getElem?_set, if_pos rfl, if_pos (by omega)]
    · rw [List.getElem_set_self]; exact hu
  · obtain ⟨x, h1, h2⟩ := hv j hj
    refine ⟨x, ?_, ?_⟩
    · rw [List.getElem?_set, if_neg e]; exact h1
    · rw [List.getElem_set_ne e]
      exact hall j hj x (fun e' => e e'.symm) h2

/-- copy of bytes onto bytes of the call's own, from their head on. -/
theorem wpList_copy_bytes {P : Program} {w : World} {ops : Array Oper} {rest : List Oper} {o : Oper} {a : Act} {Q : Exit → Act → World → Prop} (hgd : o.guard = none) (d s : Operand) (dT sT : TypeId)
    (ho : o.op = .call { callee := .builtin .copy, args := #[d, s], argTypes := #[dT, sT] }) (e : TypeId) (hu : P.underlying dT = some (.slice e)) (hsz : (P.info? e).map (·.size) = some 1)
    (B g n cap : Nat) (l : List UInt8) (hd : a.eval d = .slice (some ⟨g, 0, none⟩) n cap) (hown : OwnBytes e B w (.slice (some ⟨g, 0, none⟩) n cap) l) (u : Value) (m : List UInt8) (hs : a.eval s = u) (hsrc : IsBytes w u m) (hml : m.length ≤ l.length)
    (h : ∀ w', OwnBytes e B w' (.slice (some ⟨g, 0, none⟩) n cap) (m ++ l.drop m.length) → w.grownBy w' (some g) → wpList P ops Q rest (a.put o.dst (goInt m.length)) w') : wpList P ops Q (o :: rest) a w := by
  obtain ⟨hxl, hr⟩ := hown
  rcases hr with ⟨hv, -⟩ | ⟨g', cap', cur, hv, hB, hg, hnc, hcm, hcs, htake⟩
  · simp at hv
  simp only [Value.slice.injEq, Option.some.injEq, Addr.mk.injEq, and_true] at hv
  obtain ⟨rfl, rfl, rfl⟩ := hv
  obtain ⟨base, ucap, rfl, hmx, hml2, hmm, hmn, hmc⟩ := hsrc
  have hmin : Nat.min m.length l.length = m.length := Nat.min_eq_left hml
  by_cases h0 : m.length = 0
  · have hm0 : m = [] := List.eq_nil_of_length_eq_zero h0
    subst hm0
    refine wpList_copy_nothing hgd d s dT sT ho e hu hsz (some ⟨g, 0, none⟩) base l.length cap 0 ucap hd hs (by simp) ?_
    exact h w ⟨hxl, .inr ⟨g, cap, cur, rfl, hB, hg, hnc, hcm, hcs, htake⟩⟩ ⟨rfl, rfl, rfl, Nat.le_refl _, fun _ _ _ => rfl⟩
  · obtain ⟨b, off, rfl, -⟩ := hmc 0 (by rw [List.length_map]; omega)
    have hcsl : cur.size = cap := by omega
    refine wpList_copy_own hgd d s dT sT ho e hu hsz g 0 l.length cap ⟨b, off, none⟩ m.length ucap hd hs cur e hg (m.map u8v) (by rw [List.length_map]; exact hmin.symm) ?_ (by rw [List.length_map]; omega) (u8v_one m) ?_
    · intro j v hv
      obtain ⟨hj, hv'⟩ := List.getElem?_eq_some_iff.1 hv
      obtain ⟨b', off', e', hcell⟩ := hmc j hj
      cases e'
      rw [Addr.add_lit, hcell, hv']
    · have hlen : (m ++ l.drop m.length).length = l.length := by rw [List.length_append, List.length_drop]; omega
      have key : OwnBytes e B (w.setRow g (cur.toList.take 0 ++ (m.map u8v ++ cur.toList.drop (0 + (m.map u8v).length))).toArray) (.slice (some ⟨g, 0, none⟩) l.length cap) (m ++ l.drop m.length) := by
        unfold OwnBytes
        rw [hlen]
        refine ⟨by rw [List.length_map, hlen]; omega, .inr ⟨g, cap, _, rfl, hB, setRow_heap w g cur _ e _ hg, hnc, hcm, ?_, ?_⟩⟩
        · simp only [List.size_toArray, List.length_append, List.length_take, List.length_drop, List.length_map, Array.length_toList]
          omega
        · simp only [List.take_zero, List.nil_append, Nat.zero_add, List.map_append, List.map_drop]
          rw [← htake, List.take_append, List.length_map, List.take_of_length_le (by rw [List.length_map]; omega)]
          congr 1
          rw [List.take_drop]
          congr 2
          omega
      have := h _ key ⟨rfl, rfl, rfl, by simp, fun k _ hk => setRow_other w g k _ (fun e => hk (by simp [e]))⟩
      rw [List.length_map] at this ⊢
      exact this

end Go.Proofs.Ytfpkibfofainaaa
/- Readings that do not go through certain blocks: a world with these blocks blotted out. Over whatever program. -/
namespace Go.Proofs.Ytfpkibfofainaaa
open Go.RowKit

/-- The world without what lies in the blocks of S. -/
def mask (S : Nat → Bool) (w : World) : World := { w with heap := w.heap.mapIdx fun k o => if S k then .cells #[] 0 else o }
/-- Every cell that reads in w reads in w' likewise. -/
def Sub (w w' : World) : Prop := ∀ a v, w.cell? a = some v → w'.cell? a = some v

theorem Sub.refl (w : World) : Sub w w := fun _ _ h => h
theorem Sub.trans {a b c : World} (h : Sub a b) (k : Sub b c) : Sub a c := fun x v hx => k x v (h x v hx)
theorem cell_block_lt {w : World} {a : Addr} {v : Value} (h : w.cell? a = some v) : a.block < w.heap.size := by
  rcases Nat.lt_or_ge a.block w.heap.size with h' | h'
  · exact h'
  · simp [World.cell?, Array.getElem?_eq_none h'] at h
theorem Sub.of_heap {w w' : World} (h : ∀ k, k < w.heap.size → w'.heap[k]? = w.heap[k]?) : Sub w w' := fun _ _ hx => (World.cell?_of_block (h _ (cell_block_lt hx))).trans hx
theorem Sub.below {B : Nat} {w w' : World} (hb : Below B w w') (hB : B = w.heap.size) : Sub w w' := Sub.of_heap fun k hk => hb.block k (hB ▸ hk)

theorem mask_heap (S : Nat → Bool) (w : World) (k : Nat) : (mask S w).heap[k]? = (w.heap[k]?).map fun o => if S k then .cells #[] 0 else o := by simp [mask]
theorem mask_size (S : Nat → Bool) (w : World) : (mask S w).heap.size = w.heap.size := by simp [mask]
theorem mask_block (S : Nat → Bool) (w : World) (k : Nat) (h : S k = false) : (mask S w).heap[k]? = w.heap[k]? := by
  rw [mask_heap]
  cases w.heap[k]? <;> simp [h]
theorem mask_none (S : Nat → Bool) (w : World) (a : Addr) (v : Value) (h : (mask S w).cell? a = some v) : S a.block = false := by
  cases hs : S a.block with
  | false => rfl
  | true =>
    simp only [World.cell?, mask_heap, hs, if_true] at h
    cases hq : w.heap[a.block]? <;> simp [hq] at h
/-- What reads off S reads on off S', where what S' holds besides is new. -/
theorem mask_sub {S S' : Nat → Bool} {w w' : World} (h : ∀ k, k < w.heap.size → S k = false → S' k = false ∧ w'.heap[k]? = w.heap[k]?) : Sub (mask S w) (mask S' w') := fun a v hx => by
  have hs := mask_none S w a v hx
  have hl := cell_block_lt hx
  rw [mask_size] at hl
  obtain ⟨h1, h2⟩ := h a.block hl hs
  rw [World.cell?_of_block (w := w) ((mask_block S' w' _ h1).trans h2), ← World.cell?_of_block (w := w) (mask_block S w _ hs)]
  exact hx
theorem mask_is (S : Nat → Bool) (w : World) : Sub (mask S w) w := fun a v hx => by
  rw [← World.cell?_of_block (w := w) (mask_block S w _ (mask_none S w a v hx))]
  exact hx
/-- What was there at the entry reads off the blocks of the call's own. -/
theorem mask_old {B : Nat} {S : Nat → Bool} {w w' : World} (hb : Below B w w') (hB : B = w.heap.size) (hS : ∀ k, S k = true → B ≤ k) : Sub w (mask S w') := fun a v hx => by
  have hl := cell_block_lt hx
  have hs : S a.block = false := by
    cases h : S a.block with
    | false => rfl
    | true => have := hS _ h; omega
  rw [World.cell?_of_block (w := w) ((mask_block S w' _ hs).trans (hb.block _ (hB ▸ hl)))]
  exact hx
theorem mask_below {B : Nat} {S : Nat → Bool} {w w' : World} (hb : Below B w w') (hB : B = w.heap.size) : Sub (mask S w) (mask S w') :=
  mask_sub fun k hk hs => ⟨hs, hb.block k (hB ▸ hk)⟩
/-- S grows by blocks that are new. -/
theorem mask_more {B : Nat} {S S' : Nat → Bool} {w w' : World} (hb : Below B w w') (hB : B = w.heap.size) (hS : ∀ k, S' k = true → S k = true ∨ B ≤ k) : Sub (mask S w) (mask S' w') :=
  mask_sub fun k hk hs => ⟨(by
    cases h : S' k with
    | false => rfl
    | true =>
      rcases hS k h with h' | h'
      · rw [h'] at hs; cases hs
      · omega), hb.block k (hB ▸ hk)⟩
theorem mask_less {S S' : Nat → Bool} {w : World} (hS : ∀ k, S' k = true → S k = true) : Sub (mask S w) (mask S' w) :=
  mask_sub fun k _ hs => ⟨(by
    cases h : S' k with
    | false => rfl
    | true => rw [hS k h] at hs; cases hs), rfl⟩
theorem mask_set {S : Nat → Bool} {w : World} (p : Addr) (u : Value) (hp : S p.block = true) : Sub (mask S w) (mask S (w.setCell p u)) :=
  mask_sub fun k _ hs => ⟨hs, heap_setCell_other _ _ _ _ (fun e => by rw [e, hp] at hs; cases hs)⟩
theorem mask_setRow {S : Nat → Bool} {w : World} (p : Nat) (cs : Array Value) (hp : S p = true) : Sub (mask S w) (mask S (w.setRow p cs)) :=
  mask_sub fun k _ hs => ⟨hs, setRow_other _ _ _ _ (fun e => by rw [e, hp] at hs; cases hs)⟩
theorem mask_grown {S : Nat → Bool} {w w' : World} {row : Option Nat} (hg : w.grownBy w' row) (hr : ∀ k, row = some k → S k = true) : Sub (mask S w) (mask S w') :=
  mask_sub fun k hk hs => ⟨hs, hg.block k hk (fun e => by rw [hr k e.symm] at hs; cases hs)⟩
theorem mask_drewN {S : Nat → Bool} {w : World} (n : Nat) : Sub (mask S w) (mask S (w.drewN n)) := mask_sub fun _ _ hs => ⟨hs, rfl⟩
theorem mask_drew {S : Nat → Bool} {w : World} : Sub (mask S w) (mask S w.drew) := mask_sub fun _ _ hs => ⟨hs, rfl⟩

theorem IsRow.sub {sz n : Nat} {w w' : World} {v : Value} {xs : List Value} (h : IsRow sz w v n xs) (k : Sub w w') : IsRow sz w' v n xs := by
  obtain ⟨base, cap, rfl, hx, hl, hm, hn, hc⟩ := h
  refine ⟨base, cap, rfl, hx, hl, hm, hn, fun i hi => ?_⟩
  obtain ⟨b, off, rfl, hcell⟩ := hc i hi
  exact ⟨b, off, rfl, k _ _ hcell⟩
theorem IsBytes.sub {w w' : World} {v : Value} {l : List UInt8} (h : IsBytes w v l) (k : Sub w w') : IsBytes w' v l := IsRow.sub h k
theorem IsLists.sub {w w' : World} {v : Value} {ll : List (List UInt8)} (h : IsLists w v ll) (k : Sub w w') : IsLists w' v ll := by
  obtain ⟨vs, hr, hv⟩ := h
  exact ⟨vs, hr.sub k, fun i hi => let ⟨u, h1, h2⟩ := hv i hi; ⟨u, h1, h2.sub k⟩⟩
/-- What the call owns from B on reads off whatever lies below B. -/
theorem ownsRow_mask {B E sz n : Nat} {S : Nat → Bool} {w : World} {v : Value} {xs : List Value} (h : w.ownsRow B E sz v n xs) (hS : ∀ k, v.ownBlock = some k → S k = false) : IsRow sz (mask S w) v n xs :=
  (ownsRow_isRow h).own fun k hk => mask_block S w k (hS k hk)
theorem OwnBytes.mask {E B : Nat} {S : Nat → Bool} {w : World} {v : Value} {l : List UInt8} (h : OwnBytes E B w v l) (hS : ∀ k, S k = true → k < B) : IsBytes (mask S w) v l :=
  ownsRow_mask h fun k hk => by
    have := (World.ownsRow.lt h k hk).1
    cases hs : S k with
    | false => rfl
    | true => have := hS k hs; omega
theorem mask_row {sz n : Nat} {S : Nat → Bool} {w : World} {v : Value} {xs : List Value} (h : IsRow sz w v n xs) (hS : ∀ k, v.ownBlock = some k → S k = false) : IsRow sz (mask S w) v n xs :=
  h.own fun k hk => mask_block S w k (hS k hk)

/-- The blocks of S, and the row's own. -/
def orOwn (S : Nat → Bool) (v : Value) : Nat → Bool := fun k => S k || decide (v.ownBlock = some k)
theorem orOwn_no {S : Nat → Bool} {v : Value} {k : Nat} : orOwn S v k = false ↔ S k = false ∧ v.ownBlock ≠ some k := by simp [orOwn]
/-- A slice of byte slices that the call owns; its elements read off S and off the row itself. -/
def OwnLs (S : Nat → Bool) (E B : Nat) (w : World) (v : Value) (ll : List (List UInt8)) : Prop :=
  ∃ vs : List Value, w.ownsRow B E 1 v ll.length vs ∧ ∀ i (h : i < ll.length), ∃ u, vs[i]? = some u ∧ IsBytes (mask (orOwn S v) w) u ll[i]
theorem OwnLs.nil (S : Nat → Bool) (E B : Nat) (w : World) : OwnLs S E B w (.slice none 0 0) [] := ⟨[], World.ownsRow_nil w B E 1, fun i h => absurd h (by simp)⟩
theorem OwnLs.is {S : Nat → Bool} {E B : Nat} {w : World} {v : Value} {ll : List (List UInt8)} (h : OwnLs S E B w v ll) (hS : ∀ k, S k = true → k < B) : IsLists (mask S w) v ll := by
  obtain ⟨vs, hr, hv⟩ := h
  refine isLists_of_row (vs := vs) (ownsRow_mask hr fun k hk => ?_) (fun i hi => ?_)
  · have := (World.ownsRow.lt hr k hk).1
    cases hs : S k with
    | false => rfl
    | true => have := hS k hs; omega
  · obtain ⟨u, h1, h2⟩ := hv i hi
    exact ⟨u, h1, h2.sub (mask_less fun k hk => by simp [orOwn, hk])⟩
theorem orOwn_append {S : Nat → Bool} {w w' : World} {v v' : Value} (hg : w.grownBy w' v.ownBlock) (ho : v'.ownBlock = v.ownBlock ∨ ∃ k, w.heap.size ≤ k ∧ v'.ownBlock = some k) : Sub (mask (orOwn S v) w) (mask (orOwn S v') w') :=
  mask_sub fun k hk hs => by
    obtain ⟨h1, h2⟩ := orOwn_no.1 hs
    refine ⟨orOwn_no.2 ⟨h1, ?_⟩, hg.block k hk (fun e => h2 e.symm)⟩
    rcases ho with ho | ⟨k', hk', ho⟩ <;> rw [ho]
    · exact h2
    · intro e; cases e; omega
theorem OwnLs.append {S : Nat → Bool} {E B : Nat} {w w' : World} {v v' u : Value} {vs : List Value} {ll : List (List UInt8)} {l : List UInt8} (hv : ∀ i (h : i < ll.length), ∃ u, vs[i]? = some u ∧ IsBytes (mask (orOwn S v) w) u ll[i]) (hl : vs.length = ll.length)
    (hr : w'.ownsRow B E 1 v' (ll.length + 1) (vs ++ [u])) (hg : w.grownBy w' v.ownBlock) (ho : v'.ownBlock = v.ownBlock ∨ ∃ k, w.heap.size ≤ k ∧ v'.ownBlock = some k) (hu : IsBytes (mask (orOwn S v) w) u l) : OwnLs S E B w' v' (ll ++ [l]) := by
  refine ⟨vs ++ [u], by rw [List.length_append]; exact hr, fun i hi => ?_⟩
  rw [List.length_append, List.length_singleton] at hi
  by_cases e : i < ll.length
  · obtain ⟨x, h1, h2⟩ := hv i e
    refine ⟨x, by rw [List.getElem?_append_left (by omega)]; exact h1, ?_⟩
    rw [List.getElem_append_left e]
    exact h2.sub (orOwn_append hg ho)
  · obtain rfl : i = ll.length := by omega
    refine ⟨u, by rw [List.getElem?_append_right (by omega), hl]; simp, ?_⟩
    rw [List.getElem_append_right (Nat.le_refl _)]
    simpa using hu.sub (orOwn_append hg ho)
/-- What turns S alone, or is new, keeps it. -/
theorem OwnLs.keep {S S' : Nat → Bool} {E B : Nat} {w w' : World} {v : Value} {ll : List (List UInt8)} (h : OwnLs S E B w v ll) (hk : ∀ k, k < w.heap.size → S k = false → S' k = false ∧ w'.heap[k]? = w.heap[k]?) (hv : ∀ k, v.ownBlock = some k → S k = false) : OwnLs S' E B w' v ll := by
  obtain ⟨vs, hr, he⟩ := h
  refine ⟨vs, ?_, fun i hi => ?_⟩
  · obtain ⟨h1, hr⟩ := hr
    refine ⟨h1, ?_⟩
    rcases hr with hr | ⟨g, cap, cur, rfl, hB, hg, hr⟩
    · exact .inl hr
    · refine .inr ⟨g, cap, cur, rfl, hB, ?_, hr⟩
      rw [(hk g (Array.getElem?_eq_some_iff.1 hg).1 (hv g rfl)).2]
      exact hg
  · obtain ⟨u, h1, h2⟩ := he i hi
    refine ⟨u, h1, h2.sub (mask_sub fun k hkk hs => ?_)⟩
    obtain ⟨a, b⟩ := orOwn_no.1 hs
    obtain ⟨c, d⟩ := hk k hkk a
    exact ⟨orOwn_no.2 ⟨c, b⟩, d⟩

/-- s[lo:], as the walk spells it. -/
theorem IsBytes.from_ {w : World} {base : Option Addr} {n cap : Nat} {l : List UInt8} (h : IsBytes w (.slice base n cap) l) (lo : Nat) (hlo : lo ≤ l.length) : IsBytes w (.slice (if cap = lo then base else base.map (·.add lo)) (n - lo) (cap - lo)) (l.drop lo) := by
  have hn : n = l.length ∧ n ≤ cap := by obtain ⟨_, _, e, _, hl, _⟩ := h; cases e; exact ⟨rfl, hl⟩
  obtain ⟨rfl, hc⟩ := hn
  have := h.part lo l.length cap hlo (Nat.le_refl _) hc (Nat.le_refl _)
  rwa [List.take_length] at this

theorem own_block {B E sz n : Nat} {w : World} {v : Value} {xs : List Value} (h : w.ownsRow B E sz v n xs) (hn : n ≠ 0) : ∃ g c, v = .slice (some ⟨g, 0, none⟩) n c ∧ B ≤ g ∧ g < w.heap.size := by
  obtain ⟨_, hr⟩ := h
  rcases hr with ⟨_, h0⟩ | ⟨g, cap, cur, rfl, hB, hh, _⟩
  · exact absurd h0 hn
  · exact ⟨g, cap, rfl, hB, (Array.getElem?_eq_some_iff.1 hh).1⟩
theorem own_slice {B E sz n : Nat} {w : World} {v : Value} {xs : List Value} (h : w.ownsRow B E sz v n xs) : ∃ b c, v = .slice b n c := by
  obtain ⟨b, c, h, _⟩ := ownsRow_isRow h
  exact ⟨b, c, h⟩

end Go.Proofs.Ytfpkibfofainaaa
/- A slice that reads as a list, whatever its elements: each takes sz cells, which read as the element. Over whatever program. -/
namespace Go.Proofs.Ytfpkibfofainaaa
open Go.RowKit

/-- What cells read as. -/
abbrev Rd (α : Type) := World → List Value → α → Prop
def Rd.Up {α : Type} (R : Rd α) : Prop := ∀ w w' cs a, Sub w w' → R w cs a → R w' cs a
/-- A slice value that reads as a list. -/
def IsSeq {α : Type} (sz : Nat) (R : Rd α) (w : World) (v : Value) (l : List α) : Prop :=
  ∃ xs, IsRow sz w v l.length xs ∧ ∀ i (h : i < l.length), R w ((xs.drop (i * sz)).take sz) l[i]

section
variable {α : Type} {sz : Nat} {R : Rd α} {w w' : World} {v : Value} {l : List α}
theorem IsSeq.sub (hR : R.Up) (h : IsSeq sz R w v l) (k : Sub w w') : IsSeq sz R w' v l := by
  obtain ⟨xs, h1, h2⟩ := h
  exact ⟨xs, h1.sub k, fun i hi => hR _ _ _ _ k (h2 i hi)⟩
theorem IsSeq.below (hR : R.Up) {B : Nat} (h : IsSeq sz R w v l) (hb : Below B w w') (hB : B = w.heap.size) : IsSeq sz R w' v l := h.sub hR (Sub.below hb hB)
theorem IsSeq.nil (sz : Nat) (R : Rd α) (w : World) : IsSeq sz R w (.slice none 0 0) [] := ⟨[], IsRow.nil sz w, fun i h => absurd h (by simp)⟩
theorem IsSeq.shape (h : IsSeq sz R w v l) : ∃ base cap, v = .slice base l.length cap ∧ l.length ≤ cap ∧ cap ≤ maxLen ∧ (base = none → cap = 0) := by
  obtain ⟨xs, ⟨base, cap, h1, h2, h3, h4, h5, _⟩, _⟩ := h
  exact ⟨base, cap, h1, h3, h4, h5⟩
/-- An element's cells. -/
theorem IsSeq.at_ {base : Option Addr} {n cap : Nat} (h : IsSeq sz R w (.slice base n cap) l) (hs : 0 < sz) (i : Nat) (hi : i < l.length) :
    ∃ b off cs, base = some ⟨b, off, none⟩ ∧ cs.length = sz ∧ (∀ j (hj : j < sz), w.cell? ⟨b, off + (i * sz + j), none⟩ = cs[j]?) ∧ R w cs l[i] := by
  obtain ⟨xs, ⟨base', cap', e, h2, h3, h4, h5, hc⟩, hR⟩ := h
  cases e
  have hlt : i * sz + sz ≤ xs.length := by
    rw [h2, ← Nat.succ_mul]
    exact Nat.mul_le_mul_right _ hi
  obtain ⟨b, off, rfl, -⟩ := hc (i * sz) (by omega)
  refine ⟨b, off, _, rfl, ?_, fun j hj => ?_, hR i hi⟩
  · rw [List.length_take, List.length_drop]; omega
  · obtain ⟨b', off', e, hx⟩ := hc (i * sz + j) (by omega)
    cases e
    rw [hx, List.getElem?_take_of_lt hj, List.getElem?_drop, List.getElem?_eq_getElem (by omega)]
theorem Mono.seq (hR : R.Up) (v : Value) (l : List α) : ∀ a b, Sub a b → IsSeq sz R a v l → IsSeq sz R b v l := fun _ _ h p => p.sub hR h

/-- Byte slices. -/
def rdBytes : Rd (List UInt8) := fun w cs l => ∃ u, cs = [u] ∧ IsBytes w u l
theorem rdBytes_up : rdBytes.Up := fun _ _ _ _ k ⟨u, h1, h2⟩ => ⟨u, h1, h2.sub k⟩
theorem take1 {xs : List Value} {i : Nat} (h : i < xs.length) : (xs.drop (i * 1)).take 1 = [xs[i]] := by
  rw [Nat.mul_one, List.drop_eq_getElem_cons h, List.take_succ_cons, List.take_zero]
theorem IsSeq.lists {ll : List (List UInt8)} (h : IsSeq 1 rdBytes w v ll) : IsLists w v ll := by
  obtain ⟨xs, h1, h2⟩ := h
  have hx : xs.length = ll.length := by obtain ⟨_, _, _, hx, _⟩ := h1; omega
  refine ⟨xs, h1, fun i hi => ?_⟩
  obtain ⟨u, h3, h4⟩ := h2 i hi
  rw [take1 (by omega)] at h3
  refine ⟨u, ?_, h4⟩
  rw [List.getElem?_eq_getElem (by omega)]
  simp at h3
  rw [h3]
end
end Go.Proofs.Ytfpkibfofainaaa
/- Opening the arguments of a statement, whatever their shape: readings at the level of cells. Over whatever program. -/
namespace Go.Proofs.Ytfpkibfofainaaa
open Go.ChangeShapes Go.WideShapes Go.ChangeAt Go.RowKit Go.Deep

section
variable {H : Type} {enc : TypeId × Value → H} {P : Program} {W : World} {base : Nat} {spare : Nat → Bool} {held : Bool} {t e : TypeId} {n : Nat} {cs : List Value} {x : DataW H × List MemPlace}
/-- A slice, its elements opened one by one. -/
theorem trod_seq {α : Type} [Inhabited α] {R : Rd α} {Q : DataW H → α → Prop} {sz : Nat} (ht : P.underlying t = some (.slice e)) (hc : P.cellsOf e = sz) (hs : 0 < sz)
    (hel : ∀ n cs x, DataW.trod enc P W base spare held n e cs = some x → ∃ a, R W cs a ∧ Q x.1 a) (h : DataW.trod enc P W base spare held n t cs = some x) :
    ∃ v l, cs = [v] ∧ IsSeq sz R W v l ∧ ((x.1 = .nil ∧ l = []) ∨ ∃ ds sp, x.1 = .slice ds sp ∧ ds.length = l.length ∧ ∀ i (h : i < l.length), ∃ d, ds[i]? = some d ∧ Q d l[i]) := by
  rcases open_slice ht h with ⟨rfl, rfl⟩ | ⟨a, len, cap, m, n, D, Pl, rfl, _, hl, hm, hmm, rfl, hi⟩
  · exact ⟨_, [], rfl, IsSeq.nil sz R W, .inl ⟨rfl, rfl⟩⟩
  · have hlm : len ≤ m := by rw [hmm]; split <;> omega
    have hex : ∀ i, i < len → ∃ b : α × List Value, b.2.length = sz ∧ (∀ j, j < sz → W.cell? (a.add (i * sz + j)) = b.2[j]?) ∧ R W b.2 b.1 ∧ Q (D i) b.1 := fun i hil => by
      obtain ⟨cs', h1, h2⟩ := hi i (by omega)
      rw [hc] at h1
      obtain ⟨b, h3, h4⟩ := hel _ _ _ h2
      obtain ⟨_, hlen, h5⟩ := World.cells?_some h1
      exact ⟨(b, cs'), hlen, fun j hj => by rw [← Go.Deep.add_add]; exact h5 j hj, h3, h4⟩
    obtain ⟨f, hF⟩ := choose_lt hex
    have hxl : ((List.range len).flatMap fun i => (f i).2).length = len * sz := by
      have : ∀ k, k ≤ len → ((List.range k).flatMap fun i => (f i).2).length = k * sz := by
        intro k
        induction k with
        | zero => intro _; simp
        | succ k ih =>
          intro hk
          rw [List.range_succ, List.flatMap_append, List.length_append, ih (by omega)]
          simp only [List.flatMap_cons, List.flatMap_nil, List.append_nil]
          rw [(hF k (by omega)).1, Nat.succ_mul]
      exact this len (Nat.le_refl _)
    have hget : ∀ i, i < len → (((List.range len).flatMap fun i => (f i).2).drop (i * sz)).take sz = (f i).2 := by
      intro i hil
      have h1 : ∀ k, k ≤ len → ((List.range k).flatMap fun i => (f i).2).length = k * sz := by
        intro k
        induction k with
        | zero => intro _; simp
        | succ k ih =>
          intro hk
          rw [List.range_succ, List.flatMap_append, List.length_append, ih (by omega)]
          simp only [List.flatMap_cons, List.flatMap_nil, List.append_nil]
          rw [(hF k (by omega)).1, Nat.succ_mul]
      have h2 : List.range len = List.range i ++ i :: (List.range (len - (i + 1))).map (· + (i + 1)) := by
        have e1 : len = (i + 1) + (len - (i + 1)) := by omega
        conv => lhs; rw [e1, List.range_add]
        rw [List.range_succ, List.append_assoc]
        simp only [List.cons_append, List.nil_append]
        congr 2
        apply List.map_congr_left
        intro q _
        omega
      rw [h2, List.flatMap_append, List.flatMap_cons, ← h1 i (by omega), List.drop_left, ← (hF i hil).1, List.take_left]
    refine ⟨_, (List.range len).map fun i => (f i).1, rfl, ⟨(List.range len).flatMap fun i => (f i).2, ?_, fun i hi' => ?_⟩, .inr ⟨_, _, rfl, by simp, fun i hi' => ?_⟩⟩
    · have hl2 : ((List.range len).map fun i => (f i).1).length = len := by simp
      rw [hl2]
      refine ⟨_, _, rfl, hxl, hl, hm, (fun h => by cases h), fun k hk => ?_⟩
      rw [hxl] at hk
      have hq : k / sz < len := (Nat.div_lt_iff_lt_mul hs).2 hk
      have hr : k % sz < sz := Nat.mod_lt _ hs
      have hkk : k / sz * sz + k % sz = k := by rw [Nat.mul_comm]; exact Nat.div_add_mod k sz
      have h1 := (hF (k / sz) hq).2.1 (k % sz) hr
      rw [hkk, ← hget (k / sz) hq, List.getElem?_take_of_lt hr, List.getElem?_drop, hkk, List.getElem?_eq_getElem (by rw [hxl]; exact hk)] at h1
      obtain ⟨b, off, spot⟩ := a
      have hspot : spot = none := by
        have := World.cell?_spot h1
        unfold Addr.add at this
        split at this
        · exact this
        · have hlen0 : 0 < len := Nat.lt_of_le_of_lt (Nat.zero_le _) hq
          have h0 := (hF 0 hlen0).2.1 0 hs
          have hl0 := (hF 0 hlen0).1
          rw [List.getElem?_eq_getElem (by rw [hl0]; exact hs)] at h0
          have := World.cell?_spot h0
          simpa [Addr.add] using this
      subst hspot
      refine ⟨b, off, rfl, ?_⟩
      rw [Addr.add_lit] at h1
      exact h1
    · have hi'' : i < len := by simpa using hi'
      rw [hget i hi'']
      simp only [List.getElem_map, List.getElem_range]
      exact (hF i hi'').2.2.1
    · have hi'' : i < len := by simpa using hi'
      refine ⟨D i, ?_, ?_⟩
      · rw [List.getElem?_map, List.getElem?_range hi'']; rfl
      · simp only [List.getElem_map, List.getElem_range]
        exact (hF i hi'').2.2.2
/-- A slice of bytes. -/
theorem trod_bytes (ht : P.underlying t = some (.slice e)) (he : P.underlying e = some (.int .u8)) (hc : P.cellsOf e = 1) (h : DataW.trod enc P W base spare held n t cs = some x) :
    ∃ v l, cs = [v] ∧ IsBytes W v l ∧ ((x.1 = .nil ∧ l = []) ∨ ∃ ds sp, x.1 = .slice ds sp ∧ ds.length = l.length) := by
  obtain ⟨v, l, h1, ⟨xs, hr, hx⟩, h3⟩ := trod_seq (α := UInt8) (R := fun _ cs b => cs = [u8v b]) (Q := fun _ _ => True) ht hc (by omega) (fun n cs x hx => by
    obtain ⟨z, rfl, -, hw⟩ := DataW.trod_int he hx
    exact ⟨UInt8.ofNat z.toNat, by rw [show u8v (UInt8.ofNat z.toNat) = .int .u8 z from congrArg (Value.int .u8) (u8_of_int hw).symm], trivial⟩) h
  refine ⟨v, l, h1, ?_, ?_⟩
  · have hl : xs.length = l.length := by obtain ⟨_, _, _, e, _⟩ := hr; omega
    have : xs = l.map u8v := by
      apply List.ext_getElem
      · simp [hl]
      · intro i h1 h2
        have := hx i (by omega)
        rw [take1 h1] at this
        simp at this
        simp [this]
    unfold IsBytes
    rw [← this]
    exact hr
  · rcases h3 with h3 | ⟨ds, sp, h4, h5, -⟩
    · exact .inl h3
    · exact .inr ⟨ds, sp, h4, h5⟩
theorem top_slice {v : Value} {d : DataW H} {ps : List MemPlace} {b0 : Nat} (h : DataW.Trod enc P W b0 spare held t v d ps) (hv : v.cells.toList = [v]) : ∃ n, DataW.trod enc P W b0 spare held n t [v] = some (d, ps) := by
  obtain ⟨n, h⟩ := h
  rw [hv] at h
  exact ⟨n, h⟩
end
end Go.Proofs.Ytfpkibfofainaaa
/- Opening byte slices and slices of byte slices, with their bulk. -/
namespace Go.Proofs.Ytfpkibfofainaaa
open Go.ChangeShapes Go.WideShapes Go.ChangeAt Go.RowKit

section
variable {H : Type} {enc : TypeId × Value → H} {P : Program} {W : World} {base b0 : Nat} {spare : Nat → Bool} {held : Bool} {t e e2 : TypeId} {v : Value} {d : DataW H} {ps : List MemPlace}
theorem bytes_bulk {d : DataW H} {l : List UInt8} (h : (d = .nil ∧ l = []) ∨ ∃ ds sp, d = .slice ds sp ∧ ds.length = l.length) : l.length + 1 ≤ Rows.uptoBulk d := by
  rcases h with ⟨rfl, rfl⟩ | ⟨ds, sp, rfl, h⟩
  · simp [Rows.uptoBulk]
  · have := bulk_length ds
    simp only [Rows.uptoBulk]
    omega
/-- A slice's elements, each of less bulk than the whole. -/
theorem seq_bulk {α : Type} {d : DataW H} {l : List α} {Q : DataW H → α → Prop} (h : (d = .nil ∧ l = []) ∨ ∃ ds sp, d = .slice ds sp ∧ ds.length = l.length ∧ ∀ i (h : i < l.length), ∃ d, ds[i]? = some d ∧ Q d l[i]) :
    l.length + 1 ≤ Rows.uptoBulk d ∧ ∀ a ∈ l, ∃ d', Q d' a ∧ Rows.uptoBulk d' + 1 ≤ Rows.uptoBulk d := by
  rcases h with ⟨rfl, rfl⟩ | ⟨ds, sp, rfl, h, hq⟩
  · exact ⟨by simp [Rows.uptoBulk], fun a ha => by simp at ha⟩
  · refine ⟨by have := bulk_length ds; simp only [Rows.uptoBulk]; omega, fun a ha => ?_⟩
    obtain ⟨i, hi, rfl⟩ := List.getElem_of_mem ha
    obtain ⟨d', h1, h2⟩ := hq i hi
    refine ⟨d', h2, ?_⟩
    have := bulk_mem (List.mem_of_getElem? h1)
    simp only [Rows.uptoBulk]
    omega
theorem open_lists_bulk (ht : P.underlying t = some (.slice e)) (he : P.underlying e = some (.slice e2)) (he2 : P.underlying e2 = some (.int .u8)) (hc : P.cellsOf e = 1) (hc2 : P.cellsOf e2 = 1)
    (hval : Value.okWide P W .any base t v) (h : DataW.Trod enc P W b0 spare held t v d ps) : ∃ ll, IsLists W v ll ∧ ll.length + 1 ≤ Rows.uptoBulk d ∧ ∀ l ∈ ll, l.length ≤ Rows.uptoBulk d := by
  obtain ⟨a, len, cap, rfl⟩ := okWide_slice ht hval
  obtain ⟨n, hf⟩ := top_slice h rfl
  obtain ⟨v, ll, h1, h2, h3⟩ := trod_seq (R := rdBytes) (Q := fun d l => l.length + 1 ≤ Rows.uptoBulk d) ht hc (by omega) (fun n cs x hx => by
    obtain ⟨u, l, h1, h2, h3⟩ := trod_bytes he he2 hc2 hx
    exact ⟨l, ⟨u, h1, h2⟩, bytes_bulk h3⟩) hf
  cases h1
  obtain ⟨h4, h5⟩ := seq_bulk (d := d) (Q := fun d (l : List UInt8) => l.length + 1 ≤ Rows.uptoBulk d) h3
  refine ⟨ll, h2.lists, h4, fun l hl => ?_⟩
  obtain ⟨d', h6, h7⟩ := h5 l hl
  omega
end
end Go.Proofs.Ytfpkibfofainaaa
