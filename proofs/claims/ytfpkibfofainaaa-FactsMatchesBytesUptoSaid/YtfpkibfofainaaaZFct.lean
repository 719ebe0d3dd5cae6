/- Facts: plain, and the walks over facts.formed, Base. -/
import Derived.Test.YtfpkibfofainaaaZKey
import Derived.Test.YtfpkibfofainaaaZValW
import Derived.Test.YtfpkibfofainaaaZGA
import Derived.Deep.Light
set_option linter.unusedVariables false
namespace Go.Proofs.Ytfpkibfofainaaa
open Go.RowKit

/-- A fact. -/
structure Fc where
  src : ByteArray
  seq : Int
  kind : Int
  ref : Int
  table : ByteArray
  key : ByteArray
  event : Int
  fields : List Vl
def rdVal : Rd Vl := fun _ cs v => cs = v.cells
theorem rdVal_up : rdVal.Up := fun _ _ _ _ _ h => h
abbrev IsVals (w : World) (v : Value) (l : List Vl) : Prop := IsSeq 3 rdVal w v l
@[reducible] def Fc.cellsA (f : Fc) (v : Value) : Array Value := #[.string f.src, .int .i64 f.seq, .int .i64 f.kind, .int .i64 f.ref, .string f.table, .string f.key, .int .i64 f.event, v]
@[reducible] def Fc.val (f : Fc) (v : Value) : Value := .agg (f.cellsA v)
def isKeyS (s : ByteArray) : Bool := decide ((⟨5, 0, s⟩ : Vl).check = 0)
def Fc.says (f : Fc) : Bool := isKeyS f.key && decide (0 ≤ f.event) && decide (f.event ≤ 1099511627776)
def Fc.refers (f : Fc) : Bool := decide (1 ≤ f.ref) && decide (f.ref < f.seq)
def Fc.formed (f : Fc) : Bool :=
  isName f.src && decide (1 ≤ f.seq) && decide (f.seq ≤ 1099511627776) &&
    (if f.kind = 1 then f.says && decide (f.ref = 0) else if f.kind = 2 then f.says && f.refers else if f.kind = 3 then f.refers && decide (f.table.size = 0) && decide (f.key.size = 0) && decide (f.event = 0) && decide (f.fields.length = 0) else false)

theorem size0_isEmpty (s : ByteArray) : decide (s.size = 0) = s.toList.isEmpty := by
  by_cases h : s.size = 0
  · obtain rfl := size_zero h; rw [ByteArray.toList_eq]; rfl
  · rw [toList_ne h, decide_eq_false h]
theorem dec_beq (n m : Int) : decide (n = m) = (n == m) := by rw [Bool.eq_iff_iff]; simp
theorem dec_beqN (m : Nat) : decide (m = 0) = ((m : Int) == 0) := by rw [Bool.eq_iff_iff]; simp
theorem cells8 {W : World} {g : Nat} {a b c d e f h i : Value} {t : TypeId} (hh : W.heap[g]? = some (.cells #[a, b, c, d, e, f, h, i] t (0, 0))) :
    W.cell? ⟨g, 0, none⟩ = some a ∧ W.cell? ⟨g, 1, none⟩ = some b ∧ W.cell? ⟨g, 2, none⟩ = some c ∧ W.cell? ⟨g, 3, none⟩ = some d ∧ W.cell? ⟨g, 4, none⟩ = some e ∧ W.cell? ⟨g, 5, none⟩ = some f ∧ W.cell? ⟨g, 6, none⟩ = some h ∧ W.cell? ⟨g, 7, none⟩ = some i := by
  refine ⟨?_, ?_, ?_, ?_, ?_, ?_, ?_, ?_⟩ <;> rw [cell_of_row _ _ _ _ _ _ hh] <;> rfl
theorem HasMax.below {B : Nat} {w w' : World} (h : HasMax w) (hb : Below B w w') (hB : B = w.heap.size) : HasMax w' := by
  obtain ⟨m, hm⟩ := h
  exact ⟨m, (Sub.below hb hB) _ _ hm⟩

set_option maxRecDepth 8000 in
set_option maxHeartbeats 4000000 in
theorem formed_any (w : World) (f : Fc) (fb : Option Addr) (fq : Nat) (hm : HasMax w) (hfb : IsVals w (.slice fb f.fields.length fq) f.fields) :
    Calls Try.prog 52 #[f.val (.slice fb f.fields.length fq)] w fun e w' => e = .returned (.bool f.formed) ∧ Below w.heap.size w w' := by
  obtain ⟨r, hr⟩ : ∃ r, f.formed = r := ⟨_, rfl⟩
  have HR := Lib.hid hr
  rw [hr]
  clear hr
  obtain ⟨src, seq, kind, ref, table, key, event, fields⟩ := f
  simp only [Fc.val, Fc.cellsA] at *
  obtain ⟨m, hml⟩ : ∃ m, fields.length = m := ⟨_, rfl⟩
  rw [hml] at hfb ⊢
  have HM := Lib.hid hml
  clear hml
  have h0 := (St.start w).alloc (.cells #[.string src, .int .i64 seq, .int .i64 kind, .int .i64 ref, .string table, .string key, .int .i64 event, .slice fb m fq] 27)
  have hm0 := hm.below h0.below rfl
  go_enter Try.func52, Try.ntmps52
  go_wp2_with fail
  refine (Calls.sV' h0 (name_any _ src hm0)).mono ?_
  rintro e w1 ⟨rfl, h1⟩
  clear hm0 h0
  obtain ⟨c0, c1, c2, c3, c4, c5, c6, c7⟩ := cells8 (h1.at_ 0 rfl)
  obtain ⟨nm, hnm⟩ : ∃ nm, isName src = nm := ⟨_, rfl⟩
  rw [hnm]
  have HNM := Lib.hid hnm
  clear hnm
  cases nm with
  | false =>
    have hr : r = false := by rw [← HR.out]; unfold Fc.formed; simp only [HNM.out]; rfl
    have HR2 := Lib.hid hr
    clear hr
    go_wp2_with fail
    go_ret
    exact ⟨by rw [HR2.out]; rfl, h1.below⟩
  | true =>
    by_cases hs1 : seq < 1
    · have hr : r = false := by rw [← HR.out]; simp [Fc.formed]; intro _ h; omega
      have HR2 := Lib.hid hr
      clear hr
      go_wp2_with fail
      go_ret
      exact ⟨by rw [HR2.out]; rfl, h1.below⟩
    by_cases hs2 : 1099511627776 < seq
    · have hr : r = false := by rw [← HR.out]; simp [Fc.formed]; intro _ _ h; omega
      have HR2 := Lib.hid hr
      clear hr
      go_wp2_with fail
      go_ret
      exact ⟨by rw [HR2.out]; rfl, h1.below⟩
    go_wp2_with fail
    refine (Calls.sV h1 (isKey_any _ key)).mono ?_
    rintro e w2 ⟨rfl, h2⟩
    clear c0 c1 c2 c3 c4 c5 c6 c7 h1
    obtain ⟨c0, c1, c2, c3, c4, c5, c6, c7⟩ := cells8 (h2.at_ 0 rfl)
    obtain ⟨ik, hik⟩ : ∃ ik, decide ((⟨5, 0, key⟩ : Vl).check = 0) = ik := ⟨_, rfl⟩
    rw [hik]
    have hr : r = (if kind = 1 then (ik && decide (0 ≤ event) && decide (event ≤ 1099511627776)) && (ref == 0) else if kind = 2 then (ik && decide (0 ≤ event) && decide (event ≤ 1099511627776)) && (decide (1 ≤ ref) && decide (ref < seq)) else if kind = 3 then (decide (1 ≤ ref) && decide (ref < seq)) && table.toList.isEmpty && key.toList.isEmpty && (event == 0) && ((m : Int) == 0) else false) := by
      rw [← HR.out]
      simp only [Fc.formed, Fc.says, Fc.refers, isKeyS, HNM.out, hik, HM.out, size0_isEmpty]
      simp only [dec_beq, dec_beqN]
      rw [decide_eq_true (show 1 ≤ seq by omega), decide_eq_true (show seq ≤ 1099511627776 by omega), Bool.and_self, Bool.and_self, Bool.true_and]
    have HR2 := Lib.hid hr
    clear hr hik HR
    go_wp2_with fail
    all_goals
      go_ret
      refine ⟨congrArg (fun b => Ending.returned (.bool b)) ?_, h2.below⟩
      have hfin := HR2.out
      clear h2 c0 c1 c2 c3 c4 c5 c6 c7 HNM HR2 HM hfb hm
      go_light
      rw [hfin]
      simp_all <;> omega
end Go.Proofs.Ytfpkibfofainaaa
