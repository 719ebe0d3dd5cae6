/- Packets: plain, and the walks over channel.formed and the reference's Formed. -/
import Derived.Test.YtihohhjaomoemaaRsm
import Derived.Test.YtihohhjaomoemaaRnw
import Derived.Test.YtihohhjaomoemaaIsc
import Derived.Deep.MidRow
set_option linter.unusedVariables false
set_option linter.unusedSimpArgs false
namespace Go.Proofs.Ytihohhjaomoemaa
open Go.RowKit

/-- A packet. -/
structure Pk where
  src : ByteArray
  ack : Bool
  next : Int
  fact : Fc
theorem pk_eq (a b : Pk) : a = b ↔ (a.src = b.src ∧ a.ack = b.ack ∧ a.next = b.next ∧ a.fact = b.fact) := by
  cases a; cases b; simp
instance : DecidableEq Pk := fun a b => decidable_of_iff _ (pk_eq a b).symm
def Fc.zero : Fc := ⟨⟨#[]⟩, 0, 0, 0, ⟨#[]⟩, ⟨#[]⟩, 0, []⟩
def Pk.zero : Pk := ⟨⟨#[]⟩, false, 0, Fc.zero⟩
instance : Inhabited Pk := ⟨Pk.zero⟩
@[reducible] def Pk.cellsA (p : Pk) (v : Value) : Array Value := #[.string p.src, .bool p.ack, .int .i64 p.next, .string p.fact.src, .int .i64 p.fact.seq, .int .i64 p.fact.kind, .int .i64 p.fact.ref, .string p.fact.table, .string p.fact.key, .int .i64 p.fact.event, v]
@[reducible] def Pk.val (p : Pk) (v : Value) : Value := .agg (p.cellsA v)
def Pk.formed (p : Pk) : Bool := isName p.src && (if p.ack then decide (1 ≤ p.next) && decide (p.next ≤ 1099511627777) && decide (p.fact = Fc.zero) else (p.next == 0) && (p.fact.src.toList == p.src.toList))
/-- Cells that read as a packet. -/
def rdPk : Rd Pk := fun w cs p => ∃ b q, cs = (p.cellsA (.slice b p.fact.fields.length q)).toList ∧ IsVals w (.slice b p.fact.fields.length q) p.fact.fields
theorem rdPk_up : rdPk.Up := fun _ _ _ _ k ⟨b, q, h1, h2⟩ => ⟨b, q, h1, h2.sub rdVal_up k⟩
abbrev IsPks (w : World) (v : Value) (l : List Pk) : Prop := IsSeq 11 rdPk w v l
theorem IsSeq.pks {w : World} {base : Option Addr} {n cap : Nat} {l : List Pk} (h : IsSeq 11 rdPk w (.slice base n cap) l) (i : Nat) (hi : i < l.length) :
    ∃ b off vb vq, base = some ⟨b, off, none⟩ ∧ IsVals w (.slice vb (l[i]).fact.fields.length vq) (l[i]).fact.fields ∧ w.rangeAt b (off + i * 11) ((l[i]).cellsA (.slice vb (l[i]).fact.fields.length vq)).toList := by
  obtain ⟨b, off, cs, h1, h2, h3, vb, vq, rfl, h5⟩ := h.at_ (by omega) i hi
  refine ⟨b, off, vb, vq, h1, h5, fun j v hj => ?_⟩
  have hj8 : j < 11 := by have := (List.getElem?_eq_some_iff.1 hj).1; simpa using this
  rw [Nat.add_assoc, h3 j hj8]
  exact hj
theorem Mono.range (b o : Nat) (cs : List Value) : Mono (fun x => x.rangeAt b o cs) := fun _ _ h p j v hj => h _ _ (p j v hj)
theorem IsCells.range {w : World} {g : Nat} {cs : Array Value} (h : IsCells g cs w) : w.rangeAt g 0 cs.toList := fun j v hj => by rw [Nat.zero_add]; exact h j v (by simpa using hj)
theorem hasMax_sub {a b : World} (h : HasMax a) (k : Sub a b) : HasMax b := let ⟨m, hm⟩ := h; ⟨m, k _ _ hm⟩
theorem hasMax_mono : Mono HasMax := fun _ _ k h => hasMax_sub h k
theorem run_load_mid {P : Program} {ρ : Operand → Value} {o : Oper} {W : World} {ty : TypeId} {x : Operand} {b off : Nat} {cs : List Value} {d : TypeDesc} (ho : o.op = .load ty x) (hx : ρ x = .pointer (some ⟨b, off, none⟩)) (hc : W.rangeAt b off cs)
    (hu : P.underlying ty = some d) (hd : d.isRow = true) (hi : (P.info? ty).map (·.size) = some cs.length) : (execOp ρ o).run P W = .ok (.value (.agg cs.toArray)) W := by
  unfold execOp
  simp only [ho, hx, Instr.loadAt, Instr.sureAddr, Sem.run_bind, Sem.run_pure, Result.andThen_ok, run_loadVar_mid W b off ty cs d hc hu hd hi]
theorem IsCells.c11 {W : World} {g : Nat} {a0 a1 a2 a3 a4 a5 a6 a7 a8 a9 a10 : Value} (hh : IsCells g #[a0, a1, a2, a3, a4, a5, a6, a7, a8, a9, a10] W) :
    W.cell? ⟨g, 0, none⟩ = some a0 ∧ W.cell? ⟨g, 1, none⟩ = some a1 ∧ W.cell? ⟨g, 2, none⟩ = some a2 ∧ W.cell? ⟨g, 3, none⟩ = some a3 ∧ W.cell? ⟨g, 4, none⟩ = some a4 ∧ W.cell? ⟨g, 5, none⟩ = some a5 ∧ W.cell? ⟨g, 6, none⟩ = some a6 ∧ W.cell? ⟨g, 7, none⟩ = some a7 ∧ W.cell? ⟨g, 8, none⟩ = some a8 ∧ W.cell? ⟨g, 9, none⟩ = some a9 ∧ W.cell? ⟨g, 10, none⟩ = some a10 :=
  ⟨hh 0 _ rfl, hh 1 _ rfl, hh 2 _ rfl, hh 3 _ rfl, hh 4 _ rfl, hh 5 _ rfl, hh 6 _ rfl, hh 7 _ rfl, hh 8 _ rfl, hh 9 _ rfl, hh 10 _ rfl⟩
theorem al_size (w : World) (o : Obj) : (w.alloc o).heap.size = w.heap.size + 1 := by simp [World.alloc, -World.alloc_eq]
theorem IsCells.c1 {W : World} {g : Nat} {a : Value} (hh : IsCells g #[a] W) : W.cell? ⟨g, 0, none⟩ = some a := hh 0 _ rfl

set_option maxRecDepth 8000 in
set_option maxHeartbeats 4000000 in
theorem formed_any (w : World) (p : Pk) (vb : Option Addr) (vq : Nat) (hm : HasMax w) (hv : IsVals w (.slice vb p.fact.fields.length vq) p.fact.fields) :
    Calls Try.prog 26 #[p.val (.slice vb p.fact.fields.length vq)] w fun e w' => e = .returned (.bool p.formed) ∧ Below w.heap.size w w' := by
  obtain ⟨r, hr⟩ : ∃ r, p.formed = r := ⟨_, rfl⟩
  rw [hr]
  have hsm := fun w hf => same_any w p.fact Fc.zero vb none vq 0 hf (IsSeq.nil _ _ _)
  obtain ⟨sv, hsv⟩ : ∃ b, decide (p.fact = Fc.zero) = b := ⟨_, rfl⟩
  rw [hsv] at hsm
  have hr : r = (isName p.src && (if p.ack then decide (1 ≤ p.next) && decide (p.next ≤ 1099511627777) && sv else (p.next == 0) && (p.fact.src.toList == p.src.toList))) := by rw [← hr, ← hsv]; rfl
  obtain ⟨src, ack, nx, f⟩ := p
  obtain ⟨fs, fq, fk, fr, ft, fy, fe, fl⟩ := f
  simp only [Pk.val, Pk.cellsA, Fc.val, Fc.cellsA, Fc.zero, List.length_nil] at *
  obtain ⟨n, hn⟩ : ∃ n, fl.length = n := ⟨_, rfl⟩
  rw [hn] at hv hsm ⊢
  clear hn hsv
  have h0 := (((St.start w).putOld hasMax_mono hm).putOld (P := (IsVals · (.slice vb n vq) fl)) (Mono.seq rdVal_up _ _) hv).boxC #[.string src, .bool ack, .int .i64 nx, .string fs, .int .i64 fq, .int .i64 fk, .int .i64 fr, .string ft, .string fy, .int .i64 fe, .slice vb n vq] 31
  have HSM := Lib.hid hsm
  have HR := Lib.hid hr
  clear hsm hr hv
  go_enter Try.func26, Try.ntmps26
  go_wp2_with fail
  refine (Calls.sV' h0 (name_any _ src (h0.is 2 rfl))).mono ?_
  rintro e w1 ⟨rfl, h1⟩
  clear h0
  obtain ⟨c0, c1, c2, c3, c4, c5, c6, c7, c8, c9, c10⟩ := (h1.is 0 rfl : IsCells _ _ _).c11
  obtain ⟨nm, hnm⟩ : ∃ nm, isName src = nm := ⟨_, rfl⟩
  have hr := HR.out
  rw [hnm] at hr ⊢
  have HR1 := Lib.hid hr
  clear hnm hr HR
  cases nm with
  | false =>
    have hr := HR1.out
    rw [Bool.false_and] at hr
    have HR2 := Lib.hid hr
    clear hr HR1
    go_wp2_with fail
    go_ret
    exact ⟨by rw [HR2.out]; rfl, h1.below⟩
  | true =>
    have hr := HR1.out
    rw [Bool.true_and] at hr
    have HR2 := Lib.hid hr
    clear hr HR1
    cases ack with
    | false =>
      have hr := HR2.out
      simp only [Bool.false_eq_true, if_false] at hr
      have HR3 := Lib.hid hr
      clear hr HR2
      by_cases h0 : nx = 0
      · subst h0
        have hr : Hid (r = (fs.toList == src.toList)) := Lib.hid (by rw [HR3.out]; simp)
        clear HR3
        go_wp2_with fail
        go_ret
        exact ⟨by rw [hr.out]; rfl, h1.below⟩
      · have h0' := beq_of h0
        have hr : Hid (r = false) := Lib.hid (by rw [HR3.out, h0']; rfl)
        clear HR3
        go_wp2_with fail
        go_ret
        exact ⟨by rw [hr.out]; rfl, h1.below⟩
    | true =>
      have hr := HR2.out
      simp only [if_true] at hr
      have HR3 := Lib.hid hr
      clear hr HR2
      by_cases hlo : 1 ≤ nx
      · by_cases hhi : nx ≤ 1099511627777
        · have hr : Hid (r = sv) := Lib.hid (by rw [HR3.out, decide_eq_true hlo, decide_eq_true hhi]; simp)
          clear HR3
          go_wp2_with fail
          refine (Calls.sV h1 (HSM.out _ (h1.is 1 rfl))).mono ?_
          rintro e w2 ⟨rfl, h2⟩
          go_wp2_with fail
          go_ret
          exact ⟨by rw [hr.out]; rfl, h2.below⟩
        · have hr : Hid (r = false) := Lib.hid (by rw [HR3.out, decide_eq_false hhi]; simp)
          clear HR3
          go_wp2_with fail
          go_ret
          exact ⟨by rw [hr.out]; rfl, h1.below⟩
      · have hr : Hid (r = false) := Lib.hid (by rw [HR3.out, decide_eq_false hlo]; simp)
        clear HR3
        go_wp2_with fail
        go_ret
        exact ⟨by rw [hr.out]; rfl, h1.below⟩
set_option maxRecDepth 8000 in
set_option maxHeartbeats 4000000 in
theorem refFormed_any (w : World) (p : Pk) (vb : Option Addr) (vq : Nat) (hv : IsVals w (.slice vb p.fact.fields.length vq) p.fact.fields) :
    Calls Try.prog 25 #[p.val (.slice vb p.fact.fields.length vq)] w fun e w' => e = .returned (.bool p.formed) ∧ Below w.heap.size w w' := by
  obtain ⟨r, hr⟩ : ∃ r, p.formed = r := ⟨_, rfl⟩
  rw [hr]
  have hsm := fun w hf => refSame_any w p.fact Fc.zero vb none vq 0 hf (IsSeq.nil _ _ _)
  obtain ⟨sv, hsv⟩ : ∃ b, decide (p.fact = Fc.zero) = b := ⟨_, rfl⟩
  rw [hsv] at hsm
  have hr : r = (isName p.src && (if p.ack then decide (1 ≤ p.next) && decide (p.next ≤ 1099511627777) && sv else (p.next == 0) && (p.fact.src.toList == p.src.toList))) := by rw [← hr, ← hsv]; rfl
  obtain ⟨src, ack, nx, f⟩ := p
  obtain ⟨fs, fq, fk, fr, ft, fy, fe, fl⟩ := f
  simp only [Pk.val, Pk.cellsA, Fc.val, Fc.cellsA, Fc.zero, List.length_nil] at *
  obtain ⟨n, hn⟩ : ∃ n, fl.length = n := ⟨_, rfl⟩
  rw [hn] at hv hsm ⊢
  clear hn hsv
  have h0 := ((St.start w).putOld (P := (IsVals · (.slice vb n vq) fl)) (Mono.seq rdVal_up _ _) hv).boxC #[.string src, .bool ack, .int .i64 nx, .string fs, .int .i64 fq, .int .i64 fk, .int .i64 fr, .string ft, .string fy, .int .i64 fe, .slice vb n vq] 31
  have HSM := Lib.hid hsm
  have HR := Lib.hid hr
  clear hsm hr hv
  go_enter Try.func25, Try.ntmps25
  go_wp2_with fail
  refine (Calls.sV h0 (refName_any _ src)).mono ?_
  rintro e w1 ⟨rfl, h1⟩
  clear h0
  obtain ⟨c0, c1, c2, c3, c4, c5, c6, c7, c8, c9, c10⟩ := (h1.is 0 rfl : IsCells _ _ _).c11
  obtain ⟨nm, hnm⟩ : ∃ nm, isName src = nm := ⟨_, rfl⟩
  have hr := HR.out
  rw [hnm] at hr ⊢
  have HR1 := Lib.hid hr
  clear hnm hr HR
  cases nm with
  | false =>
    have hr := HR1.out
    rw [Bool.false_and] at hr
    have HR2 := Lib.hid hr
    clear hr HR1
    go_wp2_with fail
    go_ret
    exact ⟨by rw [HR2.out]; rfl, h1.below⟩
  | true =>
    have hr := HR1.out
    rw [Bool.true_and] at hr
    have HR2 := Lib.hid hr
    clear hr HR1
    cases ack with
    | false =>
      have hr := HR2.out
      simp only [Bool.false_eq_true, if_false] at hr
      have HR3 := Lib.hid hr
      clear hr HR2
      by_cases h0 : nx = 0
      · subst h0
        have hr : Hid (r = (fs.toList == src.toList)) := Lib.hid (by rw [HR3.out]; simp)
        clear HR3
        go_wp2_with fail
        go_ret
        exact ⟨by rw [hr.out]; rfl, h1.below⟩
      · have h0' := beq_of h0
        have hr : Hid (r = false) := Lib.hid (by rw [HR3.out, h0']; rfl)
        clear HR3
        go_wp2_with fail
        go_ret
        exact ⟨by rw [hr.out]; rfl, h1.below⟩
    | true =>
      have hr := HR2.out
      simp only [if_true] at hr
      have HR3 := Lib.hid hr
      clear hr HR2
      by_cases hlo : 1 ≤ nx
      · by_cases hhi : nx ≤ 1099511627777
        · have hr : Hid (r = sv) := Lib.hid (by rw [HR3.out, decide_eq_true hlo, decide_eq_true hhi]; simp)
          clear HR3
          go_wp2_with fail
          refine (Calls.sV h1 (HSM.out _ (h1.is 1 rfl))).mono ?_
          rintro e w2 ⟨rfl, h2⟩
          go_wp2_with fail
          go_ret
          exact ⟨by rw [hr.out]; rfl, h2.below⟩
        · have hr : Hid (r = false) := Lib.hid (by rw [HR3.out, decide_eq_false hhi]; simp)
          clear HR3
          go_wp2_with fail
          go_ret
          exact ⟨by rw [hr.out]; rfl, h1.below⟩
      · have hr : Hid (r = false) := Lib.hid (by rw [HR3.out, decide_eq_false hlo]; simp)
        clear HR3
        go_wp2_with fail
        go_ret
        exact ⟨by rw [hr.out]; rfl, h1.below⟩
end Go.Proofs.Ytihohhjaomoemaa
