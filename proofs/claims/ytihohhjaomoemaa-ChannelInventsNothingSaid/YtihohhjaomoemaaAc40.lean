/- The acts of ChannelInventsNothing: their cells, and opening them among the arguments. -/
import Derived.Test.YtihohhjaomoemaaIs40
import Derived.SizedLaws
set_option linter.unusedVariables false
set_option linter.unusedSimpArgs false
namespace Go.Proofs.Ytihohhjaomoemaa
open Go Go.ChangeShapes Go.WideShapes Go.ChangeAt Go.RowKit Go.Deep

structure Ac where
  dw : Int
  n : Int
  pk : Pk
def Ac.zero : Ac := ⟨0, 0, Pk.zero⟩
instance : Inhabited Ac := ⟨Ac.zero⟩
def Ac.cells (a : Ac) (v : Value) : List Value := .int .i64 a.dw :: .int .i64 a.n :: (a.pk.cellsA v).toList
def rdAc : Rd Ac := fun w cs a => ∃ b q, cs = a.cells (.slice b a.pk.fact.fields.length q) ∧ IsVals w (.slice b a.pk.fact.fields.length q) a.pk.fact.fields ∧ i64R a.n
theorem rdAc_up : rdAc.Up := fun _ _ _ _ k ⟨b, q, h1, h2, h3⟩ => ⟨b, q, h1, h2.sub rdVal_up k, h3⟩
abbrev IsAcs (w : World) (v : Value) (l : List Ac) : Prop := IsSeq 13 rdAc w v l
theorem ac_under : Try.prog.underlying 50 = some (.struct (fieldsOf 50)) := by kernel_rfl
theorem ac_cells : Try.prog.cellsOf 50 = 13 := by kernel_rfl
theorem IsSeq.acs {w : World} {base : Option Addr} {n cap : Nat} {l : List Ac} (h : IsAcs w (.slice base n cap) l) (i : Nat) (hi : i < l.length) :
    ∃ b off vb vq, base = some ⟨b, off, none⟩ ∧ IsVals w (.slice vb (l[i]).pk.fact.fields.length vq) (l[i]).pk.fact.fields ∧ i64R (l[i]).n ∧ w.rangeAt b (off + i * 13) ((l[i]).cells (.slice vb (l[i]).pk.fact.fields.length vq)) := by
  obtain ⟨b, off, cs, h1, h2, h3, vb, vq, rfl, h5, h6⟩ := h.at_ (by omega) i hi
  refine ⟨b, off, vb, vq, h1, h5, h6, fun j v hj => ?_⟩
  have hj8 : j < 13 := by have := (List.getElem?_eq_some_iff.1 hj).1; simpa [Ac.cells, Pk.cellsA] using this
  rw [Nat.add_assoc, h3 j hj8]
  exact hj
section
variable {H : Type} {enc : TypeId × Value → H} {W : World} {base b0 : Nat} {spare : Nat → Bool} {held : Bool} {n : Nat} {cs : List Value} {x : DataW H × List MemPlace} {v : Value} {d : DataW H} {ps : List MemPlace}
theorem oact (h : DataW.trod enc Try.prog W base spare held n 50 cs = some x) : ∃ a : Ac, rdAc W cs a ∧ 1 ≤ Rows.uptoBulk x.1 := by
  obtain ⟨hl, ds, hd, hds, hf⟩ := opened ac_under h
  rw [ac_cells] at hl
  obtain ⟨_, y0, h0, e0⟩ := hf 0 0 3 1 (by kernel_rfl) (by kernel_rfl)
  obtain ⟨_, y1, h1, e1⟩ := hf 1 1 3 1 (by kernel_rfl) (by kernel_rfl)
  obtain ⟨_, y2, h2, e2⟩ := hf 2 2 31 11 (by kernel_rfl) (by kernel_rfl)
  obtain ⟨z0, q0, -, -⟩ := oint h0
  obtain ⟨z1, q1, r1, -⟩ := oint h1
  obtain ⟨p, b, q, q2, i2⟩ := opk h2
  clear hf
  match cs, hl with
  | [c0, c1, c2, c3, c4, c5, c6, c7, c8, c9, c10, c11, c12], _ =>
    simp at q0 q1 q2
    subst q0 q1
    refine ⟨⟨z0, z1, p⟩, ⟨b, q, ?_, i2, r1⟩, ?_⟩
    · obtain ⟨rfl, rfl, rfl, rfl, rfl, rfl, rfl, rfl, rfl, rfl, rfl⟩ := q2
      rfl
    · rw [hd]
      simp only [Rows.uptoBulk]
      omega
/-- Every string and slice that is read takes at most so many bytes. -/
def SizedA {H : Type} (P : Program) (ts : List TypeId) (ds : List (DataW H)) : Prop := (DataW.weightsEach P ts ds).all (fun x => decide (x ≤ reachBytes)) = true
theorem ac_bytes : Try.prog.bytesOf 50 = 152 := by kernel_rfl
theorem oacts (h : DataW.trod enc Try.prog W base spare held n 48 cs = some x) : ∃ v l, cs = [v] ∧ IsAcs W v l ∧ ∀ {ts : List TypeId} {ds : List (DataW H)} {j : Nat}, SizedA Try.prog ts ds → ts[j]? = some 48 → ds[j]? = some x.1 → l.length * 152 ≤ 140737488351232 := by
  obtain ⟨v, l, h1, h2, h3⟩ := trod_seq (R := rdAc) (Q := fun _ _ => True) Try.underlying48 ac_cells (by omega) (fun n cs x hx => by
    obtain ⟨a, ha, -⟩ := oact hx
    exact ⟨a, ha, trivial⟩) h
  refine ⟨v, l, h1, h2, fun {ts ds j} hs e1 e2 => ?_⟩
  rcases h3 with ⟨-, rfl⟩ | ⟨ds2, sp, k3, k4, -⟩
  · simp
  · rw [k3] at e2
    have h4 := sized_slice hs e1 e2 Try.underlying48
    rw [ac_bytes, k4] at h4
    unfold reachBytes at h4
    omega
theorem open_acts (hval : Value.okWide Try.prog W .any base 48 v) (h : DataW.Trod enc Try.prog W b0 spare held 48 v d ps) : ∃ (l : List Ac) (b : Option Addr) (q : Nat), v = .slice b l.length q ∧ IsAcs W (.slice b l.length q) l ∧ ∀ {ts : List TypeId} {ds : List (DataW H)} {j : Nat}, SizedA Try.prog ts ds → ts[j]? = some 48 → ds[j]? = some d → l.length * 152 ≤ 140737488351232 := by
  obtain ⟨a, len, cap, rfl⟩ := okWide_slice Try.underlying48 hval
  obtain ⟨fuel, hf⟩ := h
  obtain ⟨v, l, q0, i0, hb⟩ := oacts hf
  simp only [Value.cells] at q0
  obtain rfl : Value.slice a len cap = v := by simpa using q0
  obtain ⟨b, q, e, -⟩ := i0.shape
  cases e
  exact ⟨l, _, _, rfl, i0, hb⟩
end
end Go.Proofs.Ytihohhjaomoemaa
