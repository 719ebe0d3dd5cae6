/- Lists of facts: what they read as, their opening among the arguments, and their stream: plain. -/
import Derived.Test.YtfpkibfofainaaaLw
import Derived.Deep.MidRow
set_option linter.unusedVariables false
namespace Go.Proofs.Ytfpkibfofainaaa
open Go.ChangeShapes Go.WideShapes Go.ChangeAt Go.RowKit Go.Deep

/-- Cells that read as a fact. -/
def rdF : Rd Fc := fun w cs f => ∃ b q, cs = (f.cellsA (.slice b f.fields.length q)).toList ∧ IsVals w (.slice b f.fields.length q) f.fields
theorem rdF_up : rdF.Up := fun _ _ _ _ k ⟨b, q, h1, h2⟩ => ⟨b, q, h1, h2.sub rdVal_up k⟩
abbrev IsFcs (w : World) (v : Value) (l : List Fc) : Prop := IsSeq 8 rdF w v l
theorem IsSeq.fcs {w : World} {base : Option Addr} {n cap : Nat} {l : List Fc} (h : IsSeq 8 rdF w (.slice base n cap) l) (i : Nat) (hi : i < l.length) :
    ∃ b off vb vq, base = some ⟨b, off, none⟩ ∧ IsVals w (.slice vb (l[i]).fields.length vq) (l[i]).fields ∧ w.rangeAt b (off + i * 8) ((l[i]).cellsA (.slice vb (l[i]).fields.length vq)).toList := by
  obtain ⟨b, off, cs, h1, h2, h3, vb, vq, rfl, h5⟩ := h.at_ (by omega) i hi
  refine ⟨b, off, vb, vq, h1, h5, fun j v hj => ?_⟩
  have hj8 : j < 8 := by have := (List.getElem?_eq_some_iff.1 hj).1; simpa using this
  rw [Nat.add_assoc, h3 j hj8]
  exact hj
theorem Mono.range (b o : Nat) (cs : List Value) : Mono (fun x => x.rangeAt b o cs) := fun _ _ h p j v hj => h _ _ (p j v hj)
theorem IsCells.range {w : World} {g : Nat} {cs : Array Value} (h : IsCells g cs w) : w.rangeAt g 0 cs.toList := fun j v hj => by rw [Nat.zero_add]; exact h j v (by simpa using hj)
/-- A struct in the midst of a row is loaded, in a region that draws. -/
theorem run_load_mid {P : Program} {ρ : Operand → Value} {o : Oper} {W : World} {ty : TypeId} {x : Operand} {b off : Nat} {cs : List Value} {d : TypeDesc} (ho : o.op = .load ty x) (hx : ρ x = .pointer (some ⟨b, off, none⟩)) (hc : W.rangeAt b off cs)
    (hu : P.underlying ty = some d) (hd : d.isRow = true) (hi : (P.info? ty).map (·.size) = some cs.length) : (execOp ρ o).run P W = .ok (.value (.agg cs.toArray)) W := by
  unfold execOp
  simp only [ho, hx, Instr.loadAt, Instr.sureAddr, Sem.run_bind, Sem.run_pure, Result.andThen_ok, run_loadVar_mid W b off ty cs d hc hu hd hi]

section
variable {H : Type} {enc : TypeId × Value → H} {W : World} {base b0 : Nat} {spare : Nat → Bool} {held : Bool} {n : Nat} {cs : List Value} {x : DataW H × List MemPlace} {v : Value} {d : DataW H} {ps : List MemPlace}
instance : Inhabited Fc := ⟨Fc.zero⟩
set_option maxRecDepth 8000 in
theorem ofacts (h : DataW.trod enc Try.prog W base spare held n 36 cs = some x) : ∃ v l, cs = [v] ∧ IsFcs W v l ∧ (∀ a ∈ l, a.Ok) ∧ (l.map Fc.bulk).sum + 1 ≤ Rows.uptoBulk x.1 := by
  obtain ⟨v, l, h1, h2, h3⟩ := trod_seq (R := rdF) (Q := fun d f => f.Ok ∧ f.bulk ≤ Rows.uptoBulk d) Try.underlying36 fact_cells (by omega) (fun n cs x hx => by
    obtain ⟨a, b, q, rfl, b1, b2, b3⟩ := ofact hx
    exact ⟨a, ⟨b, q, rfl, b1⟩, b2, b3⟩) h
  refine ⟨v, l, h1, h2, fun a ha => ?_, seq_sum (Q := fun d f => f.Ok ∧ f.bulk ≤ Rows.uptoBulk d) (fun _ _ h => h.2) h3⟩
  obtain ⟨_, h⟩ := seq_all (Q := fun d f => f.Ok ∧ f.bulk ≤ Rows.uptoBulk d) h3 a ha
  exact h.1
set_option maxRecDepth 8000 in
theorem open_facts (hval : Value.okWide Try.prog W .any base 36 v) (h : DataW.Trod enc Try.prog W b0 spare held 36 v d ps) : ∃ l, IsFcs W v l ∧ (∀ a ∈ l, a.Ok) ∧ (l.map Fc.bulk).sum + 1 ≤ Rows.uptoBulk d := by
  obtain ⟨a, len, cap, rfl⟩ := okWide_slice Try.underlying36 hval
  obtain ⟨n, hf⟩ := top_slice h rfl
  obtain ⟨v, l, h1, h2, h3, h4⟩ := ofacts hf
  cases h1
  exact ⟨l, h2, h3, h4⟩
end

/-- One fact of a stream, behind its length; the stream. -/
def Fc.frame (f : Fc) : List UInt8 := Wire.encU f.enc.length ++ f.enc
def strm (l : List Fc) : List UInt8 := l.flatMap Fc.frame
theorem strm_take (l : List Fc) (j : Nat) (h : j < l.length) : strm (l.take (j + 1)) = strm (l.take j) ++ l[j].frame := by
  unfold strm
  rw [List.take_succ_eq_append_getElem h, List.flatMap_append, List.flatMap_cons, List.flatMap_nil, List.append_nil]
theorem strm_at (l : List Fc) (j : Nat) (h : j < l.length) : strm l = strm (l.take j) ++ Wire.encU (l[j].enc.length) ++ l[j].enc ++ strm (l.drop (j + 1)) := by
  conv => lhs; rw [← List.take_append_drop j l, List.drop_eq_getElem_cons h]
  unfold strm Fc.frame
  rw [List.flatMap_append, List.flatMap_cons]
  simp
theorem encT_le2 (s : ByteArray) (h : s.size ≤ 1048576) : (Wire.encT s.data.toList).length ≤ s.size + 10 := by
  have hl : s.data.toList.length = s.size := by simp
  unfold Wire.encT
  rw [List.length_append]
  have := Wire.encU_len10 (n := s.data.toList.length) (by omega)
  omega
theorem enc_le20 {f : Fc} (hok : f.Ok) (hb : f.bulk ≤ 1048576) : f.enc.length ≤ 20 * f.bulk := by
  obtain ⟨-, hI, s1, s2, s3, s4⟩ := fits_of hok hb
  have t1 := encT_le2 f.src s1
  have t2 := encT_le2 f.table s2
  have t3 := encT_le2 f.key s3
  have i1 := encI_le hI.1
  have i2 := encI_le hI.2.1
  have i3 := encI_le hI.2.2.1
  have i4 := encI_le hI.2.2.2
  have hu := Wire.encU_len10 (n := f.fields.length) (by omega)
  have hv := encVs_le f.fields f.fields.length (Nat.le_refl _)
  rw [List.take_length] at hv
  have hl := bulk_len f.fields
  unfold Fc.enc Fc.bulk
  simp only [List.length_append]
  omega
theorem strm_le : ∀ (l : List Fc), (∀ a ∈ l, a.Ok) → (l.map Fc.bulk).sum ≤ 1048576 → (strm l).length ≤ 21 * (l.map Fc.bulk).sum
  | [], _, _ => by simp [strm]
  | f :: l, h, hs => by
    simp only [List.map_cons, List.sum_cons] at hs ⊢
    have h1 := strm_le l (fun a ha => h a (List.mem_cons_of_mem _ ha)) (by omega)
    have h2 := enc_le20 (h f List.mem_cons_self) (by omega)
    have h3 := Wire.encU_len10 (n := f.enc.length) (by omega)
    have h4 : 10 ≤ f.bulk := by unfold Fc.bulk; omega
    have e : strm (f :: l) = f.frame ++ strm l := by unfold strm; rw [List.flatMap_cons]
    rw [e, List.length_append]
    unfold Fc.frame
    rw [List.length_append]
    omega
theorem strm_take_le (l : List Fc) (j : Nat) : (strm (l.take j)).length ≤ (strm l).length := by
  conv => rhs; rw [← List.take_append_drop j l]
  unfold strm
  rw [List.flatMap_append, List.length_append]
  omega
theorem bulk_at (l : List Fc) (hs : (l.map Fc.bulk).sum ≤ 1048576) (j : Nat) (h : j < l.length) : (l[j]).bulk ≤ 1048576 := by
  have : ∀ (l : List Fc) (a : Fc), a ∈ l → a.bulk ≤ (l.map Fc.bulk).sum := by
    intro l
    induction l with
    | nil => intro a ha; cases ha
    | cons b t ih =>
      intro a ha
      simp only [List.map_cons, List.sum_cons]
      rcases List.mem_cons.1 ha with rfl | ha
      · omega
      · have := ih a ha; omega
  have := this l _ (List.getElem_mem h)
  omega
theorem len_le (l : List Fc) (hs : (l.map Fc.bulk).sum ≤ 1048576) : l.length ≤ 1048576 := by
  have : ∀ l : List Fc, l.length ≤ (l.map Fc.bulk).sum := by
    intro l
    induction l with
    | nil => simp
    | cons b t ih =>
      simp only [List.map_cons, List.sum_cons, List.length_cons]
      have : 10 ≤ b.bulk := by unfold Fc.bulk; omega
      omega
  have := this l
  omega
end Go.Proofs.Ytfpkibfofainaaa
