/- Opening packets and channels among the arguments of a statement. -/
import Derived.Test.YtihohhjaomoemaaOpenV
import Derived.Test.YtihohhjaomoemaaCat
import Derived.Test.YtihohhjaomoemaaPk
set_option linter.unusedVariables false
namespace Go.Proofs.Ytihohhjaomoemaa
open Go.ChangeShapes Go.WideShapes Go.ChangeAt Go.RowKit Go.Deep

noncomputable def fieldsOf (t : TypeId) : Array Field := match Try.prog.underlying t with | some (.struct fs) => fs | _ => #[]
section
variable {H : Type} {enc : TypeId × Value → H} {P : Program} {W : World} {base b0 : Nat} {spare : Nat → Bool} {held : Bool} {t : TypeId} {n : Nat} {cs : List Value} {x : DataW H × List MemPlace} {fs : Array Field}
/-- A struct's fields, each read by itself. -/
theorem opened (ht : P.underlying t = some (.struct fs)) (h : DataW.trod enc P W base spare held n t cs = some x) :
    cs.length = P.cellsOf t ∧ ∃ ds, x.1 = .agg ds ∧ ds.length = fs.size ∧ ∀ (j o : Nat) (T : TypeId) (c : Nat), (fs[j]?).map (fun f : Field => (f.offset, f.type)) = some (o, T) → P.cellsOf T = c → ∃ m y, DataW.trod enc P W base spare held m T ((cs.drop o).take c) = some y ∧ ds[j]? = some y.1 := by
  obtain ⟨xs, m, _, rfl, hl, hxs, hf⟩ := DataW.trod_struct ht h
  refine ⟨hl, _, rfl, by simpa using hxs, fun j o T c hj hc => ?_⟩
  cases hq : fs[j]? with
  | none => rw [hq] at hj; cases hj
  | some f =>
    rw [hq] at hj
    obtain ⟨rfl, rfl⟩ : f.offset = o ∧ f.type = T := by cases hj; exact ⟨rfl, rfl⟩
    subst hc
    have h5 := hf j f hq
    have hjs : j < xs.length := by rw [hxs]; exact (Array.getElem?_eq_some_iff.1 hq).1
    rw [List.getElem?_eq_getElem hjs] at h5
    exact ⟨_, _, h5, by rw [List.getElem?_map, List.getElem?_eq_getElem hjs]; rfl⟩
end

theorem val_under : Try.prog.underlying 58 = some (.struct (fieldsOf 58)) := by kernel_rfl
theorem val_cells : Try.prog.cellsOf 58 = 3 := by kernel_rfl
theorem id_under : Try.prog.underlying 26 = some (.struct (fieldsOf 26)) := by kernel_rfl
theorem id_cells : Try.prog.cellsOf 26 = 2 := by kernel_rfl
theorem fact_under : Try.prog.underlying 29 = some (.struct (fieldsOf 29)) := by kernel_rfl
theorem fact_cells : Try.prog.cellsOf 29 = 8 := by kernel_rfl

theorem pk_under : Try.prog.underlying 31 = some (.struct (fieldsOf 31)) := by kernel_rfl
theorem pk_cells : Try.prog.cellsOf 31 = 11 := by kernel_rfl
theorem ch_under : Try.prog.underlying 24 = some (.struct (fieldsOf 24)) := by kernel_rfl
theorem ch_cells : Try.prog.cellsOf 24 = 1 := by kernel_rfl

def i64R (n : Int) : Prop := -9223372036854775808 ≤ n ∧ n ≤ 9223372036854775807
def Vl.bulk (v : Vl) : Nat := v.s.size + 4
section
variable {H : Type} {enc : TypeId × Value → H} {W : World} {base b0 : Nat} {spare : Nat → Bool} {held : Bool} {n : Nat} {cs : List Value} {x : DataW H × List MemPlace} {v : Value} {d : DataW H} {ps : List MemPlace}
theorem oint (h : DataW.trod enc Try.prog W base spare held n 3 cs = some x) : ∃ z, cs = [.int .i64 z] ∧ i64R z ∧ Rows.uptoBulk x.1 = 1 := by
  obtain ⟨z, rfl, rfl, hw⟩ := DataW.trod_int (k := .i64) (by kernel_rfl) h
  exact ⟨z, rfl, i64_range hw, rfl⟩
theorem ostr (h : DataW.trod enc Try.prog W base spare held n 9 cs = some x) : ∃ s : ByteArray, cs = [.string s] ∧ Rows.uptoBulk x.1 = s.size + 1 := by
  obtain ⟨s, rfl, rfl, hw⟩ := DataW.trod_string (by kernel_rfl) h
  exact ⟨s, rfl, by simp [Rows.uptoBulk]⟩
theorem oval (h : DataW.trod enc Try.prog W base spare held n 58 cs = some x) : ∃ v : Vl, cs = v.cells ∧ i64R v.k ∧ i64R v.n ∧ v.bulk ≤ Rows.uptoBulk x.1 := by
  obtain ⟨hl, ds, hd, hds, hf⟩ := opened val_under h
  rw [val_cells] at hl
  obtain ⟨_, y0, h0, e0⟩ := hf 0 0 3 1 (by kernel_rfl) (by kernel_rfl)
  obtain ⟨_, y1, h1, e1⟩ := hf 1 1 3 1 (by kernel_rfl) (by kernel_rfl)
  obtain ⟨_, y2, h2, e2⟩ := hf 2 2 9 1 (by kernel_rfl) (by kernel_rfl)
  obtain ⟨z0, q0, r0, b0⟩ := oint h0
  obtain ⟨z1, q1, r1, b1⟩ := oint h1
  obtain ⟨z2, q2, b2⟩ := ostr h2
  clear hf
  match cs, hl with
  | [c0, c1, c2], _ =>
    simp at q0 q1 q2
    subst q0 q1 q2
    refine ⟨⟨z0, z1, z2⟩, rfl, r0, r1, ?_⟩
    rw [hd]
    match ds, e0, e1, e2 with
    | d0 :: d1 :: d2 :: r, e0, e1, e2 =>
      simp at e0 e1 e2
      subst e0 e1 e2
      simp only [Rows.uptoBulk, Rows.uptoBulkAll, Vl.bulk]
      omega
theorem seq_sum {α : Type} {d : DataW H} {l : List α} {Q : DataW H → α → Prop} {b : α → Nat} (hQ : ∀ d a, Q d a → b a ≤ Rows.uptoBulk d) (h : (d = .nil ∧ l = []) ∨ ∃ ds sp, d = .slice ds sp ∧ ds.length = l.length ∧ ∀ i (h : i < l.length), ∃ d, ds[i]? = some d ∧ Q d l[i]) :
    (l.map b).sum + 1 ≤ Rows.uptoBulk d := by
  rcases h with ⟨rfl, rfl⟩ | ⟨ds, sp, rfl, h, hq⟩
  · simp [Rows.uptoBulk]
  · have : ∀ (l : List α) (ds : List (DataW H)), ds.length = l.length → (∀ i (h : i < l.length), ∃ d, ds[i]? = some d ∧ Q d l[i]) → (l.map b).sum ≤ Rows.uptoBulkAll ds := by
      intro l
      induction l with
      | nil => intro ds _ _; simp
      | cons a t ih =>
        intro ds hl hq
        cases ds with
        | nil => simp at hl
        | cons d ds =>
          have h1 := ih ds (by simpa using hl) (fun i hi => hq (i + 1) (by simpa using hi))
          obtain ⟨d', h2, h3⟩ := hq 0 (by simp)
          cases h2
          have := hQ _ _ h3
          simp only [List.map_cons, List.sum_cons, Rows.uptoBulkAll]
          simp only [List.getElem_cons_zero] at this
          omega
    have := this l ds h hq
    simp only [Rows.uptoBulk]
    omega
def VOk (v : Vl) : Prop := i64R v.k ∧ i64R v.n
theorem seq_all {α : Type} {d : DataW H} {l : List α} {Q : DataW H → α → Prop} (h : (d = .nil ∧ l = []) ∨ ∃ ds sp, d = .slice ds sp ∧ ds.length = l.length ∧ ∀ i (h : i < l.length), ∃ d, ds[i]? = some d ∧ Q d l[i]) : ∀ a ∈ l, ∃ d, Q d a := by
  rcases h with ⟨rfl, rfl⟩ | ⟨ds, sp, rfl, h, hq⟩
  · intro a ha; simp at ha
  · intro a ha
    obtain ⟨i, hi, rfl⟩ := List.getElem_of_mem ha
    obtain ⟨d', h1, h2⟩ := hq i hi
    exact ⟨d', h2⟩
theorem ovals (h : DataW.trod enc Try.prog W base spare held n 27 cs = some x) : ∃ v l, cs = [v] ∧ IsVals W v l ∧ (∀ a ∈ l, VOk a) ∧ (l.map Vl.bulk).sum + 1 ≤ Rows.uptoBulk x.1 := by
  obtain ⟨v, l, h1, h2, h3⟩ := trod_seq (R := rdVal) (Q := fun d v => VOk v ∧ v.bulk ≤ Rows.uptoBulk d) Try.underlying27 val_cells (by omega) (fun n cs x hx => by
    obtain ⟨a, rfl, b1, b2, b3⟩ := oval hx
    exact ⟨a, rfl, ⟨b1, b2⟩, b3⟩) h
  refine ⟨v, l, h1, h2, fun a ha => ?_, seq_sum (Q := fun d v => VOk v ∧ v.bulk ≤ Rows.uptoBulk d) (fun _ _ h => h.2) h3⟩
  obtain ⟨_, h⟩ := seq_all (Q := fun d v => VOk v ∧ v.bulk ≤ Rows.uptoBulk d) h3 a ha
  exact h.1
theorem oid (h : DataW.trod enc Try.prog W base spare held n 26 cs = some x) : ∃ s z, cs = [.string s, .int .i64 z] ∧ i64R z ∧ s.size + 3 ≤ Rows.uptoBulk x.1 := by
  obtain ⟨hl, ds, hd, hds, hf⟩ := opened id_under h
  rw [id_cells] at hl
  obtain ⟨_, y0, h0, e0⟩ := hf 0 0 9 1 (by kernel_rfl) (by kernel_rfl)
  obtain ⟨_, y1, h1, e1⟩ := hf 1 1 3 1 (by kernel_rfl) (by kernel_rfl)
  obtain ⟨z0, q0, b0⟩ := ostr h0
  obtain ⟨z1, q1, r1, b1⟩ := oint h1
  clear hf
  match cs, hl with
  | [c0, c1], _ =>
    simp at q0 q1
    subst q0 q1
    refine ⟨_, _, rfl, r1, ?_⟩
    rw [hd]
    match ds, e0, e1 with
    | d0 :: d1 :: r, e0, e1 =>
      simp at e0 e1
      subst e0 e1
      simp only [Rows.uptoBulk, Rows.uptoBulkAll]
      omega
def Fc.bulk (f : Fc) : Nat := f.src.size + f.table.size + f.key.size + (f.fields.map Vl.bulk).sum + 10
def Fc.Ok (f : Fc) : Prop := i64R f.seq ∧ i64R f.kind ∧ i64R f.ref ∧ i64R f.event ∧ ∀ a ∈ f.fields, VOk a
theorem ofact (h : DataW.trod enc Try.prog W base spare held n 29 cs = some x) : ∃ (f : Fc) (b : Option Addr) (q : Nat), cs = (f.cellsA (.slice b f.fields.length q)).toList ∧ IsVals W (.slice b f.fields.length q) f.fields ∧ f.Ok ∧ f.bulk ≤ Rows.uptoBulk x.1 := by
  obtain ⟨hl, ds, hd, hds, hf⟩ := opened fact_under h
  rw [fact_cells] at hl
  obtain ⟨_, y0, h0, e0⟩ := hf 0 0 26 2 (by kernel_rfl) (by kernel_rfl)
  obtain ⟨_, y1, h1, e1⟩ := hf 1 2 3 1 (by kernel_rfl) (by kernel_rfl)
  obtain ⟨_, y2, h2, e2⟩ := hf 2 3 3 1 (by kernel_rfl) (by kernel_rfl)
  obtain ⟨_, y3, h3, e3⟩ := hf 3 4 9 1 (by kernel_rfl) (by kernel_rfl)
  obtain ⟨_, y4, h4, e4⟩ := hf 4 5 9 1 (by kernel_rfl) (by kernel_rfl)
  obtain ⟨_, y5, h5, e5⟩ := hf 5 6 3 1 (by kernel_rfl) (by kernel_rfl)
  obtain ⟨_, y6, h6, e6⟩ := hf 6 7 27 1 (by kernel_rfl) (by kernel_rfl)
  obtain ⟨s0, z0, q0, r0, b0⟩ := oid h0
  obtain ⟨z1, q1, r1, b1⟩ := oint h1
  obtain ⟨z2, q2, r2, b2⟩ := oint h2
  obtain ⟨z3, q3, b3⟩ := ostr h3
  obtain ⟨z4, q4, b4⟩ := ostr h4
  obtain ⟨z5, q5, r5, b5⟩ := oint h5
  obtain ⟨z6, l6, q6, i6, k6, b6⟩ := ovals h6
  obtain ⟨bs, q, rfl, -⟩ := i6.shape
  clear hf
  match cs, hl with
  | [c0, c1, c2, c3, c4, c5, c6, c7], _ =>
    simp at q0 q1 q2 q3 q4 q5 q6
    obtain ⟨rfl, rfl⟩ := q0
    subst q1 q2 q3 q4 q5 q6
    refine ⟨⟨s0, z0, z1, z2, z3, z4, z5, l6⟩, bs, q, rfl, i6, ⟨r0, r1, r2, r5, k6⟩, ?_⟩
    rw [hd]
    match ds, e0, e1, e2, e3, e4, e5, e6 with
    | d0 :: d1 :: d2 :: d3 :: d4 :: d5 :: d6 :: r, e0, e1, e2, e3, e4, e5, e6 =>
      simp at e0 e1 e2 e3 e4 e5 e6
      subst e0 e1 e2 e3 e4 e5 e6
      simp only [Rows.uptoBulk, Rows.uptoBulkAll, Fc.bulk]
      omega
set_option maxRecDepth 8000 in
theorem open_fact (hval : Value.okWide Try.prog W .any base 29 v) (h : DataW.Trod enc Try.prog W b0 spare held 29 v d ps) : ∃ (f : Fc) (b : Option Addr) (q : Nat), v = f.val (.slice b f.fields.length q) ∧ IsVals W (.slice b f.fields.length q) f.fields ∧ f.Ok ∧ f.bulk ≤ Rows.uptoBulk d := by
  obtain ⟨cs, rfl, _⟩ := okWide_struct fact_under hval
  obtain ⟨fuel, hf⟩ := h
  obtain ⟨f, b, q, h1, h2, h3, h4⟩ := ofact hf
  refine ⟨f, b, q, ?_, h2, h3, h4⟩
  simp only [Value.cells] at h1
  have : cs = f.cellsA (.slice b f.fields.length q) := Array.toList_inj.1 h1
  rw [this]
theorem obool (h : DataW.trod enc Try.prog W base spare held n 4 cs = some x) : ∃ b, cs = [.bool b] := by
  obtain ⟨b, rfl, rfl⟩ := DataW.trod_bool (by kernel_rfl) h
  exact ⟨b, rfl⟩
theorem opk (h : DataW.trod enc Try.prog W base spare held n 31 cs = some x) : ∃ (p : Pk) (b : Option Addr) (q : Nat), cs = (p.cellsA (.slice b p.fact.fields.length q)).toList ∧ IsVals W (.slice b p.fact.fields.length q) p.fact.fields := by
  obtain ⟨hl, ds, hd, hds, hf⟩ := opened pk_under h
  rw [pk_cells] at hl
  obtain ⟨_, y0, h0, e0⟩ := hf 0 0 9 1 (by kernel_rfl) (by kernel_rfl)
  obtain ⟨_, y1, h1, e1⟩ := hf 1 1 4 1 (by kernel_rfl) (by kernel_rfl)
  obtain ⟨_, y2, h2, e2⟩ := hf 2 2 3 1 (by kernel_rfl) (by kernel_rfl)
  obtain ⟨_, y3, h3, e3⟩ := hf 3 3 29 8 (by kernel_rfl) (by kernel_rfl)
  obtain ⟨z0, q0, -⟩ := ostr h0
  obtain ⟨z1, q1⟩ := obool h1
  obtain ⟨z2, q2, -, -⟩ := oint h2
  obtain ⟨f, b, q, q3, i3, -, -⟩ := ofact h3
  clear hf
  match cs, hl with
  | [c0, c1, c2, c3, c4, c5, c6, c7, c8, c9, c10], _ =>
    simp at q0 q1 q2 q3
    subst q0 q1 q2
    obtain ⟨rfl, rfl, rfl, rfl, rfl, rfl, rfl, rfl⟩ := q3
    exact ⟨⟨z0, z1, z2, f⟩, b, q, rfl, i3⟩
theorem opks (h : DataW.trod enc Try.prog W base spare held n 22 cs = some x) : ∃ v l, cs = [v] ∧ IsPks W v l := by
  obtain ⟨v, l, h1, h2, -⟩ := trod_seq (R := rdPk) (Q := fun _ _ => True) Try.underlying22 pk_cells (by omega) (fun n cs x hx => by
    obtain ⟨p, b, q, rfl, i⟩ := opk hx
    exact ⟨p, ⟨b, q, rfl, i⟩, trivial⟩) h
  exact ⟨v, l, h1, h2⟩
set_option maxRecDepth 8000 in
theorem open_pk (hval : Value.okWide Try.prog W .any base 31 v) (h : DataW.Trod enc Try.prog W b0 spare held 31 v d ps) : ∃ (p : Pk) (b : Option Addr) (q : Nat), v = p.val (.slice b p.fact.fields.length q) ∧ IsVals W (.slice b p.fact.fields.length q) p.fact.fields := by
  obtain ⟨cs, rfl, _⟩ := okWide_struct pk_under hval
  obtain ⟨fuel, hf⟩ := h
  obtain ⟨p, b, q, h1, h2⟩ := opk hf
  refine ⟨p, b, q, ?_, h2⟩
  simp only [Value.cells] at h1
  have : cs = p.cellsA (.slice b p.fact.fields.length q) := Array.toList_inj.1 h1
  rw [this]
set_option maxRecDepth 8000 in
theorem open_ch (hval : Value.okWide Try.prog W .any base 24 v) (h : DataW.Trod enc Try.prog W b0 spare held 24 v d ps) : ∃ (l : List Pk) (b : Option Addr) (q : Nat), v = .agg #[.slice b l.length q] ∧ IsPks W (.slice b l.length q) l := by
  obtain ⟨cs, rfl, _⟩ := okWide_struct ch_under hval
  obtain ⟨fuel, hf⟩ := h
  obtain ⟨hl, ds, hd, hds, hf⟩ := opened ch_under hf
  rw [ch_cells] at hl
  obtain ⟨_, y0, h0, e0⟩ := hf 0 0 22 1 (by kernel_rfl) (by kernel_rfl)
  obtain ⟨v, l, q0, i0⟩ := opks h0
  obtain ⟨b, q, rfl, -⟩ := i0.shape
  refine ⟨l, b, q, ?_, i0⟩
  simp only [Value.cells] at *
  obtain ⟨cl⟩ := cs
  match cl, hl with
  | [w0], _ =>
    simp at q0
    subst q0
    rfl
end
end Go.Proofs.Ytihohhjaomoemaa
