/- Opening facts, catalogs and rows among the arguments of a statement. -/
import Derived.Test.YtfpkibfofainaaaZGA
import Derived.Test.YtfpkibfofainaaaZCat
import Derived.Test.YtfpkibfofainaaaZFcs
set_option linter.unusedVariables false
namespace Go.Proofs.Ytfpkibfofainaaa
open Go.ChangeShapes Go.WideShapes Go.ChangeAt Go.RowKit Go.Deep

noncomputable def fieldsOf (t : TypeId) : Array Field := match Try.prog.underlying t with | some (.struct fs) => fs | _ => #[]
section
variable {H : Type} {enc : TypeId × Value → H} {P : Program} {W : World} {base b0 : Nat} {spare : Nat → Bool} {held : Bool} {t : TypeId} {n : Nat} {cs : List Value} {x : DataW H × List MemPlace} {fs : Array Field}
/-- A struct's fields, each read by itself. -/
theorem opened (ht : P.underlying t = some (.struct fs)) (h : DataW.trod enc P W base spare held n t cs = some x) :
    cs.length = P.cellsOf t ∧ ∃ ds, x.1 = .agg ds ∧ ds.length = fs.size ∧ ∀ (j o : Nat) (T : TypeId) (c : Nat), (fs[j]?).map (fun f : Field => (f.offset, f.type)) = some (o, T) → P.cellsOf T = c → ∃ m y, DataW.trod enc P W base spare held m T ((cs.drop o).take c) = some y ∧ ds[j]? = some y.1 := by
  obtain ⟨xs, m, _, rfl, hl, hxs, hf⟩ := DataW.trod_struct ht h
  refine ⟨hl, _, rfl, by simpa using hxs, fun j o T c hj hc => ?_⟩
  cases hq : fs[j]? with
  | none => rw [hq] at hj; cases hj
  | some f =>
    rw [hq] at hj
    obtain ⟨rfl, rfl⟩ : f.offset = o ∧ f.type = T := by cases hj; exact ⟨rfl, rfl⟩
    subst hc
    have h5 := hf j f hq
    have hjs : j < xs.length := by rw [hxs]; exact (Array.getElem?_eq_some_iff.1 hq).1
    rw [List.getElem?_eq_getElem hjs] at h5
    exact ⟨_, _, h5, by rw [List.getElem?_map, List.getElem?_eq_getElem hjs]; rfl⟩
end

theorem val_under : Try.prog.underlying 57 = some (.struct (fieldsOf 57)) := by kernel_rfl
theorem val_cells : Try.prog.cellsOf 57 = 3 := by kernel_rfl
theorem id_under : Try.prog.underlying 24 = some (.struct (fieldsOf 24)) := by kernel_rfl
theorem id_cells : Try.prog.cellsOf 24 = 2 := by kernel_rfl
theorem fact_under : Try.prog.underlying 27 = some (.struct (fieldsOf 27)) := by kernel_rfl
theorem fact_cells : Try.prog.cellsOf 27 = 8 := by kernel_rfl
theorem type_under : Try.prog.underlying 60 = some (.struct (fieldsOf 60)) := by kernel_rfl
theorem type_cells : Try.prog.cellsOf 60 = 3 := by kernel_rfl
theorem fd_under : Try.prog.underlying 62 = some (.struct (fieldsOf 62)) := by kernel_rfl
theorem fd_cells : Try.prog.cellsOf 62 = 4 := by kernel_rfl
theorem tb_under : Try.prog.underlying 51 = some (.struct (fieldsOf 51)) := by kernel_rfl
theorem tb_cells : Try.prog.cellsOf 51 = 4 := by kernel_rfl
theorem row_under : Try.prog.underlying 64 = some (.struct (fieldsOf 64)) := by kernel_rfl
theorem row_cells : Try.prog.cellsOf 64 = 8 := by kernel_rfl
theorem ct_under : Try.prog.underlying 45 = some (.struct (fieldsOf 45)) := by kernel_rfl
theorem ct_cells : Try.prog.cellsOf 45 = 4 := by kernel_rfl

def i64R (n : Int) : Prop := -9223372036854775808 ≤ n ∧ n ≤ 9223372036854775807
def Vl.bulk (v : Vl) : Nat := v.s.size + 4
section
variable {H : Type} {enc : TypeId × Value → H} {W : World} {base b0 : Nat} {spare : Nat → Bool} {held : Bool} {n : Nat} {cs : List Value} {x : DataW H × List MemPlace} {v : Value} {d : DataW H} {ps : List MemPlace}
theorem oint (h : DataW.trod enc Try.prog W base spare held n 3 cs = some x) : ∃ z, cs = [.int .i64 z] ∧ i64R z ∧ Rows.uptoBulk x.1 = 1 := by
  obtain ⟨z, rfl, rfl, hw⟩ := DataW.trod_int (k := .i64) (by kernel_rfl) h
  exact ⟨z, rfl, i64_range hw, rfl⟩
theorem ostr (h : DataW.trod enc Try.prog W base spare held n 9 cs = some x) : ∃ s : ByteArray, cs = [.string s] ∧ Rows.uptoBulk x.1 = s.size + 1 := by
  obtain ⟨s, rfl, rfl, hw⟩ := DataW.trod_string (by kernel_rfl) h
  exact ⟨s, rfl, by simp [Rows.uptoBulk]⟩
theorem oval (h : DataW.trod enc Try.prog W base spare held n 57 cs = some x) : ∃ v : Vl, cs = v.cells ∧ i64R v.k ∧ i64R v.n ∧ v.bulk ≤ Rows.uptoBulk x.1 := by
  obtain ⟨hl, ds, hd, hds, hf⟩ := opened val_under h
  rw [val_cells] at hl
  obtain ⟨_, y0, h0, e0⟩ := hf 0 0 3 1 (by kernel_rfl) (by kernel_rfl)
  obtain ⟨_, y1, h1, e1⟩ := hf 1 1 3 1 (by kernel_rfl) (by kernel_rfl)
  obtain ⟨_, y2, h2, e2⟩ := hf 2 2 9 1 (by kernel_rfl) (by kernel_rfl)
  obtain ⟨z0, q0, r0, b0⟩ := oint h0
  obtain ⟨z1, q1, r1, b1⟩ := oint h1
  obtain ⟨z2, q2, b2⟩ := ostr h2
  clear hf
  match cs, hl with
  | [c0, c1, c2], _ =>
    simp at q0 q1 q2
    subst q0 q1 q2
    refine ⟨⟨z0, z1, z2⟩, rfl, r0, r1, ?_⟩
    rw [hd]
    match ds, e0, e1, e2 with
    | d0 :: d1 :: d2 :: r, e0, e1, e2 =>
      simp at e0 e1 e2
      subst e0 e1 e2
      simp only [Rows.uptoBulk, Rows.uptoBulkAll, Vl.bulk]
      omega
theorem seq_sum {α : Type} {d : DataW H} {l : List α} {Q : DataW H → α → Prop} {b : α → Nat} (hQ : ∀ d a, Q d a → b a ≤ Rows.uptoBulk d) (h : (d = .nil ∧ l = []) ∨ ∃ ds sp, d = .slice ds sp ∧ ds.length = l.length ∧ ∀ i (h : i < l.length), ∃ d, ds[i]? = some d ∧ Q d l[i]) :
    (l.map b).sum + 1 ≤ Rows.uptoBulk d := by
  rcases h with ⟨rfl, rfl⟩ | ⟨ds, sp, rfl, h, hq⟩
  · simp [Rows.uptoBulk]
  · have : ∀ (l : List α) (ds : List (DataW H)), ds.length = l.length → (∀ i (h : i < l.length), ∃ d, ds[i]? = some d ∧ Q d l[i]) → (l.map b).sum ≤ Rows.uptoBulkAll ds := by
      intro l
      induction l with
      | nil => intro ds _ _; simp
      | cons a t ih =>
        intro ds hl hq
        cases ds with
        | nil => simp at hl
        | cons d ds =>
          have h1 := ih ds (by simpa using hl) (fun i hi => hq (i + 1) (by simpa using hi))
          obtain ⟨d', h2, h3⟩ := hq 0 (by simp)
          cases h2
          have := hQ _ _ h3
          simp only [List.map_cons, List.sum_cons, Rows.uptoBulkAll]
          simp only [List.getElem_cons_zero] at this
          omega
    have := this l ds h hq
    simp only [Rows.uptoBulk]
    omega
def VOk (v : Vl) : Prop := i64R v.k ∧ i64R v.n
theorem seq_all {α : Type} {d : DataW H} {l : List α} {Q : DataW H → α → Prop} (h : (d = .nil ∧ l = []) ∨ ∃ ds sp, d = .slice ds sp ∧ ds.length = l.length ∧ ∀ i (h : i < l.length), ∃ d, ds[i]? = some d ∧ Q d l[i]) : ∀ a ∈ l, ∃ d, Q d a := by
  rcases h with ⟨rfl, rfl⟩ | ⟨ds, sp, rfl, h, hq⟩
  · intro a ha; simp at ha
  · intro a ha
    obtain ⟨i, hi, rfl⟩ := List.getElem_of_mem ha
    obtain ⟨d', h1, h2⟩ := hq i hi
    exact ⟨d', h2⟩
theorem ovals (h : DataW.trod enc Try.prog W base spare held n 25 cs = some x) : ∃ v l, cs = [v] ∧ IsVals W v l ∧ (∀ a ∈ l, VOk a) ∧ (l.map Vl.bulk).sum + 1 ≤ Rows.uptoBulk x.1 := by
  obtain ⟨v, l, h1, h2, h3⟩ := trod_seq (R := rdVal) (Q := fun d v => VOk v ∧ v.bulk ≤ Rows.uptoBulk d) Try.underlying25 val_cells (by omega) (fun n cs x hx => by
    obtain ⟨a, rfl, b1, b2, b3⟩ := oval hx
    exact ⟨a, rfl, ⟨b1, b2⟩, b3⟩) h
  refine ⟨v, l, h1, h2, fun a ha => ?_, seq_sum (Q := fun d v => VOk v ∧ v.bulk ≤ Rows.uptoBulk d) (fun _ _ h => h.2) h3⟩
  obtain ⟨_, h⟩ := seq_all (Q := fun d v => VOk v ∧ v.bulk ≤ Rows.uptoBulk d) h3 a ha
  exact h.1
theorem oid (h : DataW.trod enc Try.prog W base spare held n 24 cs = some x) : ∃ s z, cs = [.string s, .int .i64 z] ∧ i64R z ∧ s.size + 3 ≤ Rows.uptoBulk x.1 := by
  obtain ⟨hl, ds, hd, hds, hf⟩ := opened id_under h
  rw [id_cells] at hl
  obtain ⟨_, y0, h0, e0⟩ := hf 0 0 9 1 (by kernel_rfl) (by kernel_rfl)
  obtain ⟨_, y1, h1, e1⟩ := hf 1 1 3 1 (by kernel_rfl) (by kernel_rfl)
  obtain ⟨z0, q0, b0⟩ := ostr h0
  obtain ⟨z1, q1, r1, b1⟩ := oint h1
  clear hf
  match cs, hl with
  | [c0, c1], _ =>
    simp at q0 q1
    subst q0 q1
    refine ⟨_, _, rfl, r1, ?_⟩
    rw [hd]
    match ds, e0, e1 with
    | d0 :: d1 :: r, e0, e1 =>
      simp at e0 e1
      subst e0 e1
      simp only [Rows.uptoBulk, Rows.uptoBulkAll]
      omega
def Fc.bulk (f : Fc) : Nat := f.src.size + f.table.size + f.key.size + (f.fields.map Vl.bulk).sum + 10
def Fc.Ok (f : Fc) : Prop := i64R f.seq ∧ i64R f.kind ∧ i64R f.ref ∧ i64R f.event ∧ ∀ a ∈ f.fields, VOk a
theorem ofact (h : DataW.trod enc Try.prog W base spare held n 27 cs = some x) : ∃ (f : Fc) (b : Option Addr) (q : Nat), cs = (f.cellsA (.slice b f.fields.length q)).toList ∧ IsVals W (.slice b f.fields.length q) f.fields ∧ f.Ok ∧ f.bulk ≤ Rows.uptoBulk x.1 := by
  obtain ⟨hl, ds, hd, hds, hf⟩ := opened fact_under h
  rw [fact_cells] at hl
  obtain ⟨_, y0, h0, e0⟩ := hf 0 0 24 2 (by kernel_rfl) (by kernel_rfl)
  obtain ⟨_, y1, h1, e1⟩ := hf 1 2 3 1 (by kernel_rfl) (by kernel_rfl)
  obtain ⟨_, y2, h2, e2⟩ := hf 2 3 3 1 (by kernel_rfl) (by kernel_rfl)
  obtain ⟨_, y3, h3, e3⟩ := hf 3 4 9 1 (by kernel_rfl) (by kernel_rfl)
  obtain ⟨_, y4, h4, e4⟩ := hf 4 5 9 1 (by kernel_rfl) (by kernel_rfl)
  obtain ⟨_, y5, h5, e5⟩ := hf 5 6 3 1 (by kernel_rfl) (by kernel_rfl)
  obtain ⟨_, y6, h6, e6⟩ := hf 6 7 25 1 (by kernel_rfl) (by kernel_rfl)
  obtain ⟨s0, z0, q0, r0, b0⟩ := oid h0
  obtain ⟨z1, q1, r1, b1⟩ := oint h1
  obtain ⟨z2, q2, r2, b2⟩ := oint h2
  obtain ⟨z3, q3, b3⟩ := ostr h3
  obtain ⟨z4, q4, b4⟩ := ostr h4
  obtain ⟨z5, q5, r5, b5⟩ := oint h5
  obtain ⟨z6, l6, q6, i6, k6, b6⟩ := ovals h6
  obtain ⟨bs, q, rfl, -⟩ := i6.shape
  clear hf
  match cs, hl with
  | [c0, c1, c2, c3, c4, c5, c6, c7], _ =>
    simp at q0 q1 q2 q3 q4 q5 q6
    obtain ⟨rfl, rfl⟩ := q0
    subst q1 q2 q3 q4 q5 q6
    refine ⟨⟨s0, z0, z1, z2, z3, z4, z5, l6⟩, bs, q, rfl, i6, ⟨r0, r1, r2, r5, k6⟩, ?_⟩
    rw [hd]
    match ds, e0, e1, e2, e3, e4, e5, e6 with
    | d0 :: d1 :: d2 :: d3 :: d4 :: d5 :: d6 :: r, e0, e1, e2, e3, e4, e5, e6 =>
      simp at e0 e1 e2 e3 e4 e5 e6
      subst e0 e1 e2 e3 e4 e5 e6
      simp only [Rows.uptoBulk, Rows.uptoBulkAll, Fc.bulk]
      omega
set_option maxRecDepth 8000 in
theorem open_fact (hval : Value.okWide Try.prog W .any base 27 v) (h : DataW.Trod enc Try.prog W b0 spare held 27 v d ps) : ∃ (f : Fc) (b : Option Addr) (q : Nat), v = f.val (.slice b f.fields.length q) ∧ IsVals W (.slice b f.fields.length q) f.fields ∧ f.Ok ∧ f.bulk ≤ Rows.uptoBulk d := by
  obtain ⟨cs, rfl, _⟩ := okWide_struct fact_under hval
  obtain ⟨fuel, hf⟩ := h
  obtain ⟨f, b, q, h1, h2, h3, h4⟩ := ofact hf
  refine ⟨f, b, q, ?_, h2, h3, h4⟩
  simp only [Value.cells] at h1
  have : cs = f.cellsA (.slice b f.fields.length q) := Array.toList_inj.1 h1
  rw [this]
theorem oslice {t e : TypeId} (ht : Try.prog.underlying t = some (.slice e)) (h : DataW.trod enc Try.prog W base spare held n t cs = some x) : ∃ b m q, cs = [.slice b m q] := by
  rcases open_slice ht h with ⟨rfl, _⟩ | ⟨a, len, cap, m, n, D, Pl, rfl, _⟩
  · exact ⟨_, _, _, rfl⟩
  · exact ⟨_, _, _, rfl⟩
theorem ofd (h : DataW.trod enc Try.prog W base spare held n 62 cs = some x) : ∃ a : Fd, rdFd W cs a := by
  obtain ⟨hl, ds, hd, hds, hf⟩ := opened fd_under h
  rw [fd_cells] at hl
  obtain ⟨_, y0, h0, e0⟩ := hf 0 0 9 1 (by kernel_rfl) (by kernel_rfl)
  obtain ⟨_, y1, h1, e1⟩ := hf 1 1 60 3 (by kernel_rfl) (by kernel_rfl)
  obtain ⟨hl2, ds2, hd2, hds2, hf2⟩ := opened type_under h1
  obtain ⟨_, y2, h2, e2⟩ := hf2 0 0 3 1 (by kernel_rfl) (by kernel_rfl)
  obtain ⟨_, y3, h3, e3⟩ := hf2 1 1 58 1 (by kernel_rfl) (by kernel_rfl)
  obtain ⟨_, y4, h4, e4⟩ := hf2 2 2 9 1 (by kernel_rfl) (by kernel_rfl)
  obtain ⟨z0, q0, -⟩ := ostr h0
  obtain ⟨z2, q2, -, -⟩ := oint h2
  obtain ⟨b3, m3, c3, q3⟩ := oslice Try.underlying58 h3
  obtain ⟨z4, q4, -⟩ := ostr h4
  clear hf hf2
  match cs, hl with
  | [c0, c1, c2, c3], _ =>
    simp at q0 q2 q3 q4
    subst q0 q2 q3 q4
    exact ⟨⟨z0, z2, z4⟩, _, rfl, rfl⟩
theorem otb (h : DataW.trod enc Try.prog W base spare held n 51 cs = some x) : ∃ a : Tb, rdTb W cs a := by
  obtain ⟨hl, ds, hd, hds, hf⟩ := opened tb_under h
  rw [tb_cells] at hl
  obtain ⟨_, y0, h0, e0⟩ := hf 0 0 9 1 (by kernel_rfl) (by kernel_rfl)
  obtain ⟨_, y1, h1, e1⟩ := hf 1 1 9 1 (by kernel_rfl) (by kernel_rfl)
  obtain ⟨_, y2, h2, e2⟩ := hf 2 2 49 1 (by kernel_rfl) (by kernel_rfl)
  obtain ⟨_, y3, h3, e3⟩ := hf 3 3 3 1 (by kernel_rfl) (by kernel_rfl)
  obtain ⟨z0, q0, -⟩ := ostr h0
  obtain ⟨z1, q1, -⟩ := ostr h1
  obtain ⟨v, l, q2, i2, -⟩ := trod_seq (R := rdFd) (Q := fun _ _ => True) Try.underlying49 fd_cells (by omega) (fun n cs x hx => by
    obtain ⟨a, ha⟩ := ofd hx
    exact ⟨a, ha, trivial⟩) h2
  obtain ⟨z3, q3, -, -⟩ := oint h3
  obtain ⟨bs, q, rfl, -⟩ := i2.shape
  clear hf
  match cs, hl with
  | [c0, c1, c2, c3], _ =>
    simp at q0 q1 q2 q3
    subst q0 q1 q2 q3
    exact ⟨⟨z0, z1, l, z3⟩, bs, q, rfl, i2⟩
set_option maxRecDepth 8000 in
theorem open_cat (hval : Value.okWide Try.prog W .any base 45 v) (h : DataW.Trod enc Try.prog W b0 spare held 45 v d ps) :
    ∃ (l : List Tb) (b : Option Addr) (q : Nat) (b1 b2 b3 : Option Addr) (n1 n2 n3 q1 q2 q3 : Nat), v = .agg #[.slice b l.length q, .slice b1 n1 q1, .slice b2 n2 q2, .slice b3 n3 q3] ∧ IsTbs W (.slice b l.length q) l := by
  obtain ⟨cs, rfl, _⟩ := okWide_struct ct_under hval
  obtain ⟨fuel, hf⟩ := h
  obtain ⟨hl, ds, hd, hds, hf⟩ := opened ct_under hf
  rw [ct_cells] at hl
  obtain ⟨_, y0, h0, e0⟩ := hf 0 0 42 1 (by kernel_rfl) (by kernel_rfl)
  obtain ⟨_, y1, h1, e1⟩ := hf 1 1 43 1 (by kernel_rfl) (by kernel_rfl)
  obtain ⟨_, y2, h2, e2⟩ := hf 2 2 43 1 (by kernel_rfl) (by kernel_rfl)
  obtain ⟨_, y3, h3, e3⟩ := hf 3 3 43 1 (by kernel_rfl) (by kernel_rfl)
  obtain ⟨v, l, q0, i0, -⟩ := trod_seq (R := rdTb) (Q := fun _ _ => True) Try.underlying42 tb_cells (by omega) (fun n cs x hx => by
    obtain ⟨a, ha⟩ := otb hx
    exact ⟨a, ha, trivial⟩) h0
  obtain ⟨b1, m1, c1, q1⟩ := oslice Try.underlying43 h1
  obtain ⟨b2, m2, c2, q2⟩ := oslice Try.underlying43 h2
  obtain ⟨b3, m3, c3, q3⟩ := oslice Try.underlying43 h3
  obtain ⟨bs, q, rfl, -⟩ := i0.shape
  clear hf
  refine ⟨l, bs, q, b1, b2, b3, m1, m2, m3, c1, c2, c3, ?_, i0⟩
  simp only [Value.cells] at *
  obtain ⟨cl⟩ := cs
  match cl, hl with
  | [w0, w1, w2, w3], _ =>
    simp at q0 q1 q2 q3
    subst q0 q1 q2 q3
    rfl
set_option maxRecDepth 8000 in
theorem open_row (hval : Value.okWide Try.prog W .any base 64 v) (h : DataW.Trod enc Try.prog W b0 spare held 64 v d ps) :
    ∃ (s : ByteArray) (z : Int) (t k : ByteArray) (e : Int) (b : Option Addr) (m q : Nat) (o i : Int), v = .agg #[.string s, .int .i64 z, .string t, .string k, .int .i64 e, .slice b m q, .int .i64 o, .int .i64 i] := by
  obtain ⟨cs, rfl, _⟩ := okWide_struct row_under hval
  obtain ⟨fuel, hf⟩ := h
  obtain ⟨hl, ds, hd, hds, hf⟩ := opened row_under hf
  rw [row_cells] at hl
  obtain ⟨_, y0, h0, e0⟩ := hf 0 0 24 2 (by kernel_rfl) (by kernel_rfl)
  obtain ⟨_, y3, h3, e3⟩ := hf 1 2 9 1 (by kernel_rfl) (by kernel_rfl)
  obtain ⟨_, y4, h4, e4⟩ := hf 2 3 9 1 (by kernel_rfl) (by kernel_rfl)
  obtain ⟨_, y5, h5, e5⟩ := hf 3 4 3 1 (by kernel_rfl) (by kernel_rfl)
  obtain ⟨_, y6, h6, e6⟩ := hf 4 5 25 1 (by kernel_rfl) (by kernel_rfl)
  obtain ⟨_, y7, h7, e7⟩ := hf 5 6 3 1 (by kernel_rfl) (by kernel_rfl)
  obtain ⟨_, y8, h8, e8⟩ := hf 6 7 3 1 (by kernel_rfl) (by kernel_rfl)
  obtain ⟨s0, z0, q0, -, -⟩ := oid h0
  obtain ⟨z3, q3, -⟩ := ostr h3
  obtain ⟨z4, q4, -⟩ := ostr h4
  obtain ⟨z5, q5, -, -⟩ := oint h5
  obtain ⟨b6, m6, c6, q6⟩ := oslice Try.underlying25 h6
  obtain ⟨z7, q7, -, -⟩ := oint h7
  obtain ⟨z8, q8, -, -⟩ := oint h8
  clear hf
  refine ⟨s0, z0, z3, z4, z5, b6, m6, c6, z7, z8, ?_⟩
  simp only [Value.cells] at *
  obtain ⟨cl⟩ := cs
  match cl, hl with
  | [w0, w1, w2, w3, w4, w5, w6, w7], _ =>
    simp at q0 q3 q4 q5 q6 q7 q8
    obtain ⟨rfl, rfl⟩ := q0
    subst q3 q4 q5 q6 q7 q8
    rfl
end
end Go.Proofs.Ytfpkibfofainaaa
