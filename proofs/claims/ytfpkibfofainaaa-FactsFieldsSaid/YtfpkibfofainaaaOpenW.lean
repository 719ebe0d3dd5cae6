/- Opening catalogs together with the form's reach. -/
import Derived.Test.YtfpkibfofainaaaOpenF
import Derived.Test.YtfpkibfofainaaaOpenS
set_option linter.unusedVariables false
namespace Go.Proofs.Ytfpkibfofainaaa
open Go.ChangeShapes Go.WideShapes Go.ChangeAt Go.RowKit Go.Deep

theorem weightsAll_mem {H : Type} {P : Program} {e : TypeId} {d : DataW H} {k : Nat} (hk : k ∈ d.weights P e) : ∀ l : List (DataW H), d ∈ l → k ∈ DataW.weightsAll P e l
  | [], h => absurd h (by simp)
  | a :: l, h => by
    unfold DataW.weightsAll
    rcases List.mem_cons.1 h with rfl | h
    · exact List.mem_append_left _ hk
    · exact List.mem_append_right _ (weightsAll_mem hk l h)
theorem fd_bytes : Try.prog.bytesOf 62 = 64 := by kernel_rfl
section
variable {H : Type} {enc : TypeId × Value → H} {W : World} {base b0 : Nat} {spare : Nat → Bool} {held : Bool} {n : Nat} {cs : List Value} {x : DataW H × List MemPlace} {v : Value} {d : DataW H} {ps : List MemPlace}
theorem otb_w (h : DataW.trod enc Try.prog W base spare held n 51 cs = some x) : ∃ a : Tb, rdTb W cs a ∧ ((∀ k ∈ x.1.weights Try.prog 51, k ≤ reachBytes) → a.fields.length * 64 ≤ reachBytes) := by
  obtain ⟨hl, ds, hd, hds, hf⟩ := opened tb_under h
  rw [tb_cells] at hl
  obtain ⟨_, y0, h0, e0⟩ := hf 0 0 9 1 (by kernel_rfl) (by kernel_rfl)
  obtain ⟨_, y1, h1, e1⟩ := hf 1 1 9 1 (by kernel_rfl) (by kernel_rfl)
  obtain ⟨_, y2, h2, e2⟩ := hf 2 2 49 1 (by kernel_rfl) (by kernel_rfl)
  obtain ⟨_, y3, h3, e3⟩ := hf 3 3 3 1 (by kernel_rfl) (by kernel_rfl)
  obtain ⟨z0, q0, -⟩ := ostr h0
  obtain ⟨z1, q1, -⟩ := ostr h1
  obtain ⟨v, l, q2, i2, k2⟩ := trod_seq (R := rdFd) (Q := fun _ _ => True) Try.underlying49 fd_cells (by omega) (fun n cs x hx => by
    obtain ⟨a, ha⟩ := ofd hx
    exact ⟨a, ha, trivial⟩) h2
  obtain ⟨z3, q3, -, -⟩ := oint h3
  obtain ⟨bs, q, rfl, -⟩ := i2.shape
  clear hf
  have hw : (∀ k ∈ x.1.weights Try.prog 51, k ≤ reachBytes) → l.length * 64 ≤ reachBytes := fun hk => by
    rcases k2 with ⟨-, rfl⟩ | ⟨ds2, sp, k3, k4, -⟩
    · simp
    · have hm : (ds2.length + sp.length) * Try.prog.bytesOf 62 ∈ x.1.weights Try.prog 51 := by
        rw [hd]
        unfold DataW.weights
        rw [tb_under]
        refine DataW.weights_mem_each (j := 2) (t := 49) (d := y2.1) (by kernel_rfl) e2 _ ?_
        rw [k3]
        unfold DataW.weights
        rw [Try.underlying49]
        exact List.mem_cons_self
      have := hk _ hm
      rw [fd_bytes, k4] at this
      omega
  match cs, hl with
  | [c0, c1, c2, c3], _ =>
    simp at q0 q1 q2 q3
    subst q0 q1 q2 q3
    exact ⟨⟨z0, z1, l, z3⟩, ⟨bs, q, rfl, i2⟩, hw⟩
set_option maxRecDepth 8000 in
theorem open_cat_w (hval : Value.okWide Try.prog W .any base 45 v) (h : DataW.Trod enc Try.prog W b0 spare held 45 v d ps) :
    ∃ (l : List Tb) (b : Option Addr) (q : Nat) (b1 b2 b3 : Option Addr) (n1 n2 n3 q1 q2 q3 : Nat), v = .agg #[.slice b l.length q, .slice b1 n1 q1, .slice b2 n2 q2, .slice b3 n3 q3] ∧ IsTbs W (.slice b l.length q) l ∧
      ∀ {ts : List TypeId} {ds : List (DataW H)} {j : Nat}, Sized Try.prog ts ds → ts[j]? = some 45 → ds[j]? = some d → ∀ t ∈ l, t.fields.length * 64 ≤ 140737488351232 := by
  obtain ⟨cs, rfl, _⟩ := okWide_struct ct_under hval
  obtain ⟨fuel, hf⟩ := h
  obtain ⟨hl, ds, hd, hds, hf⟩ := opened ct_under hf
  rw [ct_cells] at hl
  obtain ⟨_, y0, h0, e0⟩ := hf 0 0 42 1 (by kernel_rfl) (by kernel_rfl)
  obtain ⟨_, y1, h1, e1⟩ := hf 1 1 43 1 (by kernel_rfl) (by kernel_rfl)
  obtain ⟨_, y2, h2, e2⟩ := hf 2 2 43 1 (by kernel_rfl) (by kernel_rfl)
  obtain ⟨_, y3, h3, e3⟩ := hf 3 3 43 1 (by kernel_rfl) (by kernel_rfl)
  obtain ⟨v, l, q0, i0, k0⟩ := trod_seq (R := rdTb) (Q := fun d (a : Tb) => (∀ k ∈ d.weights Try.prog 51, k ≤ reachBytes) → a.fields.length * 64 ≤ reachBytes) Try.underlying42 tb_cells (by omega) (fun n cs x hx => otb_w hx) h0
  obtain ⟨b1, m1, c1, q1⟩ := oslice Try.underlying43 h1
  obtain ⟨b2, m2, c2, q2⟩ := oslice Try.underlying43 h2
  obtain ⟨b3, m3, c3, q3⟩ := oslice Try.underlying43 h3
  obtain ⟨bs, q, rfl, -⟩ := i0.shape
  clear hf
  refine ⟨l, bs, q, b1, b2, b3, m1, m2, m3, c1, c2, c3, ?_, i0, ?_⟩
  · simp only [Value.cells] at *
    obtain ⟨cl⟩ := cs
    match cl, hl with
    | [w0, w1, w2, w3], _ =>
      simp at q0 q1 q2 q3
      subst q0 q1 q2 q3
      rfl
  · intro ts dss j hs ht hj t htl
    rcases k0 with ⟨-, rfl⟩ | ⟨ds2, sp, k3, k4, k5⟩
    · simp at htl
    · obtain ⟨i, hi, rfl⟩ := List.getElem_of_mem htl
      obtain ⟨d', hd', hq⟩ := k5 i hi
      refine hq fun k hk => ?_
      have hm : k ∈ d.weights Try.prog 45 := by
        rw [show d = DataW.agg ds from hd]
        unfold DataW.weights
        rw [ct_under]
        refine DataW.weights_mem_each (j := 0) (t := 42) (d := y0.1) (by kernel_rfl) e0 _ ?_
        rw [k3]
        unfold DataW.weights
        rw [Try.underlying42]
        exact List.mem_cons_of_mem _ (List.mem_append_left _ (weightsAll_mem hk _ (List.mem_of_getElem? hd')))
      have := List.all_eq_true.1 hs _ (DataW.weights_mem_each ht hj k hm)
      simpa using this
end
end Go.Proofs.Ytfpkibfofainaaa
