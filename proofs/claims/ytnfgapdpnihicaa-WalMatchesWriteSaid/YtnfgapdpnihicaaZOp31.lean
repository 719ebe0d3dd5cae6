/- Opening records, lists of batches, disks and pairs of bytes among the arguments, together with the form's reach. -/
import Derived.Test.YtnfgapdpnihicaaZGA
import Derived.Test.YtnfgapdpnihicaaZGD
import Derived.SizedLaws
set_option linter.unusedVariables false
namespace Go.Proofs.Ytnfgapdpnihicaa
open Go.ChangeShapes Go.WideShapes Go.ChangeAt Go.RowKit Go.Deep

/-- Every string and slice that is read takes at most so many bytes. -/
def SizedA {H : Type} (P : Program) (ts : List TypeId) (ds : List (DataW H)) : Prop := (DataW.weightsEach P ts ds).all (fun x => decide (x ≤ reachBytes)) = true
/-- What is read weighs at most the form's reach. -/
def Light {H : Type} (P : Program) (t : TypeId) (d : DataW H) : Prop := ∀ k ∈ d.weights P t, k ≤ reachBytes
theorem light_of {H : Type} {P : Program} {ts : List TypeId} {ds : List (DataW H)} {j : Nat} {t : TypeId} {d : DataW H} (hs : SizedA P ts ds) (h1 : ts[j]? = some t) (h2 : ds[j]? = some d) : Light P t d := fun k hk => by
  have := List.all_eq_true.1 hs k (DataW.weights_mem_each h1 h2 k hk)
  simpa using this
theorem weightsAll_mem {H : Type} {P : Program} {e : TypeId} {d : DataW H} {k : Nat} (hk : k ∈ d.weights P e) : ∀ l : List (DataW H), d ∈ l → k ∈ DataW.weightsAll P e l
  | [], h => absurd h (by simp)
  | a :: l, h => by
    unfold DataW.weightsAll
    rcases List.mem_cons.1 h with rfl | h
    · exact List.mem_append_left _ hk
    · exact List.mem_append_right _ (weightsAll_mem hk l h)
theorem light_elem {H : Type} {P : Program} {t e : TypeId} {ds sp : List (DataW H)} {d : DataW H} (ht : P.underlying t = some (.slice e)) (h : Light P t (.slice ds sp)) (hd : d ∈ ds) : Light P e d := fun k hk => h k (by
  unfold DataW.weights
  rw [ht]
  exact List.mem_cons_of_mem _ (List.mem_append_left _ (weightsAll_mem hk ds hd)))
theorem light_len {H : Type} {P : Program} {t e : TypeId} {ds sp : List (DataW H)} (ht : P.underlying t = some (.slice e)) (h : Light P t (.slice ds sp)) : (ds.length + sp.length) * P.bytesOf e ≤ reachBytes := h _ (by
  unfold DataW.weights
  rw [ht]
  exact List.mem_cons_self)
theorem u8_info2 : Try.prog.cellsOf 5 = 1 := by kernel_rfl
theorem pr_cells : Try.prog.cellsOf 49 = 2 := by kernel_rfl
noncomputable def fieldsOf (t : TypeId) : Array Field := match Try.prog.underlying t with | some (.struct fs) => fs | _ => #[]
section
variable {H : Type} {enc : TypeId × Value → H} {P : Program} {W : World} {base b0 : Nat} {spare : Nat → Bool} {held : Bool} {t : TypeId} {n : Nat} {cs : List Value} {x : DataW H × List MemPlace} {fs : Array Field}
/-- A struct's fields, each read by itself. -/
theorem opened (ht : P.underlying t = some (.struct fs)) (h : DataW.trod enc P W base spare held n t cs = some x) :
    cs.length = P.cellsOf t ∧ ∃ ds, x.1 = .agg ds ∧ ds.length = fs.size ∧ ∀ (j o : Nat) (T : TypeId) (c : Nat), (fs[j]?).map (fun f : Field => (f.offset, f.type)) = some (o, T) → P.cellsOf T = c → ∃ m y, DataW.trod enc P W base spare held m T ((cs.drop o).take c) = some y ∧ ds[j]? = some y.1 := by
  obtain ⟨xs, m, _, rfl, hl, hxs, hf⟩ := DataW.trod_struct ht h
  refine ⟨hl, _, rfl, by simpa using hxs, fun j o T c hj hc => ?_⟩
  cases hq : fs[j]? with
  | none => rw [hq] at hj; cases hj
  | some f =>
    rw [hq] at hj
    obtain ⟨rfl, rfl⟩ : f.offset = o ∧ f.type = T := by cases hj; exact ⟨rfl, rfl⟩
    subst hc
    have h5 := hf j f hq
    have hjs : j < xs.length := by rw [hxs]; exact (Array.getElem?_eq_some_iff.1 hq).1
    rw [List.getElem?_eq_getElem hjs] at h5
    exact ⟨_, _, h5, by rw [List.getElem?_map, List.getElem?_eq_getElem hjs]; rfl⟩
end
theorem dk_under : Try.prog.underlying 24 = some (.struct (fieldsOf 24)) := by kernel_rfl
theorem dk_cells : Try.prog.cellsOf 24 = 4 := by kernel_rfl
section
variable {H : Type} {enc : TypeId × Value → H} {W : World} {base b0 : Nat} {spare : Nat → Bool} {held : Bool} {n : Nat} {cs : List Value} {x : DataW H × List MemPlace} {v : Value} {d : DataW H} {ps : List MemPlace}
theorem u8_bytes : Try.prog.bytesOf 5 = 1 := by kernel_rfl
theorem obytes (h : DataW.trod enc Try.prog W base spare held n 42 cs = some x) : ∃ v l, cs = [v] ∧ IsBytes W v l ∧ (Light Try.prog 42 x.1 → l.length ≤ 140737488351232) := by
  obtain ⟨v, l, h1, h2, h3⟩ := trod_bytes Try.underlying42 Try.underlying5 (by kernel_rfl) h
  refine ⟨v, l, h1, h2, fun hl => ?_⟩
  rcases h3 with ⟨-, rfl⟩ | ⟨ds, sp, k3, k4⟩
  · simp
  · rw [k3] at hl
    have := light_len Try.underlying42 hl
    rw [u8_bytes, k4] at this
    unfold reachBytes at this
    omega
theorem orecs (h : DataW.trod enc Try.prog W base spare held n 22 cs = some x) : ∃ v l, cs = [v] ∧ IsLists W v l ∧ (Light Try.prog 22 x.1 → ∀ r ∈ l, r.length ≤ 140737488351232) := by
  obtain ⟨v, l, h1, h2, h3⟩ := trod_seq (sz := 1) (R := rdBytes) (Q := fun d l => Light Try.prog 42 d → l.length ≤ 140737488351232) Try.underlying22 (by kernel_rfl) (by omega) (fun n cs x hx => by
    obtain ⟨u, l, h1, h2, h3⟩ := obytes hx
    exact ⟨l, ⟨u, h1, h2⟩, h3⟩) h
  refine ⟨v, l, h1, h2.lists, fun hl r hr => ?_⟩
  rcases h3 with ⟨-, rfl⟩ | ⟨ds, sp, k3, k4, k5⟩
  · cases hr
  · obtain ⟨i, hi, rfl⟩ := List.mem_iff_getElem.1 hr
    obtain ⟨d, e1, e2⟩ := k5 i hi
    rw [k3] at hl
    exact e2 (light_elem Try.underlying22 hl (List.mem_of_getElem? e1))
set_option maxRecDepth 8000 in
theorem open_recs (hval : Value.okWide Try.prog W .any base 22 v) (h : DataW.Trod enc Try.prog W b0 spare held 22 v d ps) : ∃ l, IsLists W v l ∧ ∀ {ts : List TypeId} {ds : List (DataW H)} {j : Nat}, SizedA Try.prog ts ds → ts[j]? = some 22 → ds[j]? = some d → ∀ r ∈ l, r.length ≤ 140737488351232 := by
  obtain ⟨a, len, cap, rfl⟩ := okWide_slice Try.underlying22 hval
  obtain ⟨fuel, hf⟩ := h
  obtain ⟨v, l, q0, i0, hb⟩ := orecs hf
  simp only [Value.cells] at q0
  obtain rfl : Value.slice a len cap = v := by simpa using q0
  exact ⟨l, i0, fun hs e1 e2 => hb (light_of hs e1 e2)⟩
/-- A list of records, as an element. -/
def rdLs : Rd (List (List UInt8)) := fun w cs l => ∃ u, cs = [u] ∧ IsLists w u l
theorem rdLs_up : rdLs.Up := fun _ _ _ _ k ⟨u, h1, h2⟩ => ⟨u, h1, h2.sub k⟩
abbrev IsBats (w : World) (v : Value) (l : List (List (List UInt8))) : Prop := IsSeq 1 rdLs w v l
set_option maxRecDepth 8000 in
theorem open_bats (hval : Value.okWide Try.prog W .any base 40 v) (h : DataW.Trod enc Try.prog W b0 spare held 40 v d ps) : ∃ (l : List (List (List UInt8))) (b : Option Addr) (q : Nat), v = .slice b l.length q ∧ IsBats W (.slice b l.length q) l ∧
    ∀ {ts : List TypeId} {ds : List (DataW H)} {j : Nat}, SizedA Try.prog ts ds → ts[j]? = some 40 → ds[j]? = some d → ∀ a ∈ l, ∀ r ∈ a, r.length ≤ 140737488351232 := by
  obtain ⟨a, len, cap, rfl⟩ := okWide_slice Try.underlying40 hval
  obtain ⟨fuel, hf⟩ := h
  obtain ⟨v, l, h1, h2, h3⟩ := trod_seq (sz := 1) (R := rdLs) (Q := fun d l => Light Try.prog 22 d → ∀ r ∈ l, r.length ≤ 140737488351232) Try.underlying40 (by kernel_rfl) (by omega) (fun n cs x hx => by
    obtain ⟨u, l, h1, h2, h3⟩ := orecs hx
    exact ⟨l, ⟨u, h1, h2⟩, h3⟩) hf
  simp only [Value.cells] at h1
  obtain rfl : Value.slice a len cap = v := by simpa using h1
  obtain ⟨b, q, e, -⟩ := h2.shape
  cases e
  refine ⟨l, _, _, rfl, h2, fun hs e1 e2 a ha => ?_⟩
  have hl := light_of hs e1 e2
  rcases h3 with ⟨-, rfl⟩ | ⟨ds, sp, k3, k4, k5⟩
  · cases ha
  · obtain ⟨i, hi, rfl⟩ := List.mem_iff_getElem.1 ha
    obtain ⟨d, e1, e2⟩ := k5 i hi
    simp only at k3
    rw [k3] at hl
    exact e2 (light_elem Try.underlying40 hl (List.mem_of_getElem? e1))
/-- A pair of bytes, as an element. -/
def rdPr : Rd (UInt8 × UInt8) := fun _ cs p => cs = [u8v p.1, u8v p.2]
theorem rdPr_up : rdPr.Up := fun _ _ _ _ _ h => h
abbrev IsPrs (w : World) (v : Value) (l : List (UInt8 × UInt8)) : Prop := IsSeq 2 rdPr w v l
theorem opr (h : DataW.trod enc Try.prog W base spare held n 49 cs = some x) : ∃ p : UInt8 × UInt8, cs = [u8v p.1, u8v p.2] := by
  obtain ⟨xs, m, -, -, hl, hxs, hf⟩ := DataW.trod_array Try.underlying49 h
  rw [pr_cells] at hl
  rw [u8_info2] at hf
  match xs, hxs with
  | [x0, x1], _ =>
    match cs, hl with
    | [c0, c1], _ =>
      have h0 := hf 0 (by omega)
      have h1 := hf 1 (by omega)
      simp only [Nat.zero_mul, List.drop_zero, List.take_succ_cons, List.take_zero, List.getElem?_cons_zero, Nat.one_mul, List.drop_succ_cons, List.getElem?_cons_succ] at h0 h1
      obtain ⟨z0, e0, -, w0⟩ := DataW.trod_int Try.underlying5 h0
      obtain ⟨z1, e1, -, w1⟩ := DataW.trod_int Try.underlying5 h1
      refine ⟨(UInt8.ofNat z0.toNat, UInt8.ofNat z1.toNat), ?_⟩
      cases e0
      cases e1
      rw [show u8v (UInt8.ofNat z0.toNat) = .int .u8 z0 from congrArg (Value.int .u8) (u8_of_int w0).symm, show u8v (UInt8.ofNat z1.toNat) = .int .u8 z1 from congrArg (Value.int .u8) (u8_of_int w1).symm]
set_option maxRecDepth 8000 in
theorem open_prs (hval : Value.okWide Try.prog W .any base 46 v) (h : DataW.Trod enc Try.prog W b0 spare held 46 v d ps) : ∃ (l : List (UInt8 × UInt8)) (b : Option Addr) (q : Nat), v = .slice b l.length q ∧ IsPrs W (.slice b l.length q) l := by
  obtain ⟨a, len, cap, rfl⟩ := okWide_slice Try.underlying46 hval
  obtain ⟨fuel, hf⟩ := h
  obtain ⟨v, l, h1, h2, -⟩ := trod_seq (sz := 2) (R := rdPr) (Q := fun _ _ => True) Try.underlying46 pr_cells (by omega) (fun n cs x hx => by
    obtain ⟨p, hp⟩ := opr hx
    exact ⟨p, hp, trivial⟩) hf
  simp only [Value.cells] at h1
  obtain rfl : Value.slice a len cap = v := by simpa using h1
  obtain ⟨b, q, e, -⟩ := h2.shape
  cases e
  exact ⟨l, _, _, rfl, h2⟩
theorem olists (h : DataW.trod enc Try.prog W base spare held n 22 cs = some x) : ∃ v l, cs = [v] ∧ IsLists W v l ∧ (Light Try.prog 22 x.1 → ∀ r ∈ l, r.length ≤ 140737488351232) := orecs h
set_option maxRecDepth 8000 in
theorem open_dk (hval : Value.okWide Try.prog W .any base 24 v) (h : DataW.Trod enc Try.prog W b0 spare held 24 v d ps) : ∃ D : Dk, IsDk W v D ∧
    ∀ {ts : List TypeId} {ds : List (DataW H)} {j : Nat}, SizedA Try.prog ts ds → ts[j]? = some 24 → ds[j]? = some d → ∀ s ∈ D.sec, s.length ≤ 140737488351232 := by
  obtain ⟨cs, rfl, _⟩ := okWide_struct dk_under hval
  obtain ⟨fuel, hf⟩ := h
  obtain ⟨hl, ds, hd, hds, hf⟩ := opened dk_under hf
  rw [dk_cells] at hl
  obtain ⟨_, y0, h0, e0⟩ := hf 0 0 22 1 (by kernel_rfl) (by kernel_rfl)
  obtain ⟨_, y1, h1, e1⟩ := hf 1 1 3 1 (by kernel_rfl) (by kernel_rfl)
  obtain ⟨_, y2, h2, e2⟩ := hf 2 2 3 1 (by kernel_rfl) (by kernel_rfl)
  obtain ⟨_, y3, h3, e3⟩ := hf 3 3 4 1 (by kernel_rfl) (by kernel_rfl)
  obtain ⟨v, l, q0, i0, k0⟩ := orecs h0
  obtain ⟨z1, q1, -, -⟩ := DataW.trod_int Try.underlying3 h1
  obtain ⟨z2, q2, -, -⟩ := DataW.trod_int Try.underlying3 h2
  obtain ⟨z3, q3, -⟩ := DataW.trod_bool Try.underlying4 h3
  clear hf
  refine ⟨⟨l, z1, z2, z3⟩, ⟨v, ?_, i0⟩, ?_⟩
  · simp only [Value.cells] at *
    obtain ⟨cl⟩ := cs
    match cl, hl with
    | [w0, w1, w2, w3], _ =>
      simp at q0 q1 q2 q3
      subst q0 q1 q2 q3
      rfl
  · intro ts dss j hs ht hj
    refine k0 fun k hk => light_of hs ht hj k ?_
    simp only at hd
    rw [hd]
    unfold DataW.weights
    rw [dk_under]
    exact DataW.weights_mem_each (j := 0) (t := 22) (d := y0.1) (by kernel_rfl) e0 _ hk
end
end Go.Proofs.Ytnfgapdpnihicaa
