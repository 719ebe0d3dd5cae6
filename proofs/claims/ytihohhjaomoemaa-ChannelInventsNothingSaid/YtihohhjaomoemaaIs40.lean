/- Slices of ints; a slice made empty with two appends in a drawn region. -/
import Derived.Test.YtihohhjaomoemaaOpenF
import Derived.Test.YtihohhjaomoemaaRegA
set_option linter.unusedVariables false
set_option linter.unusedSimpArgs false
namespace Go.Proofs.Ytihohhjaomoemaa
open Go Go.ChangeShapes Go.WideShapes Go.ChangeAt Go.RowKit Go.Deep

/-- An int. -/
def rdI : Rd Int := fun _ cs x => cs = [.int .i64 x]
theorem rdI_up : rdI.Up := fun _ _ _ _ _ h => h
abbrev IsIs (w : World) (v : Value) (l : List Int) : Prop := IsSeq 1 rdI w v l
section
variable {w : World} {v : Value} {l : List Int}
theorem IsSeq.ints (h : IsIs w v l) : IsRow 1 w v l.length (l.map (Value.int .i64)) := by
  obtain ⟨xs, h1, h2⟩ := h
  have hx : xs.length = l.length := by obtain ⟨_, _, _, hx, _⟩ := h1; omega
  have he : xs = l.map (Value.int .i64) := by
    apply List.ext_getElem (by rw [List.length_map, hx])
    intro i h3 h4
    have h5 := h2 i (by omega)
    rw [take1 h3] at h5
    unfold rdI at h5
    rw [List.getElem_map]
    simpa using h5
  rw [← he]
  exact h1
theorem isIs_of {n : Nat} (h : IsRow 1 w v n (l.map (Value.int .i64))) (hn : l.length = n) : IsIs w v l := by
  subst hn
  refine ⟨_, h, fun i hi => ?_⟩
  rw [take1 (by rw [List.length_map]; exact hi), List.getElem_map]
  rfl
theorem IsSeq.int_at {base : Option Addr} {n cap : Nat} (h : IsIs w (.slice base n cap) l) (i : Nat) (hi : i < l.length) : ∃ b off, base = some ⟨b, off, none⟩ ∧ w.cell? ⟨b, off + i, none⟩ = some (.int .i64 l[i]) := by
  obtain ⟨b, off, cs, h1, h2, h3, h4⟩ := h.at_ (by omega) i hi
  refine ⟨b, off, h1, ?_⟩
  have h5 := h3 0 (by omega)
  unfold rdI at h4
  rw [h4] at h5
  simpa using h5
end
section
variable {H : Type} {enc : TypeId × Value → H} {W : World} {base b0 : Nat} {spare : Nat → Bool} {held : Bool} {n : Nat} {cs : List Value} {x : DataW H × List MemPlace} {v : Value} {d : DataW H} {ps : List MemPlace}
theorem ois (h : DataW.trod enc Try.prog W base spare held n 43 cs = some x) : ∃ v l, cs = [v] ∧ IsIs W v l := by
  obtain ⟨v, l, h1, h2, -⟩ := trod_seq (R := rdI) (Q := fun _ _ => True) (sz := 1) Try.underlying43 (by kernel_rfl) (by omega) (fun n cs x hx => by
    obtain ⟨z, rfl, -, -⟩ := oint hx
    exact ⟨z, rfl, trivial⟩) h
  exact ⟨v, l, h1, h2⟩
theorem open_is (hval : Value.okWide Try.prog W .any base 43 v) (h : DataW.Trod enc Try.prog W b0 spare held 43 v d ps) : ∃ (l : List Int) (b : Option Addr) (q : Nat), v = .slice b l.length q ∧ IsIs W (.slice b l.length q) l := by
  obtain ⟨a, len, cap, rfl⟩ := okWide_slice Try.underlying43 hval
  obtain ⟨fuel, hf⟩ := h
  obtain ⟨v, l, q0, i0⟩ := ois hf
  simp only [Value.cells] at q0
  obtain rfl : Value.slice a len cap = v := by simpa using q0
  obtain ⟨b, q, e, -⟩ := i0.shape
  cases e
  exact ⟨l, _, _, rfl, i0⟩
end
section
variable {P : Program} {ops : Array Oper} {w0 W : World} {os : List (Nat × Obj) → Osf} {ρ : Operand → Value} {o : Oper} {i i0 i1 i2 : Nat} {E sz : Nat} {n1 : Nat} {xs1 : List Value} {L : Nat → Bool} {V : Nat → Value} {oo : List (Nat × Obj)} {F : List (World → Prop)}
/-- []T{}, append, append: what is made, as far as it has come. -/
def owR (i0 i1 i2 : Nat) (E sz n1 : Nat) (xs1 : List Value) : Ownf := fun L V oo => (L i2 = true → oo = []) ∧ (L i2 = false → L i1 = true → OwnP E sz (V i1) n1 xs1 oo) ∧ (L i1 = false → L i0 = true → OwnP E sz (V i0) 0 [] oo) ∧ (L i0 = false → oo = [])
theorem owR_none : ∀ L V, (∀ j, L j = false) → owR i0 i1 i2 E sz n1 xs1 L V [] := fun L V h => ⟨fun _ => rfl, fun _ hh => absurd hh (by rw [h]; exact Bool.false_ne_true), fun _ hh => absurd hh (by rw [h]; exact Bool.false_ne_true), fun _ => rfl⟩
theorem owR_all {n : Nat} (h2 : i2 < n) : ∀ L V oo, (∀ j, j < n → L j = true) → owR i0 i1 i2 E sz n1 xs1 L V oo → oo = [] := fun L V oo h ho => ho.1 (h _ h2)
theorem obR_build (hi : i = i0) (n01 : i1 ≠ i0) (n02 : i2 ≠ i0) (hperm : ∀ oo L V, (os oo L V).Perm (oo ++ os [] L V)) (hkeep : ∀ oo v, os oo (updB L i) (updV V i v) = os oo L V) {t : TypeId} (hg : wantE ops o ρ = true) (ho : o.op = .buildSlice t 0 #[]) (hu : P.underlying t = some (.slice E)) (hz : ((P.info? E).bind (·.zero)).isSome = true)
    (h0 : L i0 = false) (h1 : L i1 = false) (h2 : L i2 = false) (hoo : owR i0 i1 i2 E sz n1 xs1 L V oo) (hst : St w0 W (os oo L V) F) :
    opW P ops ρ o W fun v W' => ∃ oo', owR i0 i1 i2 E sz n1 xs1 (updB L i) (updV V i v) oo' ∧ St w0 W' (os oo' (updB L i) (updV V i v)) (pAny.p v :: F) := by
  subst hi
  obtain rfl := hoo.2.2.2 h0
  refine ob_run hg (run_build_none ho hu hz) ?_
  obtain ⟨k1, k2⟩ := OwnP.fresh (E := E) (sz := sz) hst
  refine ⟨[(W.heap.size, .cells #[] E (0, 0))], ⟨fun h => ?_, fun _ h => ?_, fun _ _ => ?_, fun h => ?_⟩, ?_⟩
  · rw [updB_ne n02, h2] at h; cases h
  · rw [updB_ne n01, h1] at h; cases h
  · rw [updV_same]; exact k1
  · rw [updB_same] at h; cases h
  · rw [hkeep]
    exact (k2.perm (hperm _ L V).symm).put (pAny.mono _) trivial
theorem obR_app1 (hi : i = i1) (n10 : i0 ≠ i1) (n12 : i2 ≠ i1) (hperm : ∀ oo L V, (os oo L V).Perm (oo ++ os [] L V)) (hkeep : ∀ oo v, os oo (updB L i) (updV V i v) = os oo L V) {s x : Operand} {t t2 : TypeId} {z : Value} {bytes : Nat} (hg : wantE ops o ρ = true)
    (ho : o.op = .call { callee := .builtin .append, args := #[s, x], argTypes := #[t, t2] }) (hu : P.underlying t = some (.slice E)) (hu2 : P.underlying t2 = some (.slice E)) (hinfo : (P.info? E).map (fun i => (i.zero, i.size, i.bytes)) = some (some z, sz, bytes)) (hzs : z.cells.size = sz)
    (hs : ρ s = V i0) {src : Value} (hx : ρ x = src) (hsrc : IsRow sz (sm (os oo L V) W) src n1 xs1) (hone : ∀ u ∈ xs1, u.oneCell' = true) (hlen : n1 * bytes ≤ 140737488355328) (hmx : n1 ≤ maxLen) (h0 : L i0 = true) (h1 : L i1 = false) (h2 : L i2 = false) (hoo : owR i0 i1 i2 E sz n1 xs1 L V oo) (hst : St w0 W (os oo L V) F) :
    opW P ops ρ o W fun v W' => ∃ oo', owR i0 i1 i2 E sz n1 xs1 (updB L i) (updV V i v) oo' ∧ St w0 W' (os oo' (updB L i) (updV V i v)) (pAny.p v :: F) := by
  subst hi
  have k1 := hoo.2.2.1 h1 h0
  have hp := hst.perm (hperm oo L V)
  obtain ⟨v', w', hr, r1, r2, r3⟩ := run_append_op (P := P) (W := W) s x t t2 ho w0.heap.size E z sz bytes hu hinfo hzs _ 0 [] hs (k1.owns hp) _ n1 xs1 hx (Src.row hu2 (hsrc.sub (mask_is _ _)) hone) (by rw [Nat.zero_add]; exact hlen) (by omega) hst.size
  obtain ⟨oo', k2, k3⟩ := k1.append hp r1 r2 r3
  refine ob_run hg hr ⟨oo', ⟨fun h => ?_, fun _ _ => ?_, fun h => ?_, fun h => ?_⟩, ?_⟩
  · rw [updB_ne n12, h2] at h; cases h
  · rw [updV_same]; simpa using k2
  · rw [updB_same] at h; cases h
  · rw [updB_ne n10, h0] at h; cases h
  · rw [hkeep]
    exact (k3.perm (hperm _ L V).symm).put (pAny.mono _) trivial
theorem obR_app2 (hi : i = i2) (n20 : i0 ≠ i2) (n21 : i1 ≠ i2) (hperm : ∀ oo L V, (os oo L V).Perm (oo ++ os [] L V)) (hkeep : ∀ oo v, os oo (updB L i) (updV V i v) = os oo L V) {s x : Operand} {t t2 : TypeId} {z : Value} {bytes : Nat} (hg : wantE ops o ρ = true)
    (ho : o.op = .call { callee := .builtin .append, args := #[s, x], argTypes := #[t, t2] }) (hu : P.underlying t = some (.slice E)) (hu2 : P.underlying t2 = some (.slice E)) (hinfo : (P.info? E).map (fun i => (i.zero, i.size, i.bytes)) = some (some z, sz, bytes)) (hzs : z.cells.size = sz)
    (hs : ρ s = V i1) {src : Value} {n2 : Nat} {xs2 : List Value} (hx : ρ x = src) (hsrc : IsRow sz (sm (os oo L V) W) src n2 xs2) (hone : ∀ u ∈ xs2, u.oneCell' = true) (hlen : (n1 + n2) * bytes ≤ 140737488355328) (hmx : n1 + n2 ≤ maxLen) (h0 : L i0 = true) (h1 : L i1 = true) (h2 : L i2 = false) (hoo : owR i0 i1 i2 E sz n1 xs1 L V oo) (hst : St w0 W (os oo L V) F)
    (p : Pd) (hp : ∀ v' w', IsRow sz (sm (os [] L V) w') v' (n1 + n2) (xs1 ++ xs2) → p.p v' (sm (os [] L V) w')) :
    opW P ops ρ o W fun v W' => ∃ oo', owR i0 i1 i2 E sz n1 xs1 (updB L i) (updV V i v) oo' ∧ St w0 W' (os oo' (updB L i) (updV V i v)) (p.p v :: F) := by
  subst hi
  have k1 := hoo.2.1 h2 h1
  have hpm := hst.perm (hperm oo L V)
  obtain ⟨v', w', hr, r1, r2, r3⟩ := run_append_op (P := P) (W := W) s x t t2 ho w0.heap.size E z sz bytes hu hinfo hzs _ n1 xs1 hs (k1.owns hpm) _ n2 xs2 hx (Src.row hu2 (hsrc.sub (mask_is _ _)) hone) hlen hmx hst.size
  obtain ⟨oo', k2, k3⟩ := k1.append hpm r1 r2 r3
  have k4 := (k2.done k3).perm (show (os [] L V).Perm (os [] L V) from List.Perm.refl _)
  refine ob_run hg hr ⟨[], ⟨fun _ => rfl, fun h => ?_, fun h => ?_, fun _ => rfl⟩, ?_⟩
  · exact absurd (updB_same.symm.trans h) (by decide)
  · rw [updB_ne n21, h1] at h; cases h
  · rw [hkeep]
    exact k4.head p v' fun hrow => hp v' w' hrow
end
/-- An int slice. -/
def pIs (l : List Int) : Pd := ⟨fun v w => ∃ b q, v = .slice b l.length q ∧ IsIs w v l, fun _ _ _ h ⟨b, q, e, k⟩ => ⟨b, q, e, k.sub rdI_up h⟩⟩
end Go.Proofs.Ytihohhjaomoemaa
