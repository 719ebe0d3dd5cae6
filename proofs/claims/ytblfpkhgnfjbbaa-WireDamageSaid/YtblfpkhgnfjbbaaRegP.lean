/- A region that draws its order and appends three times to a slice of its own making. Over whatever program. -/
import Derived.Test.YtblfpkhgnfjbbaaRegO
set_option linter.unusedVariables false
namespace Go.Proofs.Ytblfpkhgnfjbbaa
open Go Go.RowKit
section
variable {P : Program} {ops : Array Oper} {w0 : World} {os : List (Nat × Obj) → Osf} {ρ : Operand → Value} {o : Oper} {W : World}
/-- []byte{}, append, append, append: what is made, and its block, as far as it has come. -/
def ow4 (i0 i1 i2 i3 : Nat) (E : TypeId) (l1 l2 : List UInt8) : Ownf := fun L V oo => (L i3 = true → oo = []) ∧ (L i3 = false → L i2 = true → OwnP E 1 (V i2) (l1 ++ l2).length ((l1 ++ l2).map u8v) oo) ∧ (L i2 = false → L i1 = true → OwnP E 1 (V i1) l1.length (l1.map u8v) oo) ∧ (L i1 = false → L i0 = true → OwnP E 1 (V i0) 0 [] oo) ∧ (L i0 = false → oo = [])
section
variable {i i0 i1 i2 i3 : Nat} {E : TypeId} {l1 l2 : List UInt8} {L : Nat → Bool} {V : Nat → Value} {oo : List (Nat × Obj)} {F : List (World → Prop)}
theorem ow4_none : ∀ L V, (∀ j, L j = false) → ow4 i0 i1 i2 i3 E l1 l2 L V [] := fun L V h => ⟨fun _ => rfl, fun _ hh => absurd hh (by rw [h]; exact Bool.false_ne_true), fun _ hh => absurd hh (by rw [h]; exact Bool.false_ne_true), fun _ hh => absurd hh (by rw [h]; exact Bool.false_ne_true), fun _ => rfl⟩
theorem ow4_all {n : Nat} (h3 : i3 < n) : ∀ L V oo, (∀ j, j < n → L j = true) → ow4 i0 i1 i2 i3 E l1 l2 L V oo → oo = [] := fun L V oo h ho => ho.1 (h _ h3)
theorem ob4_build (hi : i = i0) (n01 : i1 ≠ i0) (n02 : i2 ≠ i0) (n03 : i3 ≠ i0) (hperm : ∀ oo L V, (os oo L V).Perm (oo ++ os [] L V)) (hkeep : ∀ oo v, os oo (updB L i) (updV V i v) = os oo L V) {t : TypeId} (hg : wantE ops o ρ = true) (ho : o.op = .buildSlice t 0 #[]) (hu : P.underlying t = some (.slice E)) (hz : ((P.info? E).bind (·.zero)).isSome = true)
    (h0 : L i0 = false) (h1 : L i1 = false) (h2 : L i2 = false) (h3 : L i3 = false) (hoo : ow4 i0 i1 i2 i3 E l1 l2 L V oo) (hst : St w0 W (os oo L V) F) :
    opW P ops ρ o W fun v W' => ∃ oo', ow4 i0 i1 i2 i3 E l1 l2 (updB L i) (updV V i v) oo' ∧ St w0 W' (os oo' (updB L i) (updV V i v)) (pAny.p v :: F) := by
  subst hi
  obtain rfl := hoo.2.2.2.2 h0
  refine ob_run hg (run_build_none ho hu hz) ?_
  obtain ⟨k1, k2⟩ := OwnP.fresh (E := E) (sz := 1) hst
  refine ⟨[(W.heap.size, .cells #[] E (0, 0))], ⟨fun h => ?_, fun _ h => ?_, fun _ h => ?_, fun _ _ => ?_, fun h => ?_⟩, ?_⟩
  · rw [updB_ne n03, h3] at h; cases h
  · rw [updB_ne n02, h2] at h; cases h
  · rw [updB_ne n01, h1] at h; cases h
  · rw [updV_same]; exact k1
  · rw [updB_same] at h; cases h
  · rw [hkeep]
    exact (k2.perm (hperm _ L V).symm).put (pAny.mono _) trivial
theorem ob4_app1 (hi : i = i1) (n10 : i0 ≠ i1) (n12 : i2 ≠ i1) (n13 : i3 ≠ i1) (hperm : ∀ oo L V, (os oo L V).Perm (oo ++ os [] L V)) (hkeep : ∀ oo v, os oo (updB L i) (updV V i v) = os oo L V) {s x : Operand} {t t2 : TypeId} (hg : wantE ops o ρ = true)
    (ho : o.op = .call { callee := .builtin .append, args := #[s, x], argTypes := #[t, t2] }) (hu : P.underlying t = some (.slice E)) (hu2 : P.underlying t2 = some (.slice E)) (hinfo : (P.info? E).map (fun i => (i.zero, i.size, i.bytes)) = some (some (.int .u8 0), 1, 1))
    (hs : ρ s = V i0) {src : Value} (hx : ρ x = src) (hsrc : IsBytes (sm (os oo L V) W) src l1) (hlen : l1.length ≤ 1048576) (h0 : L i0 = true) (h1 : L i1 = false) (h2 : L i2 = false) (h3 : L i3 = false) (hoo : ow4 i0 i1 i2 i3 E l1 l2 L V oo) (hst : St w0 W (os oo L V) F) :
    opW P ops ρ o W fun v W' => ∃ oo', ow4 i0 i1 i2 i3 E l1 l2 (updB L i) (updV V i v) oo' ∧ St w0 W' (os oo' (updB L i) (updV V i v)) (pAny.p v :: F) := by
  subst hi
  have k1 := hoo.2.2.2.1 h1 h0
  have hp := hst.perm (hperm oo L V)
  obtain ⟨v', w', hr, r1, r2, r3⟩ := run_append_op (P := P) (W := W) s x t t2 ho w0.heap.size E (.int .u8 0) 1 1 hu hinfo rfl _ 0 [] hs (k1.owns hp) _ l1.length (l1.map u8v) hx ((hsrc.sub (mask_is _ _)).src hu2) (by omega) (by simp only [maxLen]; omega) hst.size
  obtain ⟨oo', k2, k3⟩ := k1.append hp r1 r2 r3
  refine ob_run hg hr ⟨oo', ⟨fun h => ?_, fun _ h => ?_, fun _ _ => ?_, fun h => ?_, fun h => ?_⟩, ?_⟩
  · rw [updB_ne n13, h3] at h; cases h
  · rw [updB_ne n12, h2] at h; cases h
  · rw [updV_same]; simpa using k2
  · rw [updB_same] at h; cases h
  · rw [updB_ne n10, h0] at h; cases h
  · rw [hkeep]
    exact (k3.perm (hperm _ L V).symm).put (pAny.mono _) trivial
theorem ob4_app2 (hi : i = i2) (n20 : i0 ≠ i2) (n21 : i1 ≠ i2) (n23 : i3 ≠ i2) (hperm : ∀ oo L V, (os oo L V).Perm (oo ++ os [] L V)) (hkeep : ∀ oo v, os oo (updB L i) (updV V i v) = os oo L V) {s x : Operand} {t t2 : TypeId} (hg : wantE ops o ρ = true)
    (ho : o.op = .call { callee := .builtin .append, args := #[s, x], argTypes := #[t, t2] }) (hu : P.underlying t = some (.slice E)) (hu2 : P.underlying t2 = some (.slice E)) (hinfo : (P.info? E).map (fun i => (i.zero, i.size, i.bytes)) = some (some (.int .u8 0), 1, 1))
    (hs : ρ s = V i1) {src : Value} (hx : ρ x = src) (hsrc : IsBytes (sm (os oo L V) W) src l2) (hlen : l1.length + l2.length ≤ 1048576) (h0 : L i0 = true) (h1 : L i1 = true) (h2 : L i2 = false) (h3 : L i3 = false) (hoo : ow4 i0 i1 i2 i3 E l1 l2 L V oo) (hst : St w0 W (os oo L V) F) :
    opW P ops ρ o W fun v W' => ∃ oo', ow4 i0 i1 i2 i3 E l1 l2 (updB L i) (updV V i v) oo' ∧ St w0 W' (os oo' (updB L i) (updV V i v)) (pAny.p v :: F) := by
  subst hi
  have k1 := hoo.2.2.1 h2 h1
  have hp := hst.perm (hperm oo L V)
  obtain ⟨v', w', hr, r1, r2, r3⟩ := run_append_op (P := P) (W := W) s x t t2 ho w0.heap.size E (.int .u8 0) 1 1 hu hinfo rfl _ l1.length (l1.map u8v) hs (k1.owns hp) _ l2.length (l2.map u8v) hx ((hsrc.sub (mask_is _ _)).src hu2) (by omega) (by simp only [maxLen]; omega) hst.size
  obtain ⟨oo', k2, k3⟩ := k1.append hp r1 r2 r3
  refine ob_run hg hr ⟨oo', ⟨fun h => ?_, fun _ _ => ?_, fun h => ?_, fun h => ?_, fun h => ?_⟩, ?_⟩
  · rw [updB_ne n23, h3] at h; cases h
  · rw [updV_same, List.length_append, List.map_append]; exact k2
  · rw [updB_same] at h; cases h
  · rw [updB_ne n21, h1] at h; cases h
  · rw [updB_ne n20, h0] at h; cases h
  · rw [hkeep]
    exact (k3.perm (hperm _ L V).symm).put (pAny.mono _) trivial
theorem ob4_app3 (hi : i = i3) (n30 : i0 ≠ i3) (n31 : i1 ≠ i3) (n32 : i2 ≠ i3) (hperm : ∀ oo L V, (os oo L V).Perm (oo ++ os [] L V)) (hkeep : ∀ oo v, os oo (updB L i) (updV V i v) = os oo L V) {s x : Operand} {t t2 : TypeId} (hg : wantE ops o ρ = true)
    (ho : o.op = .call { callee := .builtin .append, args := #[s, x], argTypes := #[t, t2] }) (hu : P.underlying t = some (.slice E)) (hu2 : P.underlying t2 = some (.slice E)) (hinfo : (P.info? E).map (fun i => (i.zero, i.size, i.bytes)) = some (some (.int .u8 0), 1, 1))
    (hs : ρ s = V i2) {src : Value} {l3 : List UInt8} (hx : ρ x = src) (hsrc : IsBytes (sm (os oo L V) W) src l3) (hlen : l1.length + l2.length + l3.length ≤ 1048576) (h0 : L i0 = true) (h1 : L i1 = true) (h2 : L i2 = true) (h3 : L i3 = false) (hoo : ow4 i0 i1 i2 i3 E l1 l2 L V oo) (hst : St w0 W (os oo L V) F) :
    opW P ops ρ o W fun v W' => ∃ oo', ow4 i0 i1 i2 i3 E l1 l2 (updB L i) (updV V i v) oo' ∧ St w0 W' (os oo' (updB L i) (updV V i v)) ((pBytes (l1 ++ l2 ++ l3)).p v :: F) := by
  subst hi
  have k1 := hoo.2.1 h3 h2
  have hp := hst.perm (hperm oo L V)
  have hl := List.length_append (as := l1) (bs := l2)
  obtain ⟨v', w', hr, r1, r2, r3⟩ := run_append_op (P := P) (W := W) s x t t2 ho w0.heap.size E (.int .u8 0) 1 1 hu hinfo rfl _ (l1 ++ l2).length ((l1 ++ l2).map u8v) hs (k1.owns hp) _ l3.length (l3.map u8v) hx ((hsrc.sub (mask_is _ _)).src hu2) (by omega) (by simp only [maxLen]; omega) hst.size
  obtain ⟨oo', k2, k3⟩ := k1.append hp r1 r2 r3
  have k4 := (k2.done k3).perm (show (os [] L V).Perm (os [] L V) from List.Perm.refl _)
  refine ob_run hg hr ⟨[], ⟨fun _ => rfl, fun h => ?_, fun h => ?_, fun h => ?_, fun _ => rfl⟩, ?_⟩
  · rw [updB_same] at h; cases h
  · rw [updB_ne n32, h2] at h; cases h
  · rw [updB_ne n31, h1] at h; cases h
  · rw [hkeep]
    refine k4.head (pBytes (l1 ++ l2 ++ l3)) v' fun hrow => ?_
    have hb : IsBytes (sm (os [] L V) w') v' (l1 ++ l2 ++ l3) := by
      unfold IsBytes
      rw [List.length_append (as := l1 ++ l2), List.map_append (l₁ := l1 ++ l2)]
      exact hrow
    obtain ⟨b, q, rfl, -⟩ := hb.out
    exact ⟨b, q, rfl, hb⟩
end
end
end Go.Proofs.Ytblfpkhgnfjbbaa
