/- Rows of elements: their cells in a block, and regions that append them to a slice of their own making. Over whatever program. -/
import Derived.Test.YtihohhjaomoemaaRegO
import Derived.Test.YtihohhjaomoemaaRegD
import Derived.Test.YtihohhjaomoemaaMk
import Derived.Test.YtihohhjaomoemaaIsc
set_option linter.unusedVariables false
namespace Go.Proofs.Ytihohhjaomoemaa
open Go Go.RowKit

/-- Cells that read as a list. -/
def Elems {α : Type} (sz : Nat) (R : Rd α) (w : World) (xs : List Value) (l : List α) : Prop := xs.length = l.length * sz ∧ ∀ i (h : i < l.length), R w ((xs.drop (i * sz)).take sz) l[i]
section
variable {α : Type} {sz : Nat} {R : Rd α} {w w' : World} {xs ys : List Value} {l m : List α}
theorem Elems.nil : Elems sz R w [] ([] : List α) := ⟨by simp, fun i h => absurd h (by simp)⟩
theorem Elems.one {cs : List Value} {a : α} (hc : cs.length = sz) (h : R w cs a) : Elems sz R w cs [a] := ⟨by simp [hc], fun i hi => by
  obtain rfl : i = 0 := by simp at hi; omega
  simp only [Nat.zero_mul, List.drop_zero, List.getElem_cons_zero]
  rw [List.take_of_length_le (by omega)]
  exact h⟩
theorem Elems.append (h : Elems sz R w xs l) (k : Elems sz R w ys m) : Elems sz R w (xs ++ ys) (l ++ m) := by
  obtain ⟨h1, h2⟩ := h
  obtain ⟨k1, k2⟩ := k
  refine ⟨by rw [List.length_append, List.length_append, h1, k1, Nat.add_mul], fun i hi => ?_⟩
  by_cases hl : i < l.length
  · have hle : i * sz + sz ≤ xs.length := by rw [h1, ← Nat.succ_mul]; exact Nat.mul_le_mul_right _ hl
    rw [List.getElem_append_left hl, List.drop_append_of_le_length (by omega), List.take_append_of_le_length (by rw [List.length_drop]; omega)]
    exact h2 i hl
  · rw [List.length_append] at hi
    rw [List.getElem_append_right (by omega)]
    have e : (xs ++ ys).drop (i * sz) = ys.drop ((i - l.length) * sz) := by
      have : i * sz = xs.length + (i - l.length) * sz := by rw [h1, ← Nat.add_mul]; congr 1; omega
      rw [this, List.drop_append, List.drop_of_length_le (by omega), Nat.add_sub_cancel_left, List.nil_append]
    rw [e]
    exact k2 _ (by omega)
theorem Elems.take (h : Elems sz R w xs l) (n : Nat) (hn : n ≤ l.length) : Elems sz R w (xs.take (n * sz)) (l.take n) := by
  obtain ⟨h1, h2⟩ := h
  have hle : n * sz ≤ xs.length := by rw [h1]; exact Nat.mul_le_mul_right _ hn
  refine ⟨by rw [List.length_take, List.length_take]; rw [Nat.min_eq_left hle, Nat.min_eq_left hn], fun i hi => ?_⟩
  rw [List.length_take, Nat.min_eq_left hn] at hi
  have hi2 : i * sz + sz ≤ n * sz := by rw [← Nat.succ_mul]; exact Nat.mul_le_mul_right _ hi
  rw [List.getElem_take, List.drop_take, List.take_take, Nat.min_eq_left (by omega)]
  exact h2 i (by omega)
theorem Elems.drop (h : Elems sz R w xs l) (n : Nat) (hn : n ≤ l.length) : Elems sz R w (xs.drop (n * sz)) (l.drop n) := by
  obtain ⟨h1, h2⟩ := h
  refine ⟨by rw [List.length_drop, List.length_drop, h1, Nat.sub_mul], fun i hi => ?_⟩
  rw [List.length_drop] at hi
  rw [List.getElem_drop, List.drop_drop, ← Nat.add_mul]
  exact h2 (n + i) (by omega)
theorem Elems.sub (hR : R.Up) (h : Elems sz R w xs l) (k : Sub w w') : Elems sz R w' xs l := ⟨h.1, fun i hi => hR _ _ _ _ k (h.2 i hi)⟩
theorem Mono.elems (hR : R.Up) (xs : List Value) (l : List α) : Mono (Elems sz R · xs l) := fun _ _ k h => h.sub hR k
theorem IsSeq.elems {v : Value} (h : IsSeq sz R w v l) : ∃ xs, IsRow sz w v l.length xs ∧ Elems sz R w xs l := by
  obtain ⟨xs, h1, h2⟩ := h
  obtain ⟨_, _, _, hx, _⟩ := id h1
  exact ⟨xs, h1, hx, h2⟩
theorem IsSeq.of {v : Value} {n : Nat} (h : IsRow sz w v n xs) (k : Elems sz R w xs l) (hn : n = l.length) : IsSeq sz R w v l := ⟨xs, hn ▸ h, k.2⟩
theorem IsRow.block {g n : Nat} {t : TypeId} (hg : w.heap[g]? = some (.cells xs.toArray t (0, 0))) (hl : xs.length = n * sz) (hn : n ≤ maxLen) : IsRow sz w (.slice (some ⟨g, 0, none⟩) n n) n xs :=
  ⟨_, _, rfl, hl, Nat.le_refl _, hn, (fun h => by cases h), fun i hi => ⟨_, _, rfl, by rw [Nat.zero_add, cell_of_row _ _ _ _ _ _ hg]; simp [hi]⟩⟩
end

/-- copy, in a region that draws. -/
theorem run_copy_op {P : Program} {ρ : Operand → Value} {o : Oper} {w : World} (d s : Operand) (dT sT : TypeId)
    (ho : o.op = .call { callee := .builtin .copy, args := #[d, s], argTypes := #[dT, sT] }) (elem : TypeId) (sz : Nat) (hsz0 : 0 < sz) (hu : P.underlying dT = some (.slice elem)) (hsz : (P.info? elem).map (·.size) = some sz)
    (dp sp : Option Addr) (dLen dCap sLen sCap : Nat) (hd : ρ d = .slice dp dLen dCap) (hs : ρ s = .slice sp sLen sCap)
    (g off : Nat) (cur : List Value) (t : TypeId) (hg : w.heap[g]? = some (.cells cur.toArray t (0, 0))) (cs : List Value) (hn : cs.length = Nat.min sLen dLen * sz)
    (hpos : 0 < cs.length → dp = some ⟨g, off, none⟩ ∧ ∃ ad, sp = some ad ∧ ∀ j v, cs[j]? = some v → w.cell? (ad.add j) = some v)
    (hfit : off + cs.length ≤ cur.length) (h1 : ∀ v ∈ cs, v.oneCell' = true) : (execOp ρ o).run P w = .ok (.value (goInt (Nat.min sLen dLen))) (w.setRow g (splice cur off cs).toArray) := by
  by_cases h0 : cs.length = 0
  · have hn0 : Nat.min sLen dLen = 0 := by
      rw [h0] at hn
      rcases Nat.mul_eq_zero.1 hn.symm with h | h
      · exact h
      · omega
    have hrun := run_copy_zero (P := P) w dT sT o.type elem sz dp sp dLen dCap sLen sCap hu hsz hn0
    have hcs : cs = [] := List.eq_nil_of_length_eq_zero h0
    have hse : splice cur off cs = cur := by rw [hcs]; simp [splice]
    rw [hse, setRow_self w g _ _ _ hg, hn0]
    simp [execOp, ho, resolve, invoke, builtin, hd, hs, hrun]
  · obtain ⟨rfl, ad, rfl, hsrc⟩ := hpos (by omega)
    have hrun := run_copy_rows (P := P) w dT sT o.type elem sz g off dLen dCap ad sLen sCap cur.toArray t cs hu hsz hg hn hsrc (by simpa using hfit) h1
    simp [execOp, ho, resolve, invoke, builtin, hd, hs, hrun, splice]
/-- A block that one operation turns. -/
def osX (i g : Nat) (o o' : Obj) (os : List (Nat × Obj)) : Osf := fun L _ => (g, if L i = true then o' else o) :: os
theorem osX0 {i g : Nat} {o o' : Obj} {os : List (Nat × Obj)} : ∀ L V, (∀ j, L j = false) → osX i g o o' os L V = (g, o) :: os := fun L V h => by unfold osX; rw [h, if_neg Bool.false_ne_true]
theorem osX1 {n i g : Nat} {o o' : Obj} {os : List (Nat × Obj)} (hi : i < n) : ∀ L V, (∀ j, j < n → L j = true) → osX i g o o' os L V = osX i g o o' os (fun _ => true) V := fun L V h => by unfold osX; rw [h _ hi]
section
variable {P : Program} {ops : Array Oper} {w0 W : World} {os : List (Nat × Obj) → Osf} {ρ : Operand → Value} {o : Oper} {i i0 i1 i2 : Nat} {E sz : Nat} {n1 : Nat} {xs1 : List Value} {L : Nat → Bool} {V : Nat → Value} {oo : List (Nat × Obj)} {F : List (World → Prop)}
/-- append to nil, append to that: what is made, as far as it has come. -/
def ow2 (i1 i2 : Nat) (E sz n1 : Nat) (xs1 : List Value) : Ownf := fun L V oo => (L i2 = true → oo = []) ∧ (L i2 = false → L i1 = true → OwnP E sz (V i1) n1 xs1 oo) ∧ (L i1 = false → oo = [])
theorem ow2_none : ∀ L V, (∀ j, L j = false) → ow2 i1 i2 E sz n1 xs1 L V [] := fun L V h => ⟨fun _ => rfl, fun _ hh => absurd hh (by rw [h]; exact Bool.false_ne_true), fun _ => rfl⟩
theorem ow2_all {n : Nat} (h2 : i2 < n) : ∀ L V oo, (∀ j, j < n → L j = true) → ow2 i1 i2 E sz n1 xs1 L V oo → oo = [] := fun L V oo h ho => ho.1 (h _ h2)
theorem ob2_app1 (hi : i = i1) (n12 : i2 ≠ i1) (hperm : ∀ oo L V, (os oo L V).Perm (oo ++ os [] L V)) (hkeep : ∀ oo v, os oo (updB L i) (updV V i v) = os oo L V) {s x : Operand} {t t2 : TypeId} {z : Value} {bytes : Nat} (hg : wantE ops o ρ = true)
    (ho : o.op = .call { callee := .builtin .append, args := #[s, x], argTypes := #[t, t2] }) (hu : P.underlying t = some (.slice E)) (hu2 : P.underlying t2 = some (.slice E)) (hinfo : (P.info? E).map (fun i => (i.zero, i.size, i.bytes)) = some (some z, sz, bytes)) (hzs : z.cells.size = sz)
    (hs : ρ s = .slice none 0 0) {src : Value} (hx : ρ x = src) (hsrc : IsRow sz (sm (os oo L V) W) src n1 xs1) (hone : ∀ u ∈ xs1, u.oneCell' = true) (hlen : n1 * bytes ≤ 140737488355328) (hmx : n1 ≤ maxLen) (h1 : L i1 = false) (h2 : L i2 = false) (hoo : ow2 i1 i2 E sz n1 xs1 L V oo) (hst : St w0 W (os oo L V) F) :
    opW P ops ρ o W fun v W' => ∃ oo', ow2 i1 i2 E sz n1 xs1 (updB L i) (updV V i v) oo' ∧ St w0 W' (os oo' (updB L i) (updV V i v)) (pAny.p v :: F) := by
  subst hi
  obtain rfl := hoo.2.2 h1
  have k1 : OwnP E sz (.slice none 0 0) 0 [] [] := ⟨by simp, .inl ⟨rfl, rfl, rfl⟩⟩
  have hp := hst.perm (hperm [] L V)
  obtain ⟨v', w', hr, r1, r2, r3⟩ := run_append_op (P := P) (W := W) s x t t2 ho w0.heap.size E z sz bytes hu hinfo hzs _ 0 [] hs (k1.owns hp) _ n1 xs1 hx (Src.row hu2 (hsrc.sub (mask_is _ _)) hone) (by rw [Nat.zero_add]; exact hlen) (by omega) hst.size
  obtain ⟨oo', k2, k3⟩ := k1.append hp r1 r2 r3
  refine ob_run hg hr ⟨oo', ⟨fun h => ?_, fun _ _ => ?_, fun h => ?_⟩, ?_⟩
  · rw [updB_ne n12, h2] at h; cases h
  · rw [updV_same]; simpa using k2
  · rw [updB_same] at h; cases h
  · rw [hkeep]
    exact (k3.perm (hperm _ L V).symm).put (pAny.mono _) trivial
theorem ob2_app2 (hi : i = i2) (n21 : i1 ≠ i2) (hperm : ∀ oo L V, (os oo L V).Perm (oo ++ os [] L V)) (hkeep : ∀ oo v, os oo (updB L i) (updV V i v) = os oo L V) {s x : Operand} {t t2 : TypeId} {z : Value} {bytes : Nat} (hg : wantE ops o ρ = true)
    (ho : o.op = .call { callee := .builtin .append, args := #[s, x], argTypes := #[t, t2] }) (hu : P.underlying t = some (.slice E)) (hu2 : P.underlying t2 = some (.slice E)) (hinfo : (P.info? E).map (fun i => (i.zero, i.size, i.bytes)) = some (some z, sz, bytes)) (hzs : z.cells.size = sz)
    (hs : ρ s = V i1) {src : Value} {n2 : Nat} {xs2 : List Value} (hx : ρ x = src) (hsrc : IsRow sz (sm (os oo L V) W) src n2 xs2) (hone : ∀ u ∈ xs2, u.oneCell' = true) (hlen : (n1 + n2) * bytes ≤ 140737488355328) (hmx : n1 + n2 ≤ maxLen) (h1 : L i1 = true) (h2 : L i2 = false) (hoo : ow2 i1 i2 E sz n1 xs1 L V oo) (hst : St w0 W (os oo L V) F)
    (p : Pd) (hp : ∀ v' w', St w0 w' (os [] L V) F → (∀ k, v'.ownBlock = some k → w0.heap.size ≤ k) → IsRow sz (sm (os [] L V) w') v' (n1 + n2) (xs1 ++ xs2) → p.p v' (sm (os [] L V) w')) :
    opW P ops ρ o W fun v W' => ∃ oo', ow2 i1 i2 E sz n1 xs1 (updB L i) (updV V i v) oo' ∧ St w0 W' (os oo' (updB L i) (updV V i v)) (p.p v :: F) := by
  subst hi
  have k1 := hoo.2.1 h2 h1
  have hpm := hst.perm (hperm oo L V)
  obtain ⟨v', w', hr, r1, r2, r3⟩ := run_append_op (P := P) (W := W) s x t t2 ho w0.heap.size E z sz bytes hu hinfo hzs _ n1 xs1 hs (k1.owns hpm) _ n2 xs2 hx (Src.row hu2 (hsrc.sub (mask_is _ _)) hone) hlen hmx hst.size
  obtain ⟨oo', k2, k3⟩ := k1.append hpm r1 r2 r3
  have k4 := (k2.done k3).perm (show (os [] L V).Perm (os [] L V) from List.Perm.refl _)
  refine ob_run hg hr ⟨[], ⟨fun _ => rfl, fun h => ?_, fun h => rfl⟩, ?_⟩
  · exact absurd (updB_same.symm.trans h) (by decide)
  · rw [hkeep]
    exact k4.head p v' fun hrow => hp v' w' k4.pop (fun k hk => (World.ownsRow.lt r1 k hk).1) hrow
end
theorem ob_X {P : Program} {ops : Array Oper} {w0 W : World} {ρ : Operand → Value} {o : Oper} {i g : Nat} {t : TypeId} {cur new : List Value} {os : List (Nat × Obj)} {L : Nat → Bool} {V : Nat → Value} {F : List (World → Prop)} {v : Value} (hg : wantE ops o ρ = true) (hL : L i = false)
    (hst : St w0 W (osX i g (.cells cur.toArray t (0, 0)) (.cells new.toArray t (0, 0)) os L V) F) (hr : W.heap[g]? = some (.cells cur.toArray t (0, 0)) → (execOp ρ o).run P W = .ok (.value v) (W.setRow g new.toArray)) :
    opW P ops ρ o W fun v W' => St w0 W' (osX i g (.cells cur.toArray t (0, 0)) (.cells new.toArray t (0, 0)) os (updB L i) (updV V i v)) (pAny.p v :: F) := by
  unfold osX at hst ⊢
  rw [hL, if_neg Bool.false_ne_true] at hst
  refine ob_run hg (hr (hst.at_ 0 rfl)) ?_
  show St w0 _ _ _
  rw [updB_same, if_pos rfl]
  exact (hst.setRow (os1 := [])).put (pAny.mono _) trivial
end Go.Proofs.Ytihohhjaomoemaa
