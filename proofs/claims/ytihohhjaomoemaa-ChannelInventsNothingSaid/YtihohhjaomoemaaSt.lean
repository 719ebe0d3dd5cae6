/- The state of a walk: the blocks of the call's own with what they hold, and what is known of memory apart from them. Over whatever program. -/
import Derived.Test.YtihohhjaomoemaaMask
namespace Go.Proofs.Ytihohhjaomoemaa
open Go.RowKit

def inL (L : List Nat) : Nat → Bool := fun k => decide (k ∈ L)
theorem inL_iff {L : List Nat} {k : Nat} : inL L k = true ↔ k ∈ L := by simp [inL]
theorem inL_no {L : List Nat} {k : Nat} : inL L k = false ↔ k ∉ L := by simp [inL]
abbrev keys (os : List (Nat × Obj)) : List Nat := os.map (·.1)
/-- The world without the blocks of the call's own. -/
abbrev sm (os : List (Nat × Obj)) (W : World) : World := mask (inL (keys os)) W
/-- A fact that stays where more reads. -/
def Mono (P : World → Prop) : Prop := ∀ a b, Sub a b → P a → P b

structure St (w0 W : World) (os : List (Nat × Obj)) (fs : List (World → Prop)) : Prop where
  below : Below w0.heap.size w0 W
  nodup : (keys os).Nodup
  blk : ∀ p ∈ os, w0.heap.size ≤ p.1 ∧ W.heap[p.1]? = some p.2
  mono : ∀ P ∈ fs, Mono P
  fact : ∀ P ∈ fs, P (sm os W)

theorem Mono.bytes (v : Value) (l : List UInt8) : Mono (IsBytes · v l) := fun _ _ h p => p.sub h
theorem Mono.lists (v : Value) (l : List (List UInt8)) : Mono (IsLists · v l) := fun _ _ h p => p.sub h
theorem Mono.row (sz : Nat) (v : Value) (n : Nat) (l : List Value) : Mono (IsRow sz · v n l) := fun _ _ h p => p.sub h

section
variable {w0 W W' : World} {os : List (Nat × Obj)} {fs : List (World → Prop)}

theorem St.start (w : World) : St w w [] [] := ⟨Below.refl _ _, by simp, fun p h => by simp at h, fun _ h => by simp at h, fun _ h => by simp at h⟩
theorem St.size (h : St w0 W os fs) : w0.heap.size ≤ W.heap.size := h.below.size
theorem St.get (h : St w0 W os fs) (i : Nat) {P : World → Prop} (hi : fs[i]? = some P) : P (sm os W) := h.fact P (List.mem_of_getElem? hi)
theorem St.is (h : St w0 W os fs) (i : Nat) {P : World → Prop} (hi : fs[i]? = some P) : P W := h.mono P (List.mem_of_getElem? hi) _ _ (mask_is _ _) (h.get i hi)
theorem St.at_ (h : St w0 W os fs) (i : Nat) {g : Nat} {o : Obj} (hi : os[i]? = some (g, o)) : W.heap[g]? = some o := (h.blk (g, o) (List.mem_of_getElem? hi)).2
theorem St.new (h : St w0 W os fs) (i : Nat) {g : Nat} {o : Obj} (hi : os[i]? = some (g, o)) : w0.heap.size ≤ g := (h.blk (g, o) (List.mem_of_getElem? hi)).1
theorem St.lt (h : St w0 W os fs) : ∀ k ∈ keys os, k < W.heap.size := fun k hk => by
  obtain ⟨p, hp, rfl⟩ := List.mem_map.1 hk
  exact (Array.getElem?_eq_some_iff.1 (h.blk p hp).2).1
theorem St.ge (h : St w0 W os fs) : ∀ k ∈ keys os, w0.heap.size ≤ k := fun k hk => by
  obtain ⟨p, hp, rfl⟩ := List.mem_map.1 hk
  exact (h.blk p hp).1
theorem St.ltS (h : St w0 W os fs) : ∀ k, inL (keys os) k = true → k < W.heap.size := fun k hk => h.lt k (inL_iff.1 hk)
theorem St.put (h : St w0 W os fs) {P : World → Prop} (hm : Mono P) (hP : P (sm os W)) : St w0 W os (P :: fs) :=
  ⟨h.below, h.nodup, h.blk, fun Q hQ => (List.mem_cons.1 hQ).elim (fun e => e ▸ hm) (h.mono Q), fun Q hQ => (List.mem_cons.1 hQ).elim (fun e => e ▸ hP) (h.fact Q)⟩
/-- What was known at the entry. -/
theorem St.putOld (h : St w0 W os fs) {P : World → Prop} (hm : Mono P) (hP : P w0) : St w0 W os (P :: fs) :=
  h.put hm (hm _ _ (mask_old h.below rfl fun k hk => h.ge k (inL_iff.1 hk)) hP)
/-- What holds of a slice that the call has just made. -/
theorem St.putOwn (h : St w0 W os fs) {E B : Nat} {v : Value} {l : List UInt8} (ho : OwnBytes E B W v l) (hB : ∀ k ∈ keys os, k < B) : St w0 W os ((IsBytes · v l) :: fs) :=
  h.put (Mono.bytes v l) (ho.mask fun k hk => hB k (inL_iff.1 hk))
theorem St.facts (h : St w0 W os fs) {fs' : List (World → Prop)} (hf : ∀ P ∈ fs', P ∈ fs) : St w0 W os fs' := ⟨h.below, h.nodup, h.blk, fun P hP => h.mono P (hf P hP), fun P hP => h.fact P (hf P hP)⟩
/-- The last fact is let go. -/
theorem St.pop {P : World → Prop} (h : St w0 W os (P :: fs)) : St w0 W os fs := h.facts fun _ hP => List.mem_cons_of_mem _ hP
/-- A block is no longer looked after. -/
theorem St.loose {p : Nat × Obj} {os1 os2 : List (Nat × Obj)} (h : St w0 W (os1 ++ p :: os2) fs) : St w0 W (os1 ++ os2) fs := by
  refine ⟨h.below, ?_, fun q hq => h.blk q ?_, h.mono, fun P hP => h.mono P hP _ _ (mask_less fun k hk => ?_) (h.fact P hP)⟩
  · have := h.nodup
    simp only [keys, List.map_append, List.map_cons] at this ⊢
    exact this.sublist (List.Sublist.append_left (List.sublist_cons_self _ _) _)
  · rcases List.mem_append.1 hq with hq | hq
    · exact List.mem_append_left _ hq
    · exact List.mem_append_right _ (List.mem_cons_of_mem _ hq)
  · rw [inL_iff] at hk ⊢
    simp only [keys, List.map_append, List.map_cons, List.mem_append, List.mem_cons] at hk ⊢
    rcases hk with hk | hk
    · exact .inl hk
    · exact .inr (.inr hk)

/-- A callee, or whatever leaves what there was. -/
theorem St.call (h : St w0 W os fs) (hb : Below W.heap.size W W') : St w0 W' os fs :=
  ⟨h.below.trans (hb.mono h.size), h.nodup, fun p hp => ⟨(h.blk p hp).1, (hb.block _ (h.lt _ (List.mem_map_of_mem hp))).trans (h.blk p hp).2⟩, h.mono, fun P hP => h.mono P hP _ _ (mask_below hb rfl) (h.fact P hP)⟩
theorem St.drew (h : St w0 W os fs) : St w0 W.drew os fs := h.call (Below.refl _ _).drew
theorem St.drewN (h : St w0 W os fs) (n : Nat) : St w0 (W.drewN n) os fs := h.call ⟨rfl, rfl, rfl, Nat.le_refl _, fun _ _ => rfl⟩
theorem St.box (h : St w0 W os fs) (o : Obj) : St w0 (W.alloc o) os fs := h.call ((Below.refl _ _).alloc (Nat.le_refl _) o)
/-- A new block is looked after from now on. -/
theorem St.grow (h : St w0 W os fs) (hb : Below W.heap.size W W') {g : Nat} {o : Obj} (hg : W.heap.size ≤ g) (ho : W'.heap[g]? = some o) : St w0 W' ((g, o) :: os) fs := by
  have hc := h.call hb
  refine ⟨hc.below, ?_, fun p hp => ?_, h.mono, fun P hP => h.mono P hP _ _ (mask_more hb rfl fun k hk => ?_) (h.fact P hP)⟩
  · simp only [keys, List.map_cons, List.nodup_cons]
    exact ⟨fun hm => by have := h.lt g hm; omega, h.nodup⟩
  · rcases List.mem_cons.1 hp with rfl | hp
    · exact ⟨Nat.le_trans h.size hg, ho⟩
    · exact hc.blk p hp
  · rw [inL_iff] at hk ⊢
    rcases List.mem_cons.1 hk with rfl | hk
    · exact .inr hg
    · exact .inl hk
theorem St.alloc (h : St w0 W os fs) (o : Obj) : St w0 (W.alloc o) ((W.heap.size, o) :: os) fs := h.grow ((Below.refl _ _).alloc (Nat.le_refl _) o) (Nat.le_refl _) (heap_alloc_new W o)

/-- A block of the call's own is turned, and nothing else of what there was. -/
theorem St.turn {g : Nat} {o o' : Obj} {os1 os2 : List (Nat × Obj)} (h : St w0 W (os1 ++ (g, o) :: os2) fs) (hb : Below w0.heap.size w0 W') (hk : ∀ k, k < W.heap.size → k ≠ g → W'.heap[k]? = W.heap[k]?) (ho : W'.heap[g]? = some o') : St w0 W' (os1 ++ (g, o') :: os2) fs := by
  have hkeys : keys (os1 ++ (g, o') :: os2) = keys (os1 ++ (g, o) :: os2) := by simp [keys]
  have hn := h.nodup
  have hgo := h.blk (g, o) (by simp)
  refine ⟨hb, hkeys ▸ hn, fun p hp => ?_, h.mono, fun P hP => ?_⟩
  · have hp' : p ∈ os1 ∨ p = (g, o') ∨ p ∈ os2 := by simpa using hp
    have hne : ∀ q ∈ os1 ++ os2, q.1 ≠ g := fun q hq e => by
      simp only [keys, List.map_append, List.map_cons] at hn
      have := List.nodup_append.1 hn
      rcases List.mem_append.1 hq with hq | hq
      · exact this.2.2 q.1 (List.mem_map_of_mem hq) g (by simp) e
      · have h2 := (List.nodup_cons.1 this.2.1).1
        exact h2 (e ▸ List.mem_map_of_mem hq)
    have old : ∀ q ∈ os1 ++ os2, w0.heap.size ≤ q.1 ∧ W'.heap[q.1]? = some q.2 := fun q hq => by
      have hq' : q ∈ os1 ++ (g, o) :: os2 := by
        rcases List.mem_append.1 hq with hq | hq
        · exact List.mem_append_left _ hq
        · exact List.mem_append_right _ (List.mem_cons_of_mem _ hq)
      exact ⟨(h.blk q hq').1, (hk _ (h.lt _ (List.mem_map_of_mem hq')) (hne q hq)).trans (h.blk q hq').2⟩
    rcases hp' with hp' | rfl | hp'
    · exact old p (List.mem_append_left _ hp')
    · exact ⟨hgo.1, ho⟩
    · exact old p (List.mem_append_right _ hp')
  · have : sm (os1 ++ (g, o') :: os2) W' = mask (inL (keys (os1 ++ (g, o) :: os2))) W' := by unfold sm; rw [hkeys]
    rw [this]
    refine h.mono P hP _ _ (mask_sub fun k hkk hs => ⟨hs, hk k hkk ?_⟩) (h.fact P hP)
    rintro rfl
    rw [inL_no] at hs
    exact hs (by simp [keys])
theorem St.setRow {g : Nat} {cs cs' : Array Value} {t : TypeId} {os1 os2 : List (Nat × Obj)} (h : St w0 W (os1 ++ (g, .cells cs t (0, 0)) :: os2) fs) : St w0 (W.setRow g cs') (os1 ++ (g, .cells cs' t (0, 0)) :: os2) fs :=
  h.turn (below_setRow h.below (h.blk (g, .cells cs t (0, 0)) (by simp)).1 _) (fun k _ hk => setRow_other _ _ _ _ hk) (setRow_heap _ _ _ _ _ _ (h.blk (g, .cells cs t (0, 0)) (by simp)).2)
theorem St.setCell {g i : Nat} {cs : Array Value} {t : TypeId} {v : Value} {os1 os2 : List (Nat × Obj)} (h : St w0 W (os1 ++ (g, .cells cs t (0, 0)) :: os2) fs) : St w0 (W.setCell ⟨g, i, none⟩ v) (os1 ++ (g, .cells (cs.setIfInBounds i v) t (0, 0)) :: os2) fs :=
  h.turn (h.below.setCell (p := ⟨g, i, none⟩) (h.blk (g, .cells cs t (0, 0)) (by simp)).1 _) (fun k _ hk => heap_setCell_other _ _ _ _ hk) (heap_setCell_same _ _ _ _ _ _ (h.blk (g, .cells cs t (0, 0)) (by simp)).2)
/-- A row that an append has turned: it lies where it lay, or in a new block. -/
theorem St.regrow {g g' : Nat} {o o' : Obj} {os1 os2 : List (Nat × Obj)} (h : St w0 W (os1 ++ (g, o) :: os2) fs) (hg : W.grownBy W' (some g)) (hg' : g' = g ∨ W.heap.size ≤ g') (ho : W'.heap[g']? = some o') : St w0 W' (os1 ++ (g', o') :: os2) fs := by
  have hlo := (h.blk (g, o) (by simp)).1
  have hb : Below w0.heap.size w0 W' := Below.grown h.below hg h.size (fun k hk => by cases hk; exact hlo)
  rcases hg' with rfl | hg'
  · exact h.turn hb (fun k hk hne => hg.block k hk (fun e => hne (Option.some.inj e))) ho
  · have hgl : g < W.heap.size := h.lt g (by simp [keys])
    have h1 := h.turn (W' := W') (o' := (W'.heap[g]?).getD o) hb (fun k hk hne => hg.block k hk (fun e => hne (Option.some.inj e))) (by
      have : g < W'.heap.size := Nat.lt_of_lt_of_le hgl hg.size
      rw [Array.getElem?_eq_getElem this]
      rfl)
    have hn := h.nodup
    refine ⟨hb, ?_, fun p hp => ?_, h.mono, fun P hP => ?_⟩
    · simp only [keys, List.map_append, List.map_cons] at hn ⊢
      have hno : ∀ k ∈ List.map (·.1) os1 ++ g :: List.map (·.1) os2, k ≠ g' := fun k hk e => by
        have := h.lt k (by simpa [keys] using hk)
        omega
      obtain ⟨n1, n2, n3⟩ := List.nodup_append.1 hn
      refine List.nodup_append.2 ⟨n1, List.nodup_cons.2 ⟨fun hm => hno g' (by simp only [List.mem_append, List.mem_cons]; exact .inr (.inr hm)) rfl, (List.nodup_cons.1 n2).2⟩, fun a ha b hb => ?_⟩
      rcases List.mem_cons.1 hb with rfl | hb
      · exact hno a (List.mem_append_left _ ha)
      · exact n3 a ha b (List.mem_cons_of_mem _ hb)
    · have hp' : p ∈ os1 ∨ p = (g', o') ∨ p ∈ os2 := by simpa using hp
      rcases hp' with hp' | rfl | hp'
      · exact h1.blk p (List.mem_append_left _ hp')
      · exact ⟨Nat.le_trans h.size hg', ho⟩
      · exact h1.blk p (List.mem_append_right _ (List.mem_cons_of_mem _ hp'))
    · refine h.mono P hP _ _ (mask_sub fun k hkk hs => ?_) (h.fact P hP)
      rw [inL_no] at hs
      simp only [keys, List.map_append, List.map_cons, List.mem_append, List.mem_cons, not_or] at hs
      refine ⟨?_, hg.block k hkk (fun e => hs.2.1 (Option.some.inj e))⟩
      rw [inL_no]
      simp only [keys, List.map_append, List.map_cons, List.mem_append, List.mem_cons, not_or]
      exact ⟨hs.1, by omega, hs.2.2⟩
theorem St.find (h : St w0 W os fs) {g : Nat} {o : Obj} (hm : (g, o) ∈ os) : W.heap[g]? = some o := (h.blk (g, o) hm).2
/-- Four cells of a block are stored one after the other. -/
theorem St.store4 {g : Nat} {a b c d v0 v1 v2 v3 : Value} {t : TypeId} {os1 os2 : List (Nat × Obj)} (h : St w0 W (os1 ++ (g, .cells #[a, b, c, d] t (0, 0)) :: os2) fs) :
    St w0 ((((W.setCell ⟨g, 0, none⟩ v0).setCell ⟨g, 1, none⟩ v1).setCell ⟨g, 2, none⟩ v2).setCell ⟨g, 3, none⟩ v3) (os1 ++ (g, .cells #[v0, v1, v2, v3] t (0, 0)) :: os2) fs :=
  (((h.setCell (i := 0) (v := v0)).setCell (i := 1) (v := v1)).setCell (i := 2) (v := v2)).setCell (i := 3) (v := v3)
theorem cells4 {g : Nat} {a b c d : Value} {t : TypeId} (h : W.heap[g]? = some (.cells #[a, b, c, d] t (0, 0))) :
    W.cell? ⟨g, 0, none⟩ = some a ∧ W.cell? ⟨g, 1, none⟩ = some b ∧ W.cell? ⟨g, 2, none⟩ = some c ∧ W.cell? ⟨g, 3, none⟩ = some d ∧ W.frozen? ⟨g, 0, none⟩ = false ∧ W.frozen? ⟨g, 1, none⟩ = false ∧ W.frozen? ⟨g, 2, none⟩ = false ∧ W.frozen? ⟨g, 3, none⟩ = false := by
  refine ⟨?_, ?_, ?_, ?_, frozen_of_row _ _ _ _ _ h, frozen_of_row _ _ _ _ _ h, frozen_of_row _ _ _ _ _ h, frozen_of_row _ _ _ _ _ h⟩ <;> rw [cell_of_row _ _ _ _ _ _ h] <;> rfl
theorem St.ne01 {p q : Nat × Obj} (h : St w0 W (p :: q :: os) fs) : p.1 ≠ q.1 ∧ q.1 ≠ p.1 := by
  have := h.nodup
  simp only [keys, List.map_cons, List.nodup_cons, List.mem_cons, not_or] at this
  exact ⟨this.1.1, fun e => this.1.1 e.symm⟩
end

end Go.Proofs.Ytihohhjaomoemaa
