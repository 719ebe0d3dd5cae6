/- Readings that do not go through certain blocks: a world with these blocks blotted out. Over whatever program. -/
import Derived.Test.YtihohhjaomoemaaLists
namespace Go.Proofs.Ytihohhjaomoemaa
open Go.RowKit

/-- The world without what lies in the blocks of S. -/
def mask (S : Nat → Bool) (w : World) : World := { w with heap := w.heap.mapIdx fun k o => if S k then .cells #[] 0 else o }
/-- Every cell that reads in w reads in w' likewise. -/
def Sub (w w' : World) : Prop := ∀ a v, w.cell? a = some v → w'.cell? a = some v

theorem Sub.refl (w : World) : Sub w w := fun _ _ h => h
theorem Sub.trans {a b c : World} (h : Sub a b) (k : Sub b c) : Sub a c := fun x v hx => k x v (h x v hx)
theorem cell_block_lt {w : World} {a : Addr} {v : Value} (h : w.cell? a = some v) : a.block < w.heap.size := by
  rcases Nat.lt_or_ge a.block w.heap.size with h' | h'
  · exact h'
  · simp [World.cell?, Array.getElem?_eq_none h'] at h
theorem Sub.of_heap {w w' : World} (h : ∀ k, k < w.heap.size → w'.heap[k]? = w.heap[k]?) : Sub w w' := fun _ _ hx => (World.cell?_of_block (h _ (cell_block_lt hx))).trans hx
theorem Sub.below {B : Nat} {w w' : World} (hb : Below B w w') (hB : B = w.heap.size) : Sub w w' := Sub.of_heap fun k hk => hb.block k (hB ▸ hk)

theorem mask_heap (S : Nat → Bool) (w : World) (k : Nat) : (mask S w).heap[k]? = (w.heap[k]?).map fun o => if S k then .cells #[] 0 else o := by simp [mask]
theorem mask_size (S : Nat → Bool) (w : World) : (mask S w).heap.size = w.heap.size := by simp [mask]
theorem mask_block (S : Nat → Bool) (w : World) (k : Nat) (h : S k = false) : (mask S w).heap[k]? = w.heap[k]? := by
  rw [mask_heap]
  cases w.heap[k]? <;> simp [h]
theorem mask_none (S : Nat → Bool) (w : World) (a : Addr) (v : Value) (h : (mask S w).cell? a = some v) : S a.block = false := by
  cases hs : S a.block with
  | false => rfl
  | true =>
    simp only [World.cell?, mask_heap, hs, if_true] at h
    cases hq : w.heap[a.block]? <;> simp [hq] at h
/-- What reads off S reads on off S', where what S' holds besides is new. -/
theorem mask_sub {S S' : Nat → Bool} {w w' : World} (h : ∀ k, k < w.heap.size → S k = false → S' k = false ∧ w'.heap[k]? = w.heap[k]?) : Sub (mask S w) (mask S' w') := fun a v hx => by
  have hs := mask_none S w a v hx
  have hl := cell_block_lt hx
  rw [mask_size] at hl
  obtain ⟨h1, h2⟩ := h a.block hl hs
  rw [World.cell?_of_block (w := w) ((mask_block S' w' _ h1).trans h2), ← World.cell?_of_block (w := w) (mask_block S w _ hs)]
  exact hx
theorem mask_is (S : Nat → Bool) (w : World) : Sub (mask S w) w := fun a v hx => by
  rw [← World.cell?_of_block (w := w) (mask_block S w _ (mask_none S w a v hx))]
  exact hx
/-- What was there at the entry reads off the blocks of the call's own. -/
theorem mask_old {B : Nat} {S : Nat → Bool} {w w' : World} (hb : Below B w w') (hB : B = w.heap.size) (hS : ∀ k, S k = true → B ≤ k) : Sub w (mask S w') := fun a v hx => by
  have hl := cell_block_lt hx
  have hs : S a.block = false := by
    cases h : S a.block with
    | false => rfl
    | true => have := hS _ h; omega
  rw [World.cell?_of_block (w := w) ((mask_block S w' _ hs).trans (hb.block _ (hB ▸ hl)))]
  exact hx
theorem mask_below {B : Nat} {S : Nat → Bool} {w w' : World} (hb : Below B w w') (hB : B = w.heap.size) : Sub (mask S w) (mask S w') :=
  mask_sub fun k hk hs => ⟨hs, hb.block k (hB ▸ hk)⟩
/-- S grows by blocks that are new. -/
theorem mask_more {B : Nat} {S S' : Nat → Bool} {w w' : World} (hb : Below B w w') (hB : B = w.heap.size) (hS : ∀ k, S' k = true → S k = true ∨ B ≤ k) : Sub (mask S w) (mask S' w') :=
  mask_sub fun k hk hs => ⟨(by
    cases h : S' k with
    | false => rfl
    | true =>
      rcases hS k h with h' | h'
      · rw [h'] at hs; cases hs
      · omega), hb.block k (hB ▸ hk)⟩
theorem mask_less {S S' : Nat → Bool} {w : World} (hS : ∀ k, S' k = true → S k = true) : Sub (mask S w) (mask S' w) :=
  mask_sub fun k _ hs => ⟨(by
    cases h : S' k with
    | false => rfl
    | true => rw [hS k h] at hs; cases hs), rfl⟩
theorem mask_set {S : Nat → Bool} {w : World} (p : Addr) (u : Value) (hp : S p.block = true) : Sub (mask S w) (mask S (w.setCell p u)) :=
  mask_sub fun k _ hs => ⟨hs, heap_setCell_other _ _ _ _ (fun e => by rw [e, hp] at hs; cases hs)⟩
theorem mask_setRow {S : Nat → Bool} {w : World} (p : Nat) (cs : Array Value) (hp : S p = true) : Sub (mask S w) (mask S (w.setRow p cs)) :=
  mask_sub fun k _ hs => ⟨hs, setRow_other _ _ _ _ (fun e => by rw [e, hp] at hs; cases hs)⟩
theorem mask_grown {S : Nat → Bool} {w w' : World} {row : Option Nat} (hg : w.grownBy w' row) (hr : ∀ k, row = some k → S k = true) : Sub (mask S w) (mask S w') :=
  mask_sub fun k hk hs => ⟨hs, hg.block k hk (fun e => by rw [hr k e.symm] at hs; cases hs)⟩
theorem mask_drewN {S : Nat → Bool} {w : World} (n : Nat) : Sub (mask S w) (mask S (w.drewN n)) := mask_sub fun _ _ hs => ⟨hs, rfl⟩
theorem mask_drew {S : Nat → Bool} {w : World} : Sub (mask S w) (mask S w.drew) := mask_sub fun _ _ hs => ⟨hs, rfl⟩

theorem IsRow.sub {sz n : Nat} {w w' : World} {v : Value} {xs : List Value} (h : IsRow sz w v n xs) (k : Sub w w') : IsRow sz w' v n xs := by
  obtain ⟨base, cap, rfl, hx, hl, hm, hn, hc⟩ := h
  refine ⟨base, cap, rfl, hx, hl, hm, hn, fun i hi => ?_⟩
  obtain ⟨b, off, rfl, hcell⟩ := hc i hi
  exact ⟨b, off, rfl, k _ _ hcell⟩
theorem IsBytes.sub {w w' : World} {v : Value} {l : List UInt8} (h : IsBytes w v l) (k : Sub w w') : IsBytes w' v l := IsRow.sub h k
theorem IsLists.sub {w w' : World} {v : Value} {ll : List (List UInt8)} (h : IsLists w v ll) (k : Sub w w') : IsLists w' v ll := by
  obtain ⟨vs, hr, hv⟩ := h
  exact ⟨vs, hr.sub k, fun i hi => let ⟨u, h1, h2⟩ := hv i hi; ⟨u, h1, h2.sub k⟩⟩
/-- What the call owns from B on reads off whatever lies below B. -/
theorem ownsRow_mask {B E sz n : Nat} {S : Nat → Bool} {w : World} {v : Value} {xs : List Value} (h : w.ownsRow B E sz v n xs) (hS : ∀ k, v.ownBlock = some k → S k = false) : IsRow sz (mask S w) v n xs :=
  (ownsRow_isRow h).own fun k hk => mask_block S w k (hS k hk)
theorem OwnBytes.mask {E B : Nat} {S : Nat → Bool} {w : World} {v : Value} {l : List UInt8} (h : OwnBytes E B w v l) (hS : ∀ k, S k = true → k < B) : IsBytes (mask S w) v l :=
  ownsRow_mask h fun k hk => by
    have := (World.ownsRow.lt h k hk).1
    cases hs : S k with
    | false => rfl
    | true => have := hS k hs; omega
theorem mask_row {sz n : Nat} {S : Nat → Bool} {w : World} {v : Value} {xs : List Value} (h : IsRow sz w v n xs) (hS : ∀ k, v.ownBlock = some k → S k = false) : IsRow sz (mask S w) v n xs :=
  h.own fun k hk => mask_block S w k (hS k hk)

/-- The blocks of S, and the row's own. -/
def orOwn (S : Nat → Bool) (v : Value) : Nat → Bool := fun k => S k || decide (v.ownBlock = some k)
theorem orOwn_no {S : Nat → Bool} {v : Value} {k : Nat} : orOwn S v k = false ↔ S k = false ∧ v.ownBlock ≠ some k := by simp [orOwn]
/-- A slice of byte slices that the call owns; its elements read off S and off the row itself. -/
def OwnLs (S : Nat → Bool) (E B : Nat) (w : World) (v : Value) (ll : List (List UInt8)) : Prop :=
  ∃ vs : List Value, w.ownsRow B E 1 v ll.length vs ∧ ∀ i (h : i < ll.length), ∃ u, vs[i]? = some u ∧ IsBytes (mask (orOwn S v) w) u ll[i]
theorem OwnLs.nil (S : Nat → Bool) (E B : Nat) (w : World) : OwnLs S E B w (.slice none 0 0) [] := ⟨[], World.ownsRow_nil w B E 1, fun i h => absurd h (by simp)⟩
theorem OwnLs.is {S : Nat → Bool} {E B : Nat} {w : World} {v : Value} {ll : List (List UInt8)} (h : OwnLs S E B w v ll) (hS : ∀ k, S k = true → k < B) : IsLists (mask S w) v ll := by
  obtain ⟨vs, hr, hv⟩ := h
  refine isLists_of_row (vs := vs) (ownsRow_mask hr fun k hk => ?_) (fun i hi => ?_)
  · have := (World.ownsRow.lt hr k hk).1
    cases hs : S k with
    | false => rfl
    | true => have := hS k hs; omega
  · obtain ⟨u, h1, h2⟩ := hv i hi
    exact ⟨u, h1, h2.sub (mask_less fun k hk => by simp [orOwn, hk])⟩
theorem orOwn_append {S : Nat → Bool} {w w' : World} {v v' : Value} (hg : w.grownBy w' v.ownBlock) (ho : v'.ownBlock = v.ownBlock ∨ ∃ k, w.heap.size ≤ k ∧ v'.ownBlock = some k) : Sub (mask (orOwn S v) w) (mask (orOwn S v') w') :=
  mask_sub fun k hk hs => by
    obtain ⟨h1, h2⟩ := orOwn_no.1 hs
    refine ⟨orOwn_no.2 ⟨h1, ?_⟩, hg.block k hk (fun e => h2 e.symm)⟩
    rcases ho with ho | ⟨k', hk', ho⟩ <;> rw [ho]
    · exact h2
    · intro e; cases e; omega
theorem OwnLs.append {S : Nat → Bool} {E B : Nat} {w w' : World} {v v' u : Value} {vs : List Value} {ll : List (List UInt8)} {l : List UInt8} (hv : ∀ i (h : i < ll.length), ∃ u, vs[i]? = some u ∧ IsBytes (mask (orOwn S v) w) u ll[i]) (hl : vs.length = ll.length)
    (hr : w'.ownsRow B E 1 v' (ll.length + 1) (vs ++ [u])) (hg : w.grownBy w' v.ownBlock) (ho : v'.ownBlock = v.ownBlock ∨ ∃ k, w.heap.size ≤ k ∧ v'.ownBlock = some k) (hu : IsBytes (mask (orOwn S v) w) u l) : OwnLs S E B w' v' (ll ++ [l]) := by
  refine ⟨vs ++ [u], by rw [List.length_append]; exact hr, fun i hi => ?_⟩
  rw [List.length_append, List.length_singleton] at hi
  by_cases e : i < ll.length
  · obtain ⟨x, h1, h2⟩ := hv i e
    refine ⟨x, by rw [List.getElem?_append_left (by omega)]; exact h1, ?_⟩
    rw [List.getElem_append_left e]
    exact h2.sub (orOwn_append hg ho)
  · obtain rfl : i = ll.length := by omega
    refine ⟨u, by rw [List.getElem?_append_right (by omega), hl]; simp, ?_⟩
    rw [List.getElem_append_right (Nat.le_refl _)]
    simpa using hu.sub (orOwn_append hg ho)
/-- What turns S alone, or is new, keeps it. -/
theorem OwnLs.keep {S S' : Nat → Bool} {E B : Nat} {w w' : World} {v : Value} {ll : List (List UInt8)} (h : OwnLs S E B w v ll) (hk : ∀ k, k < w.heap.size → S k = false → S' k = false ∧ w'.heap[k]? = w.heap[k]?) (hv : ∀ k, v.ownBlock = some k → S k = false) : OwnLs S' E B w' v ll := by
  obtain ⟨vs, hr, he⟩ := h
  refine ⟨vs, ?_, fun i hi => ?_⟩
  · obtain ⟨h1, hr⟩ := hr
    refine ⟨h1, ?_⟩
    rcases hr with hr | ⟨g, cap, cur, rfl, hB, hg, hr⟩
    · exact .inl hr
    · refine .inr ⟨g, cap, cur, rfl, hB, ?_, hr⟩
      rw [(hk g (Array.getElem?_eq_some_iff.1 hg).1 (hv g rfl)).2]
      exact hg
  · obtain ⟨u, h1, h2⟩ := he i hi
    refine ⟨u, h1, h2.sub (mask_sub fun k hkk hs => ?_)⟩
    obtain ⟨a, b⟩ := orOwn_no.1 hs
    obtain ⟨c, d⟩ := hk k hkk a
    exact ⟨orOwn_no.2 ⟨c, b⟩, d⟩

/-- s[lo:], as the walk spells it. -/
theorem IsBytes.from_ {w : World} {base : Option Addr} {n cap : Nat} {l : List UInt8} (h : IsBytes w (.slice base n cap) l) (lo : Nat) (hlo : lo ≤ l.length) : IsBytes w (.slice (if cap = lo then base else base.map (·.add lo)) (n - lo) (cap - lo)) (l.drop lo) := by
  have hn : n = l.length ∧ n ≤ cap := by obtain ⟨_, _, e, _, hl, _⟩ := h; cases e; exact ⟨rfl, hl⟩
  obtain ⟨rfl, hc⟩ := hn
  have := h.part lo l.length cap hlo (Nat.le_refl _) hc (Nat.le_refl _)
  rwa [List.take_length] at this

theorem own_block {B E sz n : Nat} {w : World} {v : Value} {xs : List Value} (h : w.ownsRow B E sz v n xs) (hn : n ≠ 0) : ∃ g c, v = .slice (some ⟨g, 0, none⟩) n c ∧ B ≤ g ∧ g < w.heap.size := by
  obtain ⟨_, hr⟩ := h
  rcases hr with ⟨_, h0⟩ | ⟨g, cap, cur, rfl, hB, hh, _⟩
  · exact absurd h0 hn
  · exact ⟨g, cap, rfl, hB, (Array.getElem?_eq_some_iff.1 hh).1⟩
theorem own_slice {B E sz n : Nat} {w : World} {v : Value} {xs : List Value} (h : w.ownsRow B E sz v n xs) : ∃ b c, v = .slice b n c := by
  obtain ⟨b, c, h, _⟩ := ownsRow_isRow h
  exact ⟨b, c, h⟩

end Go.Proofs.Ytihohhjaomoemaa
