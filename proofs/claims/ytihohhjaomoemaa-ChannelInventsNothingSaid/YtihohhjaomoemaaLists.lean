/- Readings of memory: a slice of byte slices that reads as a list of lists; copies of them. Over whatever program. -/
import Derived.Test.YtihohhjaomoemaaApp
import Derived.Laws.CopyOwn
namespace Go.Proofs.Ytihohhjaomoemaa
open Go.RowKit

/-- A slice value that reads, in a world, as a list of byte strings. -/
def IsLists (w : World) (v : Value) (ll : List (List UInt8)) : Prop :=
  ∃ vs : List Value, IsRow 1 w v ll.length vs ∧ ∀ i (h : i < ll.length), ∃ u, vs[i]? = some u ∧ IsBytes w u ll[i]

theorem IsBytes.one {w : World} {v : Value} {l : List UInt8} (h : IsBytes w v l) : v.oneCell' = true := by
  obtain ⟨_, _, rfl, _⟩ := h; rfl
theorem IsLists.below {B : Nat} {w w' : World} {v : Value} {ll : List (List UInt8)} (h : IsLists w v ll) (hb : Below B w w') (hB : B = w.heap.size) : IsLists w' v ll := by
  obtain ⟨vs, hr, hv⟩ := h
  exact ⟨vs, hr.below hb hB, fun i hi => let ⟨u, h1, h2⟩ := hv i hi; ⟨u, h1, h2.below hb hB⟩⟩
theorem IsLists.out {w : World} {v : Value} {ll : List (List UInt8)} (h : IsLists w v ll) :
  ∃ base cap, v = .slice base ll.length cap ∧ ll.length ≤ cap ∧ cap ≤ maxLen ∧ (base = none → cap = 0) ∧
    ∀ i (h : i < ll.length), ∃ b off u, base = some ⟨b, off, none⟩ ∧ w.cell? ⟨b, off + i, none⟩ = some u ∧ IsBytes w u ll[i] := by
  obtain ⟨vs, ⟨base, cap, hv, hx, hl, hm, hn, hc⟩, hu⟩ := h
  refine ⟨base, cap, hv, hl, hm, hn, fun i hi => ?_⟩
  obtain ⟨u, h1, h2⟩ := hu i hi
  obtain ⟨b, off, e, hcell⟩ := hc i (by omega)
  have : vs[i]'(by omega) = u := by
    have := List.getElem?_eq_getElem (l := vs) (i := i) (by omega)
    rw [h1] at this
    exact (Option.some.inj this).symm
  exact ⟨b, off, u, e, by rw [hcell, this], h2⟩
theorem IsLists.parts {w : World} {v : Value} {ll : List (List UInt8)} (h : IsLists w v ll) : ∃ vs : List Value, IsRow 1 w v ll.length vs ∧ (∀ u ∈ vs, u.oneCell' = true) ∧ ∀ i (h : i < ll.length), ∃ u, vs[i]? = some u ∧ IsBytes w u ll[i] := by
  obtain ⟨vs, hr, hv⟩ := h
  refine ⟨vs, hr, fun u hu => ?_, hv⟩
  obtain ⟨i, hi, rfl⟩ := List.getElem_of_mem hu
  obtain ⟨_, _, _, hx, _⟩ := hr
  obtain ⟨u, h1, h2⟩ := hv i (by omega)
  rw [List.getElem?_eq_getElem hi] at h1
  cases h1
  exact h2.one

/-- A slice of byte slices that the call owns; what its elements lead to is as it may be. -/
def OwnLists (E B : Nat) (w : World) (v : Value) (ll : List (List UInt8)) : Prop :=
  ∃ vs : List Value, w.ownsRow B E 1 v ll.length vs ∧ ∀ i (h : i < ll.length), ∃ u, vs[i]? = some u ∧ IsBytes w u ll[i]
theorem OwnLists.is {E B : Nat} {w : World} {v : Value} {ll : List (List UInt8)} (h : OwnLists E B w v ll) : IsLists w v ll := by
  obtain ⟨vs, h1, h2⟩ := h
  exact ⟨vs, ownsRow_isRow h1, h2⟩
theorem OwnLists.shape {E B : Nat} {w : World} {v : Value} {ll : List (List UInt8)} (h : OwnLists E B w v ll) (hl : ll ≠ []) : ∃ g cap, v = .slice (some ⟨g, 0, none⟩) ll.length cap ∧ B ≤ g := by
  obtain ⟨_, ⟨_, hr⟩, _⟩ := h
  rcases hr with ⟨hv, hn⟩ | ⟨g, cap, _, hv, hB, _⟩
  · exact absurd (List.eq_nil_of_length_eq_zero hn) hl
  · exact ⟨g, cap, hv, hB⟩

/-- A store at a block keeps what does not lie in it. -/
theorem IsRow.setCell {sz n : Nat} {w : World} {v : Value} {xs : List Value} (h : IsRow sz w v n xs) (a : Addr) (u : Value) (hne : ∀ b, v.ownBlock = some b → b ≠ a.block) : IsRow sz (w.setCell a u) v n xs := by
  obtain ⟨base, cap, rfl, hx, hl, hm, hn, hc⟩ := h
  refine ⟨base, cap, rfl, hx, hl, hm, hn, fun i hi => ?_⟩
  obtain ⟨b, off, rfl, hcell⟩ := hc i hi
  refine ⟨b, off, rfl, ?_⟩
  rw [World.cell?_of_block (w := w) (heap_setCell_other w a b u (hne b rfl))]
  exact hcell
theorem IsBytes.setCell {w : World} {v : Value} {l : List UInt8} (h : IsBytes w v l) (a : Addr) (u : Value) (hne : ∀ b, v.ownBlock = some b → b ≠ a.block) : IsBytes (w.setCell a u) v l := IsRow.setCell h a u hne

theorem OwnLists.cellAt {E B g n cap : Nat} {w : World} {ll : List (List UInt8)} (h : OwnLists E B w (.slice (some ⟨g, 0, none⟩) n cap) ll) (i : Nat) (hi : i < ll.length) : ∃ ub uc, w.cell? ⟨g, i, none⟩ = some (.slice ub ll[i].length uc) ∧ IsBytes w (.slice ub ll[i].length uc) ll[i] := by
  obtain ⟨base, cap', hvv, _, _, _, hc⟩ := h.is.out
  cases hvv
  obtain ⟨b, off, u, hb, hcell, hu⟩ := hc i hi
  obtain ⟨ub, uc, rfl, _⟩ := hu.out
  cases hb
  exact ⟨ub, uc, by rw [← hcell, Nat.zero_add], hu⟩
theorem OwnLists.frozenAt {E B g n cap : Nat} {w : World} {ll : List (List UInt8)} (h : OwnLists E B w (.slice (some ⟨g, 0, none⟩) n cap) ll) (i : Nat) : w.frozen? ⟨g, i, none⟩ = false := by
  obtain ⟨vs, hr, _⟩ := h
  have hn : n = ll.length := by
    obtain ⟨_, hr⟩ := hr
    rcases hr with ⟨hv, _⟩ | ⟨_, _, _, hv, _⟩ <;> simp only [Value.slice.injEq] at hv
    · simp at hv
    · exact hv.2.1
  subst hn
  exact World.ownsRow.frozenAt hr i
/-- The row's own block is one of the call's: a store at another place keeps it. -/
theorem OwnLists.other {E B g n cap : Nat} {w : World} {ll : List (List UInt8)} (h : OwnLists E B w (.slice (some ⟨g, 0, none⟩) n cap) ll) (a : Addr) (u : Value) (hne : a.block ≠ g) (hall : ∀ j (h : j < ll.length) x, IsBytes w x ll[j] → IsBytes (w.setCell a u) x ll[j]) : OwnLists E B (w.setCell a u) (.slice (some ⟨g, 0, none⟩) n cap) ll := by
  obtain ⟨vs, hr, hv⟩ := h
  refine ⟨vs, ?_, fun i hi => ?_⟩
  · obtain ⟨h1, hr⟩ := hr
    refine ⟨h1, ?_⟩
    rcases hr with hr | ⟨g', cap', cur, hv', hB, hg, hr⟩
    · exact .inl hr
    · refine .inr ⟨g', cap', cur, hv', hB, ?_, hr⟩
      cases hv'
      rw [heap_setCell_other w a _ u (fun e => hne e.symm)]
      exact hg
  · obtain ⟨x, h1, h2⟩ := hv i hi
    exact ⟨x, h1, hall i hi x h2⟩

theorem IsRow.own {sz n : Nat} {w w' : World} {v : Value} {xs : List Value} (h : IsRow sz w v n xs) (hk : ∀ k, v.ownBlock = some k → w'.heap[k]? = w.heap[k]?) : IsRow sz w' v n xs := by
  obtain ⟨base, cap, rfl, hx, hl, hm, hn, hc⟩ := h
  refine ⟨base, cap, rfl, hx, hl, hm, hn, fun i hi => ?_⟩
  obtain ⟨b, off, rfl, hcell⟩ := hc i hi
  refine ⟨b, off, rfl, ?_⟩
  rw [World.cell?_of_block (w := w) (hk b rfl)]
  exact hcell
theorem IsRow.heap {sz n : Nat} {w w' : World} {v : Value} {xs : List Value} (h : IsRow sz w v n xs) (hk : ∀ k, k < w.heap.size → w'.heap[k]? = w.heap[k]?) : IsRow sz w' v n xs := by
  obtain ⟨base, cap, rfl, hx, hl, hm, hn, hc⟩ := h
  refine ⟨base, cap, rfl, hx, hl, hm, hn, fun i hi => ?_⟩
  obtain ⟨b, off, rfl, hcell⟩ := hc i hi
  refine ⟨b, off, rfl, ?_⟩
  have hb : b < w.heap.size := by
    rcases Nat.lt_or_ge b w.heap.size with h | h
    · exact h
    · simp [World.cell?, Array.getElem?_eq_none h] at hcell
  rw [World.cell?_of_block (w := w) (hk b hb)]
  exact hcell
/-- A reading that does not go through the blocks from lo to hi. -/
def IsListsOff (lo hi : Nat) (w : World) (v : Value) (ll : List (List UInt8)) : Prop := ∀ w' : World, (∀ k, ¬ (lo ≤ k ∧ k < hi) → w'.heap[k]? = w.heap[k]?) → IsLists w' v ll
theorem IsListsOff.is {lo hi : Nat} {w : World} {v : Value} {ll : List (List UInt8)} (h : IsListsOff lo hi w v ll) : IsLists w v ll := h w (fun _ _ => rfl)
theorem IsListsOff.set {lo hi : Nat} {w : World} {v : Value} {ll : List (List UInt8)} (h : IsListsOff lo hi w v ll) (p : Nat) (hp : lo ≤ p ∧ p < hi) (i : Nat) (u : Value) : IsListsOff lo hi (w.setCell ⟨p, i, none⟩ u) v ll :=
  fun w' hw => h w' (fun k hk => (hw k hk).trans (heap_setCell_other _ _ _ _ (fun e => hk (by rw [e]; exact hp))))
theorem IsListsOff.setRow {lo hi : Nat} {w : World} {v : Value} {ll : List (List UInt8)} (h : IsListsOff lo hi w v ll) (p : Nat) (hp : lo ≤ p ∧ p < hi) (cs : Array Value) : IsLists (w.setRow p cs) v ll :=
  h _ (fun k hk => setRow_other w p k _ (fun e => hk (by rw [e]; exact hp)))

theorem IsLists.heap {w w' : World} {v : Value} {ll : List (List UInt8)} (h : IsLists w v ll) (hk : ∀ k, k < w.heap.size → w'.heap[k]? = w.heap[k]?) : IsLists w' v ll := by
  obtain ⟨vs, hr, hv⟩ := h
  exact ⟨vs, hr.heap hk, fun i hi => let ⟨u, h1, h2⟩ := hv i hi; ⟨u, h1, IsRow.heap h2 hk⟩⟩
theorem setCell_grown (w : World) (a : Addr) (u : Value) : w.grownBy (w.setCell a u) (some a.block) :=
  ⟨rfl, rfl, rfl, by simp [World.setCell], fun k _ hk => heap_setCell_other w a k u (fun e => hk (by rw [e]))⟩
/-- A row of byte slices whose elements are read in an older world. -/
theorem isLists_of_row {w : World} {v : Value} {vs : List Value} {ll : List (List UInt8)} (hr : IsRow 1 w v ll.length vs) (hv : ∀ i (h : i < ll.length), ∃ u, vs[i]? = some u ∧ IsBytes w u ll[i]) : IsLists w v ll := ⟨vs, hr, hv⟩

/-- A cell stored anew in a row that the call owns. -/
theorem OwnLists.stored {E B g n cap : Nat} {w : World} {ll : List (List UInt8)} (h : OwnLists E B w (.slice (some ⟨g, 0, none⟩) n cap) ll) (i : Nat) (u : Value) (l : List UInt8) (hi : i < ll.length)
    (hu : IsBytes (w.setCell ⟨g, i, none⟩ u) u l) (hall : ∀ j (h : j < ll.length) x, j ≠ i → IsBytes w x ll[j] → IsBytes (w.setCell ⟨g, i, none⟩ u) x ll[j]) : OwnLists E B (w.setCell ⟨g, i, none⟩ u) (.slice (some ⟨g, 0, none⟩) n cap) (ll.set i l) := by
  obtain ⟨vs, hr, hv⟩ := h
  have hn : n = ll.length := by
    obtain ⟨_, hr⟩ := hr
    rcases hr with ⟨hv, _⟩ | ⟨_, _, _, hv, _⟩ <;> simp only [Value.slice.injEq] at hv
    · simp at hv
    · exact hv.2.1
  subst hn
  have hlen : vs.length = ll.length := by rw [hr.1]; omega
  refine ⟨vs.set i u, by rw [List.length_set]; exact (World.ownsRow.stored hr i u).1, fun j hj => ?_⟩
  rw [List.length_set] at hj
  by_cases e : i = j
  · subst e
    refine ⟨u, ?_, ?_⟩
    · rw [List.getElem?_set, if_pos rfl, if_pos (by omega)]
    · rw [List.getElem_set_self]; exact hu
  · obtain ⟨x, h1, h2⟩ := hv j hj
    refine ⟨x, ?_, ?_⟩
    · rw [List.getElem?_set, if_neg e]; exact h1
    · rw [List.getElem_set_ne e]
      exact hall j hj x (fun e' => e e'.symm) h2

/-- copy of bytes onto bytes of the call's own, from their head on. -/
theorem wpList_copy_bytes {P : Program} {w : World} {ops : Array Oper} {rest : List Oper} {o : Oper} {a : Act} {Q : Exit → Act → World → Prop} (hgd : o.guard = none) (d s : Operand) (dT sT : TypeId)
    (ho : o.op = .call { callee := .builtin .copy, args := #[d, s], argTypes := #[dT, sT] }) (e : TypeId) (hu : P.underlying dT = some (.slice e)) (hsz : (P.info? e).map (·.size) = some 1)
    (B g n cap : Nat) (l : List UInt8) (hd : a.eval d = .slice (some ⟨g, 0, none⟩) n cap) (hown : OwnBytes e B w (.slice (some ⟨g, 0, none⟩) n cap) l) (u : Value) (m : List UInt8) (hs : a.eval s = u) (hsrc : IsBytes w u m) (hml : m.length ≤ l.length)
    (h : ∀ w', OwnBytes e B w' (.slice (some ⟨g, 0, none⟩) n cap) (m ++ l.drop m.length) → w.grownBy w' (some g) → wpList P ops Q rest (a.put o.dst (goInt m.length)) w') : wpList P ops Q (o :: rest) a w := by
  obtain ⟨hxl, hr⟩ := hown
  rcases hr with ⟨hv, -⟩ | ⟨g', cap', cur, hv, hB, hg, hnc, hcm, hcs, htake⟩
  · simp at hv
  simp only [Value.slice.injEq, Option.some.injEq, Addr.mk.injEq, and_true] at hv
  obtain ⟨rfl, rfl, rfl⟩ := hv
  obtain ⟨base, ucap, rfl, hmx, hml2, hmm, hmn, hmc⟩ := hsrc
  have hmin : Nat.min m.length l.length = m.length := Nat.min_eq_left hml
  by_cases h0 : m.length = 0
  · have hm0 : m = [] := List.eq_nil_of_length_eq_zero h0
    subst hm0
    refine wpList_copy_nothing hgd d s dT sT ho e hu hsz (some ⟨g, 0, none⟩) base l.length cap 0 ucap hd hs (by simp) ?_
    exact h w ⟨hxl, .inr ⟨g, cap, cur, rfl, hB, hg, hnc, hcm, hcs, htake⟩⟩ ⟨rfl, rfl, rfl, Nat.le_refl _, fun _ _ _ => rfl⟩
  · obtain ⟨b, off, rfl, -⟩ := hmc 0 (by rw [List.length_map]; omega)
    have hcsl : cur.size = cap := by omega
    refine wpList_copy_own hgd d s dT sT ho e hu hsz g 0 l.length cap ⟨b, off, none⟩ m.length ucap hd hs cur e hg (m.map u8v) (by rw [List.length_map]; exact hmin.symm) ?_ (by rw [List.length_map]; omega) (u8v_one m) ?_
    · intro j v hv
      obtain ⟨hj, hv'⟩ := List.getElem?_eq_some_iff.1 hv
      obtain ⟨b', off', e', hcell⟩ := hmc j hj
      cases e'
      rw [Addr.add_lit, hcell, hv']
    · have hlen : (m ++ l.drop m.length).length = l.length := by rw [List.length_append, List.length_drop]; omega
      have key : OwnBytes e B (w.setRow g (cur.toList.take 0 ++ (m.map u8v ++ cur.toList.drop (0 + (m.map u8v).length))).toArray) (.slice (some ⟨g, 0, none⟩) l.length cap) (m ++ l.drop m.length) := by
        unfold OwnBytes
        rw [hlen]
        refine ⟨by rw [List.length_map, hlen]; omega, .inr ⟨g, cap, _, rfl, hB, setRow_heap w g cur _ e _ hg, hnc, hcm, ?_, ?_⟩⟩
        · simp only [List.size_toArray, List.length_append, List.length_take, List.length_drop, List.length_map, Array.length_toList]
          omega
        · simp only [List.take_zero, List.nil_append, Nat.zero_add, List.map_append, List.map_drop]
          rw [← htake, List.take_append, List.length_map, List.take_of_length_le (by rw [List.length_map]; omega)]
          congr 1
          rw [List.take_drop]
          congr 2
          omega
      have := h _ key ⟨rfl, rfl, rfl, by simp, fun k _ hk => setRow_other w g k _ (fun e => hk (by simp [e]))⟩
      rw [List.length_map] at this ⊢
      exact this

end Go.Proofs.Ytihohhjaomoemaa
