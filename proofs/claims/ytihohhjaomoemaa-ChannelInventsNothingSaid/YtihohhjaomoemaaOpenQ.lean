/- Opening the arguments of a statement, whatever their shape: readings at the level of cells. Over whatever program. -/
import Derived.Test.YtihohhjaomoemaaOpen
import Derived.Test.YtihohhjaomoemaaSeq
import Derived.Deep.Slices
import Derived.Deep.Fields
namespace Go.Proofs.Ytihohhjaomoemaa
open Go.ChangeShapes Go.WideShapes Go.ChangeAt Go.RowKit Go.Deep

section
variable {H : Type} {enc : TypeId × Value → H} {P : Program} {W : World} {base : Nat} {spare : Nat → Bool} {held : Bool} {t e : TypeId} {n : Nat} {cs : List Value} {x : DataW H × List MemPlace}
/-- A slice, its elements opened one by one. -/
theorem trod_seq {α : Type} [Inhabited α] {R : Rd α} {Q : DataW H → α → Prop} {sz : Nat} (ht : P.underlying t = some (.slice e)) (hc : P.cellsOf e = sz) (hs : 0 < sz)
    (hel : ∀ n cs x, DataW.trod enc P W base spare held n e cs = some x → ∃ a, R W cs a ∧ Q x.1 a) (h : DataW.trod enc P W base spare held n t cs = some x) :
    ∃ v l, cs = [v] ∧ IsSeq sz R W v l ∧ ((x.1 = .nil ∧ l = []) ∨ ∃ ds sp, x.1 = .slice ds sp ∧ ds.length = l.length ∧ ∀ i (h : i < l.length), ∃ d, ds[i]? = some d ∧ Q d l[i]) := by
  rcases open_slice ht h with ⟨rfl, rfl⟩ | ⟨a, len, cap, m, n, D, Pl, rfl, _, hl, hm, hmm, rfl, hi⟩
  · exact ⟨_, [], rfl, IsSeq.nil sz R W, .inl ⟨rfl, rfl⟩⟩
  · have hlm : len ≤ m := by rw [hmm]; split <;> omega
    have hex : ∀ i, i < len → ∃ b : α × List Value, b.2.length = sz ∧ (∀ j, j < sz → W.cell? (a.add (i * sz + j)) = b.2[j]?) ∧ R W b.2 b.1 ∧ Q (D i) b.1 := fun i hil => by
      obtain ⟨cs', h1, h2⟩ := hi i (by omega)
      rw [hc] at h1
      obtain ⟨b, h3, h4⟩ := hel _ _ _ h2
      obtain ⟨_, hlen, h5⟩ := World.cells?_some h1
      exact ⟨(b, cs'), hlen, fun j hj => by rw [← Go.Deep.add_add]; exact h5 j hj, h3, h4⟩
    obtain ⟨f, hF⟩ := choose_lt hex
    have hxl : ((List.range len).flatMap fun i => (f i).2).length = len * sz := by
      have : ∀ k, k ≤ len → ((List.range k).flatMap fun i => (f i).2).length = k * sz := by
        intro k
        induction k with
        | zero => intro _; simp
        | succ k ih =>
          intro hk
          rw [List.range_succ, List.flatMap_append, List.length_append, ih (by omega)]
          simp only [List.flatMap_cons, List.flatMap_nil, List.append_nil]
          rw [(hF k (by omega)).1, Nat.succ_mul]
      exact this len (Nat.le_refl _)
    have hget : ∀ i, i < len → (((List.range len).flatMap fun i => (f i).2).drop (i * sz)).take sz = (f i).2 := by
      intro i hil
      have h1 : ∀ k, k ≤ len → ((List.range k).flatMap fun i => (f i).2).length = k * sz := by
        intro k
        induction k with
        | zero => intro _; simp
        | succ k ih =>
          intro hk
          rw [List.range_succ, List.flatMap_append, List.length_append, ih (by omega)]
          simp only [List.flatMap_cons, List.flatMap_nil, List.append_nil]
          rw [(hF k (by omega)).1, Nat.succ_mul]
      have h2 : List.range len = List.range i ++ i :: (List.range (len - (i + 1))).map (· + (i + 1)) := by
        have e1 : len = (i + 1) + (len - (i + 1)) := by omega
        conv => lhs; rw [e1, List.range_add]
        rw [List.range_succ, List.append_assoc]
        simp only [List.cons_append, List.nil_append]
        congr 2
        apply List.map_congr_left
        intro q _
        omega
      rw [h2, List.flatMap_append, List.flatMap_cons, ← h1 i (by omega), List.drop_left, ← (hF i hil).1, List.take_left]
    refine ⟨_, (List.range len).map fun i => (f i).1, rfl, ⟨(List.range len).flatMap fun i => (f i).2, ?_, fun i hi' => ?_⟩, .inr ⟨_, _, rfl, by simp, fun i hi' => ?_⟩⟩
    · have hl2 : ((List.range len).map fun i => (f i).1).length = len := by simp
      rw [hl2]
      refine ⟨_, _, rfl, hxl, hl, hm, (fun h => by cases h), fun k hk => ?_⟩
      rw [hxl] at hk
      have hq : k / sz < len := (Nat.div_lt_iff_lt_mul hs).2 hk
      have hr : k % sz < sz := Nat.mod_lt _ hs
      have hkk : k / sz * sz + k % sz = k := by rw [Nat.mul_comm]; exact Nat.div_add_mod k sz
      have h1 := (hF (k / sz) hq).2.1 (k % sz) hr
      rw [hkk, ← hget (k / sz) hq, List.getElem?_take_of_lt hr, List.getElem?_drop, hkk, List.getElem?_eq_getElem (by rw [hxl]; exact hk)] at h1
      obtain ⟨b, off, spot⟩ := a
      have hspot : spot = none := by
        have := World.cell?_spot h1
        unfold Addr.add at this
        split at this
        · exact this
        · have hlen0 : 0 < len := Nat.lt_of_le_of_lt (Nat.zero_le _) hq
          have h0 := (hF 0 hlen0).2.1 0 hs
          have hl0 := (hF 0 hlen0).1
          rw [List.getElem?_eq_getElem (by rw [hl0]; exact hs)] at h0
          have := World.cell?_spot h0
          simpa [Addr.add] using this
      subst hspot
      refine ⟨b, off, rfl, ?_⟩
      rw [Addr.add_lit] at h1
      exact h1
    · have hi'' : i < len := by simpa using hi'
      rw [hget i hi'']
      simp only [List.getElem_map, List.getElem_range]
      exact (hF i hi'').2.2.1
    · have hi'' : i < len := by simpa using hi'
      refine ⟨D i, ?_, ?_⟩
      · rw [List.getElem?_map, List.getElem?_range hi'']; rfl
      · simp only [List.getElem_map, List.getElem_range]
        exact (hF i hi'').2.2.2
/-- A slice of bytes. -/
theorem trod_bytes (ht : P.underlying t = some (.slice e)) (he : P.underlying e = some (.int .u8)) (hc : P.cellsOf e = 1) (h : DataW.trod enc P W base spare held n t cs = some x) :
    ∃ v l, cs = [v] ∧ IsBytes W v l ∧ ((x.1 = .nil ∧ l = []) ∨ ∃ ds sp, x.1 = .slice ds sp ∧ ds.length = l.length) := by
  obtain ⟨v, l, h1, ⟨xs, hr, hx⟩, h3⟩ := trod_seq (α := UInt8) (R := fun _ cs b => cs = [u8v b]) (Q := fun _ _ => True) ht hc (by omega) (fun n cs x hx => by
    obtain ⟨z, rfl, -, hw⟩ := DataW.trod_int he hx
    exact ⟨UInt8.ofNat z.toNat, by rw [show u8v (UInt8.ofNat z.toNat) = .int .u8 z from congrArg (Value.int .u8) (u8_of_int hw).symm], trivial⟩) h
  refine ⟨v, l, h1, ?_, ?_⟩
  · have hl : xs.length = l.length := by obtain ⟨_, _, _, e, _⟩ := hr; omega
    have : xs = l.map u8v := by
      apply List.ext_getElem
      · simp [hl]
      · intro i h1 h2
        have := hx i (by omega)
        rw [take1 h1] at this
        simp at this
        simp [this]
    unfold IsBytes
    rw [← this]
    exact hr
  · rcases h3 with h3 | ⟨ds, sp, h4, h5, -⟩
    · exact .inl h3
    · exact .inr ⟨ds, sp, h4, h5⟩
theorem top_slice {v : Value} {d : DataW H} {ps : List MemPlace} {b0 : Nat} (h : DataW.Trod enc P W b0 spare held t v d ps) (hv : v.cells.toList = [v]) : ∃ n, DataW.trod enc P W b0 spare held n t [v] = some (d, ps) := by
  obtain ⟨n, h⟩ := h
  rw [hv] at h
  exact ⟨n, h⟩
end
end Go.Proofs.Ytihohhjaomoemaa
