/- A slice that reads as a list, whatever its elements: each takes sz cells, which read as the element. Over whatever program. -/
import Derived.Test.YtihohhjaomoemaaMask
namespace Go.Proofs.Ytihohhjaomoemaa
open Go.RowKit

/-- What cells read as. -/
abbrev Rd (α : Type) := World → List Value → α → Prop
def Rd.Up {α : Type} (R : Rd α) : Prop := ∀ w w' cs a, Sub w w' → R w cs a → R w' cs a
/-- A slice value that reads as a list. -/
def IsSeq {α : Type} (sz : Nat) (R : Rd α) (w : World) (v : Value) (l : List α) : Prop :=
  ∃ xs, IsRow sz w v l.length xs ∧ ∀ i (h : i < l.length), R w ((xs.drop (i * sz)).take sz) l[i]

section
variable {α : Type} {sz : Nat} {R : Rd α} {w w' : World} {v : Value} {l : List α}
theorem IsSeq.sub (hR : R.Up) (h : IsSeq sz R w v l) (k : Sub w w') : IsSeq sz R w' v l := by
  obtain ⟨xs, h1, h2⟩ := h
  exact ⟨xs, h1.sub k, fun i hi => hR _ _ _ _ k (h2 i hi)⟩
theorem IsSeq.below (hR : R.Up) {B : Nat} (h : IsSeq sz R w v l) (hb : Below B w w') (hB : B = w.heap.size) : IsSeq sz R w' v l := h.sub hR (Sub.below hb hB)
theorem IsSeq.nil (sz : Nat) (R : Rd α) (w : World) : IsSeq sz R w (.slice none 0 0) [] := ⟨[], IsRow.nil sz w, fun i h => absurd h (by simp)⟩
theorem IsSeq.shape (h : IsSeq sz R w v l) : ∃ base cap, v = .slice base l.length cap ∧ l.length ≤ cap ∧ cap ≤ maxLen ∧ (base = none → cap = 0) := by
  obtain ⟨xs, ⟨base, cap, h1, h2, h3, h4, h5, _⟩, _⟩ := h
  exact ⟨base, cap, h1, h3, h4, h5⟩
/-- An element's cells. -/
theorem IsSeq.at_ {base : Option Addr} {n cap : Nat} (h : IsSeq sz R w (.slice base n cap) l) (hs : 0 < sz) (i : Nat) (hi : i < l.length) :
    ∃ b off cs, base = some ⟨b, off, none⟩ ∧ cs.length = sz ∧ (∀ j (hj : j < sz), w.cell? ⟨b, off + (i * sz + j), none⟩ = cs[j]?) ∧ R w cs l[i] := by
  obtain ⟨xs, ⟨base', cap', e, h2, h3, h4, h5, hc⟩, hR⟩ := h
  cases e
  have hlt : i * sz + sz ≤ xs.length := by
    rw [h2, ← Nat.succ_mul]
    exact Nat.mul_le_mul_right _ hi
  obtain ⟨b, off, rfl, -⟩ := hc (i * sz) (by omega)
  refine ⟨b, off, _, rfl, ?_, fun j hj => ?_, hR i hi⟩
  · rw [List.length_take, List.length_drop]; omega
  · obtain ⟨b', off', e, hx⟩ := hc (i * sz + j) (by omega)
    cases e
    rw [hx, List.getElem?_take_of_lt hj, List.getElem?_drop, List.getElem?_eq_getElem (by omega)]
theorem Mono.seq (hR : R.Up) (v : Value) (l : List α) : ∀ a b, Sub a b → IsSeq sz R a v l → IsSeq sz R b v l := fun _ _ h p => p.sub hR h

/-- Byte slices. -/
def rdBytes : Rd (List UInt8) := fun w cs l => ∃ u, cs = [u] ∧ IsBytes w u l
theorem rdBytes_up : rdBytes.Up := fun _ _ _ _ k ⟨u, h1, h2⟩ => ⟨u, h1, h2.sub k⟩
theorem take1 {xs : List Value} {i : Nat} (h : i < xs.length) : (xs.drop (i * 1)).take 1 = [xs[i]] := by
  rw [Nat.mul_one, List.drop_eq_getElem_cons h, List.take_succ_cons, List.take_zero]
theorem IsSeq.lists {ll : List (List UInt8)} (h : IsSeq 1 rdBytes w v ll) : IsLists w v ll := by
  obtain ⟨xs, h1, h2⟩ := h
  have hx : xs.length = ll.length := by obtain ⟨_, _, _, hx, _⟩ := h1; omega
  refine ⟨xs, h1, fun i hi => ?_⟩
  obtain ⟨u, h3, h4⟩ := h2 i hi
  rw [take1 (by omega)] at h3
  refine ⟨u, ?_, h4⟩
  rw [List.getElem?_eq_getElem (by omega)]
  simp at h3
  rw [h3]
end
end Go.Proofs.Ytihohhjaomoemaa
