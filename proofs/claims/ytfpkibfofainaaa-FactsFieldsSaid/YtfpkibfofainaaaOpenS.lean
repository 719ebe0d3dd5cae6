/- Opening the arguments of a statement together with the form's reach. -/
import Derived.Test.YtfpkibfofainaaaOpen
import Derived.SizedLaws
namespace Go.Proofs.Ytfpkibfofainaaa
open Go.ChangeShapes Go.WideShapes Go.ChangeAt Go.RowKit

/-- Every string and slice that is read takes at most so many bytes. -/
def Sized {H : Type} (P : Program) (ts : List TypeId) (ds : List (DataW H)) : Prop := (DataW.weightsEach P ts ds).all (fun x => decide (x ≤ reachBytes)) = true
theorem open_bytes_sized {H : Type} {enc : TypeId × Value → H} {P : Program} {W : World} {base b0 : Nat} {spare : Nat → Bool} {held : Bool} {t e : TypeId} {v : Value} {d : DataW H} {ps : List MemPlace} (ht : P.underlying t = some (.slice e)) (he : P.underlying e = some (.int .u8)) (hc : P.cellsOf e = 1) (hb : P.bytesOf e = 1)
    (hval : Value.okWide P W .any base t v) (h : DataW.Trod enc P W b0 spare held t v d ps) : ∃ l, IsBytes W v l ∧ ∀ {ts : List TypeId} {ds : List (DataW H)} {j : Nat}, Sized P ts ds → ts[j]? = some t → ds[j]? = some d → l.length ≤ 140737488351232 := by
  obtain ⟨l, hl⟩ := open_bytes ht he hc hval h
  refine ⟨l, hl, fun {ts ds j} hs h1 h2 => ?_⟩
  obtain ⟨base, cap, rfl, -⟩ := hl.out
  obtain ⟨fuel, hf⟩ := h
  rcases open_ints ht he hc hf with ⟨hcs, _⟩ | ⟨x, l', c, zs, hcs, _, h3, hm, hz, hx, _⟩
  · simp [Value.cells] at hcs
    have hz : l.length = 0 := by rw [hcs.2.1]; rfl
    omega
  · simp [Value.cells] at hcs
    have hll := hcs.2.1
    simp only [Prod.mk.injEq] at hx
    rw [hx.1] at h2
    have h4 := sized_slice hs h1 h2 ht
    rw [hb, Nat.mul_one] at h4
    have h5 : (lits (H := H) .u8 (zs.take l')).length = l' := by
      have : l' ≤ zs.length := by rw [hz]; split <;> omega
      simp [lits]
      omega
    unfold reachBytes at h4
    omega
theorem string_sized {H : Type} {P : Program} {ts : List TypeId} {ds : List (DataW H)} {s : ByteArray} {j : Nat} {t : TypeId} (hs : Sized P ts ds) (h1 : ts[j]? = some t) (h2 : ds[j]? = some (.lit (.string s.data.toList))) : s.size ≤ 140737488351232 := by
  have := sized_string hs h1 h2
  unfold reachBytes at this
  simpa using this
end Go.Proofs.Ytfpkibfofainaaa
