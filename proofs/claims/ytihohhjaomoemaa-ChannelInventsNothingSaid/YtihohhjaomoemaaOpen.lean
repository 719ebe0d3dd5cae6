/- Opening the arguments of a statement: what the form's reading says of a value, in the words of the walks. Over whatever program. -/
import Derived.Test.YtihohhjaomoemaaMem
import Derived.ProofKit
import Derived.OpenShut
import Derived.ShutString
import Derived.ChangeOld
import Derived.Below
namespace Go.Proofs.Ytihohhjaomoemaa
open Go.ChangeShapes Go.WideShapes Go.ChangeAt Go.RowKit

theorem u32_bv {a : Int} (h : (Lit.int .u32 a).wf = true) : ∃ s : BitVec 32, a = (s.toNat : Int) := by
  have h1 : 0 ≤ a ∧ a < 4294967296 := by
    simp only [Lit.wf, IntKind.min, IntKind.max, IntKind.signed, IntKind.bits, Bool.and_eq_true] at h
    simpa using (show 0 ≤ a ∧ a < 4294967296 by have h1 := h.1; have h2 := h.2; simp at h1 h2; omega)
  refine ⟨BitVec.ofNat 32 a.toNat, ?_⟩
  rw [BitVec.toNat_ofNat]
  omega
theorem u64_bv {a : Int} (h : (Lit.int .u64 a).wf = true) : ∃ s : BitVec 64, a = (s.toNat : Int) := by
  have h1 : 0 ≤ a ∧ a < 18446744073709551616 := by
    simp only [Lit.wf, IntKind.min, IntKind.max, IntKind.signed, IntKind.bits, Bool.and_eq_true] at h
    have h1 := h.1
    have h2 := h.2
    simp at h1 h2
    omega
  refine ⟨BitVec.ofNat 64 a.toNat, ?_⟩
  rw [BitVec.toNat_ofNat]
  omega
theorem i64_range {a : Int} (h : (Lit.int .i64 a).wf = true) : -9223372036854775808 ≤ a ∧ a ≤ 9223372036854775807 := by
  simp only [Lit.wf, IntKind.min, IntKind.max, IntKind.signed, IntKind.bits, Bool.and_eq_true] at h
  have h1 := h.1
  have h2 := h.2
  simp at h1 h2
  omega
theorem u8_of_int {a : Int} (h : (Lit.int .u8 a).wf = true) : a = (((UInt8.ofNat a.toNat).toNat : Nat) : Int) := by
  have h1 : 0 ≤ a ∧ a < 256 := by
    simp only [Lit.wf, IntKind.min, IntKind.max, IntKind.signed, IntKind.bits, Bool.and_eq_true] at h
    have h1 := h.1
    have h2 := h.2
    simp at h1 h2
    omega
  rw [UInt8.toNat_ofNat']
  omega

/-- A slice of bytes that came in. -/
theorem open_bytes {H : Type} {enc : TypeId × Value → H} {P : Program} {W : World} {base b0 : Nat} {spare : Nat → Bool} {held : Bool} {t e : TypeId} {v : Value} {d : DataW H} {ps : List MemPlace} (ht : P.underlying t = some (.slice e)) (he : P.underlying e = some (.int .u8)) (hc : P.cellsOf e = 1)
    (hval : Value.okWide P W .any base t v) (h : DataW.Trod enc P W b0 spare held t v d ps) : ∃ l, IsBytes W v l := by
  obtain ⟨a, len, cap, rfl⟩ := okWide_slice ht hval
  obtain ⟨fuel, hf⟩ := h
  rcases open_ints ht he hc hf with ⟨hcs, _⟩ | ⟨x, l, c, zs, hcs, _, hl, hm, hz, _, hcell, hwz⟩
  · simp [Value.cells] at hcs
    obtain ⟨rfl, rfl, rfl⟩ := hcs
    exact ⟨[], IsBytes.none W⟩
  · simp [Value.cells] at hcs
    obtain ⟨rfl, rfl, rfl⟩ := hcs
    have hlz : len ≤ zs.length := by rw [hz]; split <;> omega
    have hlen : ((zs.take len).map fun n => UInt8.ofNat n.toNat).length = len := by simp; omega
    refine ⟨(zs.take len).map fun n => UInt8.ofNat n.toNat, ?_⟩
    unfold IsBytes
    rw [hlen]
    refine ⟨_, _, rfl, by simp; omega, hl, hm, (fun h => by cases h), fun i hi => ?_⟩
    have hi' : i < len := by simp at hi; omega
    have h1 := hcell i (by omega)
    obtain ⟨b, off, spot⟩ := x
    have hspot : spot = none := by
      have := World.cell?_spot h1
      unfold Addr.add at this
      split at this
      · exact this
      · have h0 := hcell 0 (by omega)
        have := World.cell?_spot h0
        simpa [Addr.add] using this
    subst hspot
    refine ⟨b, off, rfl, ?_⟩
    rw [Addr.add_lit] at h1
    rw [h1]
    have hg : zs.getD i 0 = zs[i]'(by omega) := by rw [List.getD_eq_getElem?_getD, List.getElem?_eq_getElem (by omega)]; rfl
    rw [hg]
    have hw := hwz (zs[i]'(by omega)) (List.getElem_mem _)
    simp only [List.getElem_map, List.getElem_take]
    exact congrArg (fun n => some (Value.int .u8 n)) (u8_of_int hw)

end Go.Proofs.Ytihohhjaomoemaa
