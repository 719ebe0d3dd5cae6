/- A string as bytes. Over whatever program. -/
import Derived.Test.YtihohhjaomoemaaMask
import Derived.Lib.ConvBytes
namespace Go.Proofs.Ytihohhjaomoemaa
open Go.RowKit

/-- []byte(s). -/
theorem run_strBytes {P : Program} (w : World) (src dst e : TypeId) (s : ByteArray) (hs : P.underlying src = some .string) (hd : P.underlying dst = some (.slice e)) (he : P.underlying e = some (.int .u8)) (hl : s.size ≤ maxLen) :
    ∃ c w', (convert src dst (.string s)).run P w = .ok (.slice (some ⟨w.heap.size, 0, none⟩) s.size c) w' ∧ s.size ≤ c ∧ IsBytes w' (.slice (some ⟨w.heap.size, 0, none⟩) s.size c) s.data.toList ∧ Below w.heap.size w w' := by
  refine ⟨_, _, Lib.run_convert_string_bytes w src dst e s hs hd he, by simpa using grownCap_ge w s.size 0 e, ?_, ?_⟩
  · have hl2 : s.data.toList.length = s.size := by simp
    unfold IsBytes
    rw [hl2]
    refine ⟨_, _, rfl, by simp, by simpa using grownCap_ge w s.size 0 e, grownCap_le_maxLen w s.size 0 e hl, (fun h => by cases h), fun i hi => ⟨_, _, rfl, ?_⟩⟩
    have hi' : i < s.size := by simpa using hi
    rw [Nat.zero_add, Lib.bytesWorld_cell w e s i hi', List.getD_eq_getElem?_getD, List.getElem?_eq_getElem (by simpa using hi')]
    simp
  · refine ⟨?_, ?_, ?_, by rw [Lib.bytesWorld_size]; omega, fun k hk => Lib.bytesWorld_at_old w e s k hk⟩ <;> simp [Lib.bytesWorld, World.freeze, World.alloc, World.drew, -World.alloc_eq, -World.drew_eq]
end Go.Proofs.Ytihohhjaomoemaa
