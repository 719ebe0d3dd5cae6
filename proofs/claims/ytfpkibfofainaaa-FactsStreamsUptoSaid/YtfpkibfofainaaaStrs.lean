/- Bytes as a string. Over whatever program. -/
import Derived.Test.YtfpkibfofainaaaMask
import Derived.Laws.BytesString
namespace Go.Proofs.Ytfpkibfofainaaa
open Go.RowKit

theorem push_all : ∀ (l : List UInt8) (s : ByteArray), (l.map fun b => ((b.toNat : Nat) : Int)).foldl (fun r n => r.push (UInt8.ofNat n.toNat)) s = ⟨s.data ++ l.toArray⟩
  | [], s => by simp
  | b :: l, s => by
    simp only [List.map_cons, List.foldl_cons]
    rw [push_all l]
    have e : UInt8.ofNat ((b.toNat : Int)).toNat = b := by simp
    rw [e]
    show ByteArray.mk ((s.data.push b) ++ l.toArray) = _
    simp
/-- string(b). -/
theorem run_str {P : Program} (w : World) (src dst e : TypeId) (hs : P.underlying src = some (.slice e)) (he : P.underlying e = some (.int .u8)) (hd : P.underlying dst = some .string) (v : Value) (l : List UInt8) (hv : IsBytes w v l) :
    (convert src dst v).run P w = .ok (.string ⟨l.toArray⟩) w := by
  obtain ⟨base, cap, rfl, h1, h2, h3, hc⟩ := hv.out
  rw [run_convert_bytes_string w src dst e base l.length cap hs he hd]
  cases base with
  | none =>
    have : l = [] := List.eq_nil_of_length_eq_zero (by have := h3 rfl; omega)
    subst this
    rfl
  | some a =>
    have hl : (loadCells a l.length).run P w = .ok ((l.map fun b => ((b.toNat : Nat) : Int)).map (Value.int .u8)).toArray w := by
      have := run_loadCells_list (P := P) (w := w) a ((l.map fun b => ((b.toNat : Nat) : Int)).map (Value.int .u8)) (fun j u hu => by
        rw [List.map_map, List.getElem?_map] at hu
        cases hq : l[j]? with
        | none => rw [hq] at hu; cases hu
        | some x =>
          rw [hq] at hu
          cases hu
          obtain ⟨hj, hx⟩ := List.getElem?_eq_some_iff.1 hq
          obtain ⟨b, off, e, hcell⟩ := hc j hj
          cases e
          rw [Addr.add_lit, hcell, hx]
          rfl)
      simpa using this
    rw [run_bytesToString w a l.length cap _ hl, push_all]
    show Result.ok (Value.string ⟨(#[] : Array UInt8) ++ l.toArray⟩) w = _
    simp
end Go.Proofs.Ytfpkibfofainaaa
