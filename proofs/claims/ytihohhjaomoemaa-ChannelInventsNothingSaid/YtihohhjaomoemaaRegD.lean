/- Small words for drawn regions (in seat s04 they stand in the text WOne). -/
import Derived.Test.YtihohhjaomoemaaRegC
namespace Go.Proofs.Ytihohhjaomoemaa
open Go.RowKit
theorem run_conv {P : Program} {ρ : Operand → Value} {o : Oper} {W : World} {src dst : TypeId} {x : Operand} {v r : Value} (ho : o.op = .convert src dst x) (hx : ρ x = v) (h : (convert src dst v).run P W = .ok r W) : (execOp ρ o).run P W = .ok (.value r) W := by
  unfold execOp
  simp only [ho, hx, Sem.run_bind, h, Result.andThen_ok, Sem.run_pure]
theorem St.base {w0 W : World} {os : List (Nat × Obj)} {fs F : List (World → Prop)} (h : St w0 W os (F ++ fs)) (i : Nat) {P : World → Prop} (hi : fs[i]? = some P) : P (sm os W) := h.fact P (List.mem_append_right _ (List.mem_of_getElem? hi))
theorem Mono.cell (a : Addr) (v : Value) : Mono (fun x => x.cell? a = some v) := fun _ _ h p => h _ _ p
end Go.Proofs.Ytihohhjaomoemaa
