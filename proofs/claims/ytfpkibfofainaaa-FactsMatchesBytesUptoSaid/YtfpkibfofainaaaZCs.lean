/- The wrap of a statement with a condition of its own, the world's shape handed to the contract. Over whatever program. -/
import Derived.Deep.DeepHandedRow
namespace Go.Proofs.Ytfpkibfofainaaa
open Go
section
variable {H : Type} {enc : TypeId × Value → H}
theorem handed_cs {a : Assume} {C : Checked} {os : Os} {f : FuncId} {fn : Func} {s : OpenSpec} {k : (H : Type) → List (DataW H) → Bool} (hk : s.cond = some k) {F : Stop.Interp} {conds : List PathCond} {apart fresh handsOn again : Bool}
    (own : ownKnob C.prog.godebug = none) (started : os.Started) (noInit : C.prog.inits.idxOf? f = none) (hfn : C.prog.funcs[f]? = some fn)
    (witness : ∃ (w : World) (tape : Tape) (i : Input), w.os = os ∧ (w.forCall tape i).Shaped C.prog ∧ i.vars = [] ∧ Input.okWide C.prog (w.forCall tape i) .any w.heap.size f i ∧
      s.pre6 enc C.prog fn conds apart (w.forCall tape i).memory i.args ∧ a.holds C.prog (lone (Frame.enter C.prog f i.args .normal) [] (w.forCall tape i)))
    (contract : ∀ (W : World) (base : Nat) (args : Array Value) (ds gs : List (DataW H)) (before : List MemPlace),
      (∀ (j : Nat) t v, fn.params[j]? = some t → args[j]? = some v → Value.okWide C.prog W .any base t v) →
      DataW.Whole enc C.prog fn.params.toList s.vars apart W args.toList ds gs before →
      conds.all (PathCond.test C.prog ⟨fn.params.toList, ds, s.bare.plain.varTypes C.prog, gs⟩) = true → k H (ds ++ gs) = true → W.ShapedOpen C.prog →
      a.holds C.prog (lone (Frame.enter C.prog f args .normal) [] W) →
      Calls C.prog f args W fun e W' => ∃ v, e = .returned v ∧ (s.at F).post enc C.prog fn apart fresh handsOn again W args v W') :
    ReturnsInHanded a C os f .any (s.pre6 enc C.prog fn conds apart) ((s.at F).post enc C.prog fn apart fresh handsOn again) := by
  have e : s.preRow enc C.prog fn conds apart [] = s.pre6 enc C.prog fn conds apart := by
    funext w args
    exact propext ⟨fun ⟨⟨x, _⟩, y⟩ => ⟨x, y⟩, fun ⟨x, y⟩ => ⟨⟨x, laidMetH_nil _ _⟩, y⟩⟩
  rw [← e] at witness ⊢
  refine returnsInHanded_of_row own started noInit hfn witness ?_
  intro W base args ds gs before h1 h2 h3 h4 _ _ h7 h8
  exact contract W base args ds gs before h1 h2 h3 (h4 k hk) h7 h8
end
end Go.Proofs.Ytfpkibfofainaaa
