/- Contracts in the form that a drawn region wants. -/
import Derived.Test.YtihohhjaomoemaaRegS
import Derived.Test.YtihohhjaomoemaaApp
set_option linter.unusedVariables false
set_option linter.unusedSimpArgs false
namespace Go.Proofs.Ytihohhjaomoemaa
open Go.RowKit
section
variable {P : Program} {w0 W : World} {f : FuncId} {args : Array Value} {os : List (Nat × Obj)} {fs : List (World → Prop)} {x : List UInt8}
/-- New bytes. -/
theorem Calls.pB {E : TypeId} (h : St w0 W os fs) (hc : Calls P f args W fun e w' => ∃ v, e = .returned v ∧ OwnBytes E W.heap.size w' v x ∧ Below W.heap.size W w') :
    Calls P f args W fun e w' => ∃ v, e = .returned v ∧ St w0 w' os ((pBytes x).p v :: fs) :=
  hc.mono fun _ w' ⟨v, h1, h2, h3⟩ => by
    refine ⟨v, h1, ?_⟩
    have hs := (h.call h3).putOwn h2 h.lt
    refine hs.pop.put ((pBytes x).mono v) ?_
    have hk := hs.get 0 rfl
    obtain ⟨b, q, rfl, -⟩ := IsBytes.out hk
    exact ⟨b, q, rfl, hk⟩
theorem mask_nil (w : World) : Sub w (mask (inL (keys [])) w) := fun a v hx => by
  rw [← hx]
  exact World.cell?_of_block (mask_block _ w _ rfl)
/-- Bytes, where the caller has no blocks of its own. -/
theorem Calls.pI (h : St w0 W [] fs) (hc : Calls P f args W fun e w' => ∃ v, e = .returned v ∧ IsBytes w' v x ∧ Below W.heap.size W w') :
    Calls P f args W fun e w' => ∃ v, e = .returned v ∧ St w0 w' [] ((pBytes x).p v :: fs) :=
  hc.mono fun _ w' ⟨v, h1, h2, h3⟩ => by
    refine ⟨v, h1, (h.call h3).put ((pBytes x).mono v) ?_⟩
    obtain ⟨b, q, rfl, -⟩ := IsBytes.out h2
    exact ⟨b, q, rfl, h2.sub (mask_nil _)⟩
/-- A value. -/
theorem Calls.pV {c : Value} (h : St w0 W os fs) (hc : Calls P f args W fun e w' => e = .returned c ∧ Below W.heap.size W w') :
    Calls P f args W fun e w' => ∃ v, e = .returned v ∧ St w0 w' os ((pVal c).p v :: fs) :=
  hc.mono fun _ w' ⟨h1, h3⟩ => ⟨c, h1, (h.call h3).put ((pVal c).mono c) rfl⟩
theorem Calls.pV' {c : Value} (h : St w0 W os fs) (hc : Calls P f args W fun e w' => e = .returned c ∧ w' = W) :
    Calls P f args W fun e w' => ∃ v, e = .returned v ∧ St w0 w' os ((pVal c).p v :: fs) :=
  Calls.pV h (hc.mono fun _ _ ⟨h1, h2⟩ => ⟨h1, h2 ▸ Below.refl _ _⟩)
/-- New bytes, in a plain walk. -/
theorem Calls.sB {E : TypeId} (h : St w0 W os fs) (hc : Calls P f args W fun e w' => ∃ v, e = .returned v ∧ OwnBytes E W.heap.size w' v x ∧ Below W.heap.size W w') :
    Calls P f args W fun e w' => ∃ v, e = .returned v ∧ St w0 w' os ((IsBytes · v x) :: fs) :=
  hc.mono fun _ _ ⟨v, h1, h2, h3⟩ => ⟨v, h1, (h.call h3).putOwn h2 h.lt⟩
theorem Calls.sS {E : TypeId} {m : Nat} (h : St w0 W os fs) (hm : x.length = m) (hc : Calls P f args W fun e w' => ∃ v, e = .returned v ∧ OwnBytes E W.heap.size w' v x ∧ Below W.heap.size W w') :
    Calls P f args W fun e w' => ∃ b c, e = .returned (.slice b m c) ∧ m ≤ c ∧ St w0 w' os ((IsBytes · (.slice b m c) x) :: fs) :=
  (Calls.sB h hc).mono fun _ _ ⟨v, h1, h2⟩ => by
    obtain ⟨b, c, rfl, h3, -⟩ := (h2.is 0 rfl : IsBytes _ _ _).out
    subst hm
    exact ⟨b, c, h1, h3, h2⟩
theorem Calls.sI (h : St w0 W [] fs) (hc : Calls P f args W fun e w' => ∃ v, e = .returned v ∧ IsBytes w' v x ∧ Below W.heap.size W w') :
    Calls P f args W fun e w' => ∃ v, e = .returned v ∧ St w0 w' [] ((IsBytes · v x) :: fs) :=
  hc.mono fun _ _ ⟨v, h1, h2, h3⟩ => ⟨v, h1, (h.call h3).put (Mono.bytes _ _) (h2.sub (mask_nil _))⟩
theorem Calls.sV {c : Value} (h : St w0 W os fs) (hc : Calls P f args W fun e w' => e = .returned c ∧ Below W.heap.size W w') :
    Calls P f args W fun e w' => e = .returned c ∧ St w0 w' os fs :=
  hc.mono fun _ _ ⟨h1, h3⟩ => ⟨h1, h.call h3⟩
theorem Calls.sV' {c : Value} (h : St w0 W os fs) (hc : Calls P f args W fun e w' => e = .returned c ∧ w' = W) :
    Calls P f args W fun e w' => e = .returned c ∧ St w0 w' os fs :=
  hc.mono fun _ _ ⟨h1, h3⟩ => ⟨h1, h3 ▸ h⟩
end
end Go.Proofs.Ytihohhjaomoemaa
