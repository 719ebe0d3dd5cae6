/- Bytes in a block that is new: they read off whatever was there. -/
import Derived.Test.YtfpkibfofainaaaZGB
set_option linter.unusedVariables false
namespace Go.Proofs.Ytfpkibfofainaaa
open Go.RowKit

/-- Bytes that lie in blocks from B on. -/
def NewB (B : Nat) (w : World) (v : Value) (l : List UInt8) : Prop := IsBytes w v l ∧ ∀ a n c, v = .slice (some a) n c → B ≤ a.block
theorem OwnBytes.new {E B : Nat} {w : World} {v : Value} {l : List UInt8} (h : OwnBytes E B w v l) : NewB B w v l := by
  refine ⟨h.is, fun a n c e => ?_⟩
  obtain ⟨_, h2⟩ := h
  rcases h2 with ⟨hv, _⟩ | ⟨g, cap, cur, hv, hB, _⟩
  · rw [hv] at e; cases e
  · rw [hv] at e; cases e; exact hB
theorem NewB.sub {B : Nat} {w w' : World} {v : Value} {l : List UInt8} (h : NewB B w v l) (k : Sub w w') : NewB B w' v l := ⟨h.1.sub k, h.2⟩
theorem NewB.lower {B B' : Nat} {w : World} {v : Value} {l : List UInt8} (h : NewB B w v l) (k : B' ≤ B) : NewB B' w v l := ⟨h.1, fun a n c e => Nat.le_trans k (h.2 a n c e)⟩
theorem NewB.mask {B : Nat} {S : Nat → Bool} {w : World} {v : Value} {l : List UInt8} (h : NewB B w v l) (hS : ∀ k, S k = true → k < B) : IsBytes (mask S w) v l := by
  obtain ⟨h1, h2⟩ := h
  obtain ⟨base, cap, rfl, hx, hl, hm, hn, hc⟩ := h1
  refine ⟨base, cap, rfl, hx, hl, hm, hn, fun i hi => ?_⟩
  obtain ⟨b, off, rfl, hcell⟩ := hc i hi
  refine ⟨b, off, rfl, ?_⟩
  rw [World.cell?_of_block (w := w) (mask_block S w _ ?_)]
  · exact hcell
  · cases hs : S b with
    | false => rfl
    | true => have := hS _ hs; have := h2 _ _ _ rfl; simp only at this; omega
def pNew (B : Nat) (l : List UInt8) : Pd := ⟨fun v w => NewB B w v l, fun _ _ _ h k => k.sub h⟩
theorem Mono.new (B : Nat) (v : Value) (l : List UInt8) : Mono (NewB B · v l) := fun _ _ h k => k.sub h
section
variable {P : Program} {w0 W : World} {f : FuncId} {args : Array Value} {os : List (Nat × Obj)} {fs : List (World → Prop)} {x : List UInt8}
/-- New bytes, in a drawn region. -/
theorem Calls.pN (h : St w0 W os fs) (hc : Calls P f args W fun e w' => ∃ v, e = .returned v ∧ NewB W.heap.size w' v x ∧ Below W.heap.size W w') :
    Calls P f args W fun e w' => ∃ v, e = .returned v ∧ St w0 w' os ((pNew w0.heap.size x).p v :: fs) :=
  hc.mono fun _ _ ⟨v, h1, h2, h3⟩ => ⟨v, h1, (h.call h3).put ((pNew _ x).mono v) ⟨h2.mask h.ltS, fun a n c e => Nat.le_trans h.size (h2.2 a n c e)⟩⟩
theorem Calls.pO {E : TypeId} (h : St w0 W os fs) (hc : Calls P f args W fun e w' => ∃ v, e = .returned v ∧ OwnBytes E W.heap.size w' v x ∧ Below W.heap.size W w') :
    Calls P f args W fun e w' => ∃ v, e = .returned v ∧ St w0 w' os ((pNew w0.heap.size x).p v :: fs) :=
  Calls.pN h (hc.mono fun _ _ ⟨v, h1, h2, h3⟩ => ⟨v, h1, h2.new, h3⟩)
/-- New bytes, in a plain walk. -/
theorem Calls.sN (h : St w0 W os fs) (hc : Calls P f args W fun e w' => ∃ v, e = .returned v ∧ NewB W.heap.size w' v x ∧ Below W.heap.size W w') :
    Calls P f args W fun e w' => ∃ v, e = .returned v ∧ St w0 w' os ((IsBytes · v x) :: fs) :=
  hc.mono fun _ _ ⟨v, h1, h2, h3⟩ => ⟨v, h1, (h.call h3).put (Mono.bytes _ _) (h2.mask h.ltS)⟩
theorem Calls.sNS {m : Nat} (h : St w0 W os fs) (hm : x.length = m) (hc : Calls P f args W fun e w' => ∃ v, e = .returned v ∧ NewB W.heap.size w' v x ∧ Below W.heap.size W w') :
    Calls P f args W fun e w' => ∃ b c, e = .returned (.slice b m c) ∧ m ≤ c ∧ St w0 w' os ((IsBytes · (.slice b m c) x) :: fs) :=
  (Calls.sN h hc).mono fun _ _ ⟨v, h1, h2⟩ => by
    obtain ⟨b, c, rfl, h3, -⟩ := (h2.is 0 rfl : IsBytes _ _ _).out
    subst hm
    exact ⟨b, c, h1, h3, h2⟩
theorem Calls.pNB (h : St w0 W os fs) (hc : Calls P f args W fun e w' => ∃ v, e = .returned v ∧ NewB W.heap.size w' v x ∧ Below W.heap.size W w') :
    Calls P f args W fun e w' => ∃ v, e = .returned v ∧ St w0 w' os ((pBytes x).p v :: fs) :=
  hc.mono fun _ w' ⟨v, h1, h2, h3⟩ => by
    refine ⟨v, h1, (h.call h3).put ((pBytes x).mono v) ?_⟩
    have hk := h2.mask h.ltS
    obtain ⟨b, q, rfl, -⟩ := IsBytes.out hk
    exact ⟨b, q, rfl, hk⟩
end
end Go.Proofs.Ytfpkibfofainaaa
