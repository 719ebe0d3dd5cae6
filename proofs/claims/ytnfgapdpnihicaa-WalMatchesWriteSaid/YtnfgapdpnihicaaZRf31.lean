/- A range over a function whose rounds are told what they are handed. Over whatever program. -/
import Derived.RangeFuncCalls
import Derived.RangeFuncRecord
import Derived.RangeFuncSeq
import Derived.RangeFuncIn
import Derived.RangeFuncFrom
import Derived.OwnWalkIn
import Derived.Test.YtnfgapdpnihicaaZGB
set_option linter.unusedVariables false
namespace Go.Proofs.Ytnfgapdpnihicaa
open Go Go.RowKit

theorem St.putObj {w0 W : World} {g : Nat} {o o' : Obj} {os1 os2 : List (Nat × Obj)} {fs : List (World → Prop)} (h : St w0 W (os1 ++ (g, o) :: os2) fs) : St w0 (W.putObj g o') (os1 ++ (g, o') :: os2) fs := by
  have hb := h.blk (g, o) (by simp)
  have hlt : g < W.heap.size := (Array.getElem?_eq_some_iff.1 hb.2).1
  exact h.turn (Below.grown h.below (grownBy_putObj' W g o') h.size (fun k e => by cases e; exact hb.1)) (fun k _ hk => World.putObj_heap_other hk) (World.putObj_heap_same hlt)
section
variable {P : Program} {g : Operand} {ps : Array Tmp} {assign body : Code} {Q : Exit → Act → World → Prop} {a : Act} {w : World}
/-- What the record of a loop holds. -/
def recOf (fn : FuncId) (tmps : Array Value) (ps : Array Tmp) (assign body : Code) (D : Nat) (st : LoopState) (pe : Option Code) : Loop := { state := st, pending := pe, fn, tmps := tmps, params := ps, assign, body, defers := D }
/-- The statement, at an outermost loop: the one call, and how it is left. -/
theorem wp_range {gf : Nat} {lb : Array Value} (hg : a.eval g = .func (.func gf) #[] lb) (eg : ∀ args w, (callFunc gf args).run P w = .ok (.enter gf args) w)
    (h : ∀ fn, CallsIn Fence.wide 0 P gf (#[.func (.yield (w.heap.size + 1)) #[] #[]] ++ lb) ((w.alloc (.deferred (some []))).alloc (.loop (recOf fn a.tmps ps assign body w.heap.size .ready none))) fun e w3 => (∃ v, e = .returned v) ∧
      ((w3.heap[w.heap.size + 1]? = some (.loop (recOf fn a.tmps ps assign body w.heap.size .ready none)) ∧ Q .normal { a with defers := { target := .collected w.heap.size, args := #[] } :: a.defers } (w3.putObj (w.heap.size + 1) (.loop (recOf fn a.tmps ps assign body w.heap.size .exhausted none)))) ∨
       (w3.heap[w.heap.size + 1]? = some (.loop (recOf fn a.tmps ps assign body w.heap.size .done (some .ret))) ∧ Code.ret.wp P Q { a with defers := { target := .collected w.heap.size, args := #[] } :: a.defers } (w3.putObj (w.heap.size + 1) (.loop (recOf fn a.tmps ps assign body w.heap.size .exhausted (some .ret))))))) :
    (Code.rangeFunc g ps assign body).wp P Q a w := by
  apply (wpIn_wide (n := 0)).1
  apply wpIn_rangeFunc
  intro fn hfn
  have hc := h fn
  have e1 : (Instr.enterLoop fn a.tmps ps assign body Fence.wide.round).run P w = .ok (w.heap.size + 1, [{ target := .collected w.heap.size, args := #[] }]) ((w.alloc (.deferred (some []))).alloc (.loop (recOf fn a.tmps ps assign body w.heap.size .ready none))) := run_enterLoop_outer fn a.tmps ps assign body
  obtain ⟨W1, hW1⟩ : ∃ W1, ((w.alloc (.deferred (some []))).alloc (.loop (recOf fn a.tmps ps assign body w.heap.size .ready none))) = W1 := ⟨_, rfl⟩
  rw [hW1] at e1 hc
  refine ⟨w.heap.size + 1, [{ target := .collected w.heap.size, args := #[] }], W1, { target := .fn (.func gf) lb, args := #[.func (.yield (w.heap.size + 1)) #[] #[]] }, W1, gf, #[.func (.yield (w.heap.size + 1)) #[] #[]] ++ lb, W1, e1, ?_, ?_, ?_, ?_, ?_⟩
  · simp only [resolve, hg]
    simp [go_sem]
  · intro f' hf'
    exact trivial
  · simp [invoke, go_sem, eg]
  · intro hd
    exact absurd hd (by decide)
  · refine hc.mono ?_
    rintro e w3 ⟨⟨v, rfl⟩, ⟨h1, h2⟩ | ⟨h1, h2⟩⟩
    · exact ⟨none, _, run_endLoop h1 (by simp [recOf]), h2⟩
    · exact ⟨some .ret, _, run_endLoop h1 (by simp [recOf]), (wpIn_wide (n := 0)).2 h2⟩
/-- One round: the loop's variables are assigned, the body runs and goes on or returns. -/
theorem round_told {l D : Nat} {fn : FuncId} {tmps : Array Value} {args : Array Value} {R : Ending → World → Prop} {rc : LoopState → Option Code → Loop} (hrc : recOf fn tmps ps assign body D = rc) (hl : w.heap[l]? = some (.loop (rc .ready none))) (hs : args.size = ps.size)
    (h : assign.wpIn (Fence.wide.inRound l) 0 P (Exit.then (fun a₁ w₁ => w₁.heap[l]? = some (.loop (rc .ready none)) ∧ body.wpIn (Fence.wide.inRound l) 0 P (fun e _ w₂ => w₂.heap[l]? = some (.loop (rc .busy none)) ∧
        ((e = .normal ∧ R (.returned (.bool true)) (w₂.putObj l (.loop (rc .ready none)))) ∨ (e = .ret ∧ R (.returned (.bool false)) (w₂.putObj l (.loop (rc .done (some .ret))))))) a₁ (w₁.putObj l (.loop (rc .busy none)))) (fun _ _ _ => False))
      { tmps := (ps.zip args).foldl (fun t (p, v) => t.setIfInBounds p v) tmps, defers := [] } w) : YieldAt Fence.wide 0 P l args w R := by
  subst hrc
  refine ⟨fn, _, assign, body, run_yield hl hs, roundIn_of_wpIn trivial (wpIn_mono h ?_)⟩
  rintro e a₁ w₁ he
  cases e with
  | normal =>
    obtain ⟨h1, h2⟩ := he
    refine ⟨_, run_beginRound h1 rfl, wpIn_mono h2 ?_⟩
    rintro e2 a2 w2 ⟨h3, ⟨rfl, h4⟩ | ⟨rfl, h4⟩⟩
    · exact ⟨_, _, run_endRound none h3, h4⟩
    · exact ⟨_, _, run_endRound (some .ret) h3, h4⟩
  | exit id => exact he.elim
  | goto t => exact he.elim
  | ret => exact he.elim
  | panic chain => exact he.elim
  | outgrown => exact he.elim
end
/-- append to a slice of the call's own, in a round. -/
theorem wpListIn_append_any' {F : Fence} {nn : Nat} {P : Program} {w : World} {ops : Array Oper} {rest : List Oper} {o : Oper} {a : Act} {Q : Exit → Act → World → Prop} (hg : o.guard = none) (s x : Operand) (t t2 : TypeId)
    (ho : o.op = .call { callee := .builtin .append, args := #[s, x], argTypes := #[t, t2] })
    (base : Nat) (e : TypeId) (z : Value) (size bytes : Nat) (ht : P.underlying t = some (.slice e)) (hinfo : (P.info? e).map (fun i => (i.zero, i.size, i.bytes)) = some (some z, size, bytes)) (hzs : z.cells.size = size)
    (v : Value) (n : Nat) (xs : List Value) (hs : a.eval s = v) (hown : w.ownsRow base e size v n xs) (u : Value) (m : Nat) (news : List Value) (hx : a.eval x = u) (hsrc : Src P size w t2 u m news)
    (hbytes : (n + m) * bytes ≤ 140737488355328) (h63 : n + m ≤ maxLen) (hbase : base ≤ w.heap.size)
    (h : ∀ v' w', w'.ownsRow base e size v' (n + m) (xs ++ news) → w.grownBy w' v.ownBlock → (v'.ownBlock = v.ownBlock ∨ ∃ k, w.heap.size ≤ k ∧ v'.ownBlock = some k) → wpListIn F nn P ops Q rest (a.put o.dst v') w') : wpListIn F nn P ops Q (o :: rest) a w := by
  obtain ⟨v', w', hr, h2, h3, h4⟩ := run_append_any' (w := w) base t o.type t2 e z size bytes ht hinfo hzs v n xs hown u m news hsrc hbytes h63 hbase
  refine wpListIn_plain hg fun K hK => ?_
  unfold Oper.wpIn
  refine ⟨?_, ?_⟩
  · simp [Oper.about, ho, resolve, Target.leads, Sem.run_pure]
  · rw [Oper.semAt_plain F _ _ (by rw [ho]; intro c hc'; cases hc')]
    simp [execOp, ho, resolve, invoke, builtin, hs, hx, hr, Result.andThen]
    exact hK _ _ (h v' w' h2 h3 h4)
end Go.Proofs.Ytnfgapdpnihicaa
