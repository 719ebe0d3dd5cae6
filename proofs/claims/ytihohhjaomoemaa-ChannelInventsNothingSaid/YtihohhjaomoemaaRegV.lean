/- Regions that draw their order and store two result variables. Over whatever program. -/
import Derived.Test.YtihohhjaomoemaaRegS
import Derived.Test.YtihohhjaomoemaaRegD
set_option linter.unusedVariables false
namespace Go.Proofs.Ytihohhjaomoemaa
open Go Go.RowKit

def unb : Value → Array Value
  | .agg cs => cs
  | v => #[v]
/-- Two variables of the call's own, each stored once by what an operation yields. -/
def osT (ia ka ga ib kb gb : Nat) (Ta Tb : TypeId) (za zb : Array Value) (os : List (Nat × Obj)) : Osf := fun L V =>
  (gb, .cells (if L ib = true then unb (V kb) else zb) Tb (0, 0)) :: (ga, .cells (if L ia = true then unb (V ka) else za) Ta (0, 0)) :: os
section
variable {ia ka ga ib kb gb i n : Nat} {Ta Tb : TypeId} {za zb : Array Value} {os : List (Nat × Obj)}
theorem osT0 : ∀ L V, (∀ j, L j = false) → osT ia ka ga ib kb gb Ta Tb za zb os L V = (gb, .cells zb Tb (0, 0)) :: (ga, .cells za Ta (0, 0)) :: os := fun L V h => by unfold osT; rw [h, h, if_neg Bool.false_ne_true, if_neg Bool.false_ne_true]
theorem osT1 (h1 : ia < n) (h2 : ib < n) : ∀ L V, (∀ j, j < n → L j = true) → osT ia ka ga ib kb gb Ta Tb za zb os L V = osT ia ka ga ib kb gb Ta Tb za zb os (fun _ => true) V := fun L V h => by unfold osT; rw [h _ h1, h _ h2]
theorem osT_keep {L : Nat → Bool} {V : Nat → Value} {v : Value} (h1 : ia ≠ i) (h2 : ib ≠ i) (ha : ka ≠ i ∨ L ia = false) (hb : kb ≠ i ∨ L ib = false) : osT ia ka ga ib kb gb Ta Tb za zb os (updB L i) (updV V i v) = osT ia ka ga ib kb gb Ta Tb za zb os L V := by
  unfold osT
  rw [updB_ne h1, updB_ne h2]
  have e1 : (if L ib = true then unb (updV V i v kb) else zb) = if L ib = true then unb (V kb) else zb := by
    rcases hb with hb | hb
    · rw [updV_ne hb]
    · rw [hb, if_neg Bool.false_ne_true, if_neg Bool.false_ne_true]
  have e2 : (if L ia = true then unb (updV V i v ka) else za) = if L ia = true then unb (V ka) else za := by
    rcases ha with ha | ha
    · rw [updV_ne ha]
    · rw [ha, if_neg Bool.false_ne_true, if_neg Bool.false_ne_true]
  rw [e1, e2]
theorem osT_mem {x : Nat × Obj} (h : x ∈ os) (L : Nat → Bool) (V : Nat → Value) : x ∈ osT ia ka ga ib kb gb Ta Tb za zb os L V := List.mem_cons_of_mem _ (List.mem_cons_of_mem _ h)
theorem osT_end {V : Nat → Value} {ca cb : Array Value} (h1 : V ka = .agg ca) (h2 : V kb = .agg cb) : osT ia ka ga ib kb gb Ta Tb za zb os (fun _ => true) V = (gb, .cells cb Tb (0, 0)) :: (ga, .cells ca Ta (0, 0)) :: os := by
  unfold osT
  rw [if_pos rfl, if_pos rfl, h1, h2]
  rfl
variable {P : Program} {ops : Array Oper} {w0 W : World} {ρ : Operand → Value} {o : Oper} {L : Nat → Bool} {V : Nat → Value} {F : List (World → Prop)} {x y : Operand} {cells : Array Value}
theorem ob_putA (hg : wantE ops o ρ = true) (ho : o.op = .store Ta x y) (hx : ρ x = .pointer (some ⟨ga, 0, none⟩)) (hy : ρ y = .agg cells) (hVk : V ka = .agg cells) (hi : i = ia) (h1 : ib ≠ ia) (h2 : ka ≠ ia) (h3 : kb ≠ ia) (hL : L ia = false) (hz : za.size = cells.size) (hsz : (P.info? Ta).map (·.size) = some cells.size) (h1c : cells.all (·.oneCell') = true)
    (h : St w0 W (osT ia ka ga ib kb gb Ta Tb za zb os L V) F) : opW P ops ρ o W fun v W' => St w0 W' (osT ia ka ga ib kb gb Ta Tb za zb os (updB L i) (updV V i v)) (pAny.p v :: F) := by
  subst hi
  unfold osT at h
  rw [hL, if_neg Bool.false_ne_true] at h
  refine ob_run hg (run_store_var (g := ga) (t := Ta) (old := za) ho hx hy (h.at_ 1 rfl) hsz hz h1c) ?_
  show St w0 _ (osT _ _ _ _ _ _ _ _ _ _ _ (updB L i) (updV V i undef)) _
  unfold osT
  rw [updB_ne h1, updB_same, if_pos rfl, updV_ne h2, updV_ne h3, hVk]
  exact (h.setRow (os1 := [_])).put (pAny.mono _) trivial
theorem ob_putB (hg : wantE ops o ρ = true) (ho : o.op = .store Tb x y) (hx : ρ x = .pointer (some ⟨gb, 0, none⟩)) (hy : ρ y = .agg cells) (hVk : V kb = .agg cells) (hi : i = ib) (h1 : ia ≠ ib) (h2 : kb ≠ ib) (h3 : ka ≠ ib) (hL : L ib = false) (hz : zb.size = cells.size) (hsz : (P.info? Tb).map (·.size) = some cells.size) (h1c : cells.all (·.oneCell') = true)
    (h : St w0 W (osT ia ka ga ib kb gb Ta Tb za zb os L V) F) : opW P ops ρ o W fun v W' => St w0 W' (osT ia ka ga ib kb gb Ta Tb za zb os (updB L i) (updV V i v)) (pAny.p v :: F) := by
  subst hi
  unfold osT at h
  rw [hL, if_neg Bool.false_ne_true] at h
  refine ob_run hg (run_store_var (g := gb) (t := Tb) (old := zb) ho hx hy (h.at_ 0 rfl) hsz hz h1c) ?_
  show St w0 _ (osT _ _ _ _ _ _ _ _ _ _ _ (updB L i) (updV V i undef)) _
  unfold osT
  rw [updB_ne h1, updB_same, if_pos rfl, updV_ne h2, updV_ne h3, hVk]
  exact (h.setRow (os1 := [])).put (pAny.mono _) trivial
end
/-- Results: two variables and a slot. -/
theorem results_cct {P : Program} {fn : Func} {p q u : Tmp} {ta tb : TypeId} (h : fn.results = #[.cell p ta, .cell q tb, .tmp u]) (tmps : Array Value) (w : World) (ga gb : Nat) (Ta Tb : TypeId) (ca cb : Array Value) (fa fb : Nat × Nat) (da db : TypeDesc)
    (hp : tmps.getD p undef = .pointer (some ⟨ga, 0, none⟩)) (hga : w.heap[ga]? = some (.cells ca Ta fa)) (hua : P.underlying ta = some da) (hda : (match da with | .struct _ | .array _ _ => true | _ => false) = true) (hia : (P.info? ta).map (·.size) = some ca.size)
    (hq : tmps.getD q undef = .pointer (some ⟨gb, 0, none⟩)) (hgb : w.heap[gb]? = some (.cells cb Tb fb)) (hub : P.underlying tb = some db) (hdb : (match db with | .struct _ | .array _ _ => true | _ => false) = true) (hib : (P.info? tb).map (·.size) = some cb.size) :
    (results fn tmps).run P w = .ok (.tuple #[.agg ca, .agg cb, tmps.getD u undef]) w := by
  have h1 := run_loadVar_row w ga Ta ta ca fa da hga hua hda hia
  have h2 := run_loadVar_row w gb Tb tb cb fb db hgb hub hdb hib
  unfold results
  simp only [h]
  have hp' : tmps[p]?.getD undef = .pointer (some ⟨ga, 0, none⟩) := by simpa using hp
  have hq' : tmps[q]?.getD undef = .pointer (some ⟨gb, 0, none⟩) := by simpa using hq
  simp [hp', hq', asAddr, h1, h2]
end Go.Proofs.Ytihohhjaomoemaa
