/- A region that draws its order, walked by an invariant, in the words of a walk's state: what each operation yields, and the blocks of the call's own. Over whatever program. -/
import Derived.Test.YtihohhjaomoemaaReg
import Derived.Test.YtihohhjaomoemaaSt
namespace Go.Proofs.Ytihohhjaomoemaa
open Go Go.RowKit

/-- What an operation yields: a fact of a value that stays where more reads. -/
structure Pd where
  p : Value → World → Prop
  mono : ∀ v, Mono (p v)
def pAny : Pd := ⟨fun _ _ => True, fun _ _ _ _ _ => trivial⟩
def pVal (c : Value) : Pd := ⟨fun v _ => v = c, fun _ _ _ _ h => h⟩
def pBytes (l : List UInt8) : Pd := ⟨fun v w => ∃ b q, v = .slice b l.length q ∧ IsBytes w v l, fun _ _ _ h ⟨b, q, e, k⟩ => ⟨b, q, e, k.sub h⟩⟩
def pPtr : Pd := ⟨fun v _ => ∃ g, v = .pointer (some ⟨g, 0, none⟩), fun _ _ _ _ h => h⟩
def pAnd (a b : Pd) : Pd := ⟨fun v w => a.p v w ∧ b.p v w, fun v x y h k => ⟨a.mono v x y h k.1, b.mono v x y h k.2⟩⟩

def ptr : Value → Nat
  | .pointer (some a) => a.block
  | _ => 0
def boxed (T : TypeId) : Value → Obj
  | .agg cs => .cells cs T (0, 0)
  | v => .cells #[v] T (0, 0)
/-- The call's own blocks: as they were; with a new variable that is laid (ia) and stored (is) with what k yields; with a variable that is stored. -/
abbrev Osf := (Nat → Bool) → (Nat → Value) → List (Nat × Obj)
def osC (os0 : List (Nat × Obj)) : Osf := fun _ _ => os0
def osN (ia is k : Nat) (T : TypeId) (Z : Obj) (os0 : List (Nat × Obj)) : Osf := fun L V => if L ia = true then (ptr (V ia), if L is = true then boxed T (V k) else Z) :: os0 else os0
def osS (is k : Nat) (T : TypeId) (g : Nat) (old : Obj) (os1 os2 : List (Nat × Obj)) : Osf := fun L V => os1 ++ (g, if L is = true then boxed T (V k) else old) :: os2

section
variable {P : Program} {ops : Array Oper} {Q : Exit → Act → World → Prop}
def FL (Φ : List Pd) (n : Nat) (L : Nat → Bool) (V : Nat → Value) : List (World → Prop) := ((List.range n).filter L).map fun j => (Φ.getD j pAny).p (V j)
def DepAll (Φ : List Pd) (V : Nat → Value) (m : World) (ρ : Operand → Value) : List (Nat × Tmp) → ((Operand → Value) → Prop) → Prop
  | [], G => G ρ
  | (j, d) :: l, G => DepAll Φ V m ρ l fun ρ' => ∀ u, V j = u → (Φ.getD j pAny).p u m → G (ext ρ' d u)
def EndAll (Φ : List Pd) (V : Nat → Value) (m : World) : List (Nat × Tmp) → Act → (Act → Prop) → Prop
  | [], b, G => G b
  | (j, t) :: l, b, G => ∀ u, V j = u → (Φ.getD j pAny).p u m → EndAll Φ V m l (b.put (some t) u) G
theorem depAll_of {Φ : List Pd} {V : Nat → Value} {m : World} {ρ : Operand → Value} : ∀ (l : List (Nat × Tmp)) {G : (Operand → Value) → Prop}, (∀ p ∈ l, (Φ.getD p.1 pAny).p (V p.1) m) → DepAll Φ V m ρ l G → G (extD ρ V l)
  | [], _, _, h => h
  | (j, d) :: l, _, hf, h => depAll_of l (fun p hp => hf p (List.mem_cons_of_mem _ hp)) h (V j) rfl (hf (j, d) List.mem_cons_self)
theorem endAll_of {Φ : List Pd} {V : Nat → Value} {m : World} : ∀ (l : List (Nat × Tmp)) {b : Act} {G : Act → Prop}, (∀ p ∈ l, (Φ.getD p.1 pAny).p (V p.1) m) → EndAll Φ V m l b G → G (l.foldl (fun b p => b.put (some p.2) (V p.1)) b)
  | [], _, _, _, h => h
  | (j, d) :: l, _, _, hf, h => endAll_of l (fun p hp => hf p (List.mem_cons_of_mem _ hp)) (h (V j) rfl (hf (j, d) List.mem_cons_self))
/-- The slots that the region writes. -/
def slotsOf (ops : Array Oper) : Nat → List (Nat × Tmp)
  | 0 => []
  | n + 1 => slotsOf ops n ++ (match dstOf ops n with | some t => [(n, t)] | none => [])
theorem putL_end {V : Nat → Value} {a : Act} : ∀ n, putL ops (fun _ => true) V a n = (slotsOf ops n).foldl (fun b p => b.put (some p.2) (V p.1)) a
  | 0 => rfl
  | n + 1 => by
    unfold putL slotsOf
    rw [if_pos rfl, putL_end n, List.foldl_append]
    cases dstOf ops n <;> rfl
theorem slots_lt : ∀ n, ∀ p ∈ slotsOf ops n, p.1 < n
  | 0, _, h => absurd h List.not_mem_nil
  | n + 1, p, h => by
    unfold slotsOf at h
    rcases List.mem_append.1 h with h | h
    · exact Nat.lt_succ_of_lt (slots_lt n p h)
    · cases hd : dstOf ops n <;> rw [hd] at h <;> simp at h
      subst h; exact Nat.lt_succ_self _

section
variable (ops) (P) (M : List Nat) (D : List (List (Nat × Tmp))) (Φ : List Pd) (w0 : World) (os : Osf) (fs : List (World → Prop)) (a : Act)
/-- What is to be shown of one operation. -/
def Oblig (i : Nat) (o : Oper) : Prop :=
  (∀ ρ d u t, ext ρ d u (.tmp t) = if t = d then u else ρ (.tmp t)) → (∀ ρ d u v, ext ρ d u (.const v) = ρ (.const v)) → (∀ ρ d u f, ext ρ d u (.func f) = ρ (.func f)) → (∀ ρ d u g, ext ρ d u (.global g) = ρ (.global g)) →
  ∀ (L : Nat → Bool) (V : Nat → Value) (W : World), L i = false → (∀ j, maskB M i j = true → L j = true) → (∀ j, maskB M j i = true → j < ops.size → L j = false) → St w0 W (os L V) (FL Φ ops.size L V ++ fs) →
    DepAll Φ V (sm (os L V) W) a.eval (D.getD i []) fun ρ => opW P ops ρ o W fun v W' => St w0 W' (os (updB L i) (updV V i v)) ((Φ.getD i pAny).p v :: (FL Φ ops.size L V ++ fs))
def Obligs : List Oper → Nat → Prop
  | [], _ => True
  | o :: l, i => Oblig P ops M D Φ w0 os fs a i o ∧ Obligs l (i + 1)
end
variable {M : List Nat} {D : List (List (Nat × Tmp))} {Φ : List Pd} {w0 : World} {os : Osf} {fs : List (World → Prop)} {a : Act}
theorem obligs_get : ∀ (l : List Oper) (k : Nat), Obligs P ops M D Φ w0 os fs a l k → ∀ i o, l[i]? = some o → Oblig P ops M D Φ w0 os fs a (k + i) o
  | [], _, _, i, o, h => by simp at h
  | x :: l, k, h, i, o, hi => by
    cases i with
    | zero => simp at hi; subst hi; exact h.1
    | succ i =>
      have := obligs_get l (k + 1) h.2 i o (by simpa using hi)
      rwa [show k + 1 + i = k + (i + 1) by omega] at this
theorem fl_mem {n : Nat} {L : Nat → Bool} {V : Nat → Value} {j : Nat} (hj : j < n) (hl : L j = true) : (Φ.getD j pAny).p (V j) ∈ FL Φ n L V := List.mem_map.2 ⟨j, List.mem_filter.2 ⟨List.mem_range.2 hj, hl⟩, rfl⟩
theorem fl_step {n : Nat} {L : Nat → Bool} {V : Nat → Value} {i : Nat} {v : Value} {X : World → Prop} (h : X ∈ FL Φ n (updB L i) (updV V i v)) : X = (Φ.getD i pAny).p v ∨ X ∈ FL Φ n L V := by
  obtain ⟨j, hj, rfl⟩ := List.mem_map.1 h
  obtain ⟨h1, h2⟩ := List.mem_filter.1 hj
  by_cases e : j = i
  · subst e; left; rw [updV_same]
  · right; rw [updV_ne e]; rw [updB_ne e] at h2; exact fl_mem (List.mem_range.1 h1) h2

theorem wp_region_st {id : Nat} {w : World} {os0 : List (Nat × Obj)} (Φ : List Pd) (os : Osf) (n : Nat) (M : List Nat) (D : List (List (Nat × Tmp))) (E : List (Nat × Tmp)) (hm : P.follows .mixedOrders = true) (hok : okB ops n M D = true) (hE : slotsOf ops ops.size = E) (hn : a.tmps.size = n)
    (h : St w0 w os0 fs) (hos0 : ∀ L V, (∀ j, L j = false) → os L V = os0) (hos1 : ∀ L V, (∀ j, j < ops.size → L j = true) → os L V = os (fun _ => true) V)
    (hob : Obligs P ops M D Φ w0 os fs a ops.toList 0)
    (hend : ∀ V W, St w0 W (os (fun _ => true) V) fs → EndAll Φ V (sm (os (fun _ => true) V) W) E a fun b => Q .normal b W) : (Code.region id ops true).wp P Q a w := by
  have ok := ok_of hok
  refine wp_region_inv n M D (fun L V W => St w0 W (os L V) (FL Φ ops.size L V ++ fs)) hm hok hn (fun L L' V w hL hI => ?_) (fun L V hL => ?_) (fun i o hi L V W hLi hd hw hI => ?_) (fun L V W hL hI => ?_)
  · have : L = L' := funext hL
    subst this
    exact hI
  · rw [hos0 L V hL]
    have : FL Φ ops.size L V = [] := by
      unfold FL
      rw [List.map_eq_nil_iff, List.filter_eq_nil_iff]
      intro j _
      rw [hL j]
      exact Bool.false_ne_true
    rw [this]
    exact h.drew
  · have hO := obligs_get ops.toList 0 hob i o (by simpa using hi)
    rw [Nat.zero_add] at hO
    have hO' := hO (fun _ _ _ _ => rfl) (fun _ _ _ _ => rfl) (fun _ _ _ _ => rfl) (fun _ _ _ _ => rfl) L V W hLi hd hw hI
    have h2 := depAll_of (D.getD i []) (fun p hp => hI.fact _ (List.mem_append_left _ (fl_mem (dst_lt (ok.deps i o p hi hp).2) (hd _ (ok.deps i o p hi hp).1)))) hO'
    unfold opW at h2 ⊢
    have keep : ∀ v W', St w0 W' (os (updB L i) (updV V i v)) ((Φ.getD i pAny).p v :: (FL Φ ops.size L V ++ fs)) → St w0 W' (os (updB L i) (updV V i v)) (FL Φ ops.size (updB L i) (updV V i v) ++ fs) := fun v W' hs => hs.facts fun X hX => by
      rcases List.mem_append.1 hX with hX | hX
      · rcases fl_step hX with rfl | hX
        · exact List.mem_cons_self
        · exact List.mem_cons_of_mem _ (List.mem_append_left _ hX)
      · exact List.mem_cons_of_mem _ (List.mem_append_right _ hX)
    split at h2
    · rename_i hwt
      rw [if_pos hwt]
      generalize (execOp (extD a.eval V (D.getD i [])) o).run P W = r at *
      cases r with
      | halt x w' => exact h2.elim
      | ok nx w' =>
        cases nx with
        | value u => exact keep _ _ h2
        | skip => exact keep _ _ h2
        | enter f args => exact Calls.mono h2 fun e w'' ⟨v, he, hk⟩ => ⟨v, he, keep _ _ hk⟩
        | row row args => exact Rows.mono h2 fun v w'' hk => keep _ _ hk
        | _ => exact h2.elim
    · rename_i hwt
      rw [if_neg hwt]
      exact keep _ _ h2
  · rw [putL_end]
    rw [hos1 L V hL] at hI
    have hall : ∀ p ∈ slotsOf ops ops.size, (Φ.getD p.1 pAny).p (V p.1) (sm (os (fun _ => true) V) W) := fun p hp => hI.fact _ (List.mem_append_left _ (fl_mem (slots_lt _ p hp) (hL _ (slots_lt _ p hp))))
    rw [hE] at hall ⊢
    exact endAll_of E hall (hend V W (hI.facts fun X hX => List.mem_append_right _ hX))

theorem osC0 {os0 : List (Nat × Obj)} : ∀ L V, (∀ j, L j = false) → osC os0 L V = os0 := fun _ _ _ => rfl
theorem osN0 {ia is k : Nat} {T : TypeId} {Z : Obj} {os0 : List (Nat × Obj)} : ∀ L V, (∀ j, L j = false) → osN ia is k T Z os0 L V = os0 := fun L V h => by unfold osN; rw [if_neg (by rw [h]; exact Bool.false_ne_true)]
theorem osS0 {is k : Nat} {T : TypeId} {g : Nat} {old : Obj} {os1 os2 : List (Nat × Obj)} : ∀ L V, (∀ j, L j = false) → osS is k T g old os1 os2 L V = os1 ++ (g, old) :: os2 := fun L V h => by unfold osS; rw [if_neg (by rw [h]; exact Bool.false_ne_true)]
theorem osC1 {n : Nat} {os0 : List (Nat × Obj)} : ∀ L V, (∀ j, j < n → L j = true) → osC os0 L V = osC os0 (fun _ => true) V := fun _ _ _ => rfl
theorem osN1 {n ia is k : Nat} {T : TypeId} {Z : Obj} {os0 : List (Nat × Obj)} (h1 : ia < n) (h2 : is < n) : ∀ L V, (∀ j, j < n → L j = true) → osN ia is k T Z os0 L V = osN ia is k T Z os0 (fun _ => true) V := fun L V h => by unfold osN; rw [h _ h1, h _ h2]
theorem osS1 {n is k : Nat} {T : TypeId} {g : Nat} {old : Obj} {os1 os2 : List (Nat × Obj)} (h2 : is < n) : ∀ L V, (∀ j, j < n → L j = true) → osS is k T g old os1 os2 L V = osS is k T g old os1 os2 (fun _ => true) V := fun L V h => by unfold osS; rw [h _ h2]

theorem osN_mem {ia is k : Nat} {T : TypeId} {Z : Obj} {os0 : List (Nat × Obj)} {x : Nat × Obj} (h : x ∈ os0) (L : Nat → Bool) (V : Nat → Value) : x ∈ osN ia is k T Z os0 L V := by
  unfold osN
  split
  · exact List.mem_cons_of_mem _ h
  · exact h
theorem osN_end {ia is k : Nat} {T : TypeId} {Z : Obj} {os0 : List (Nat × Obj)} {V : Nat → Value} {g : Nat} {cs : Array Value} (h1 : V ia = .pointer (some ⟨g, 0, none⟩)) (h2 : V k = .agg cs) : osN ia is k T Z os0 (fun _ => true) V = (g, .cells cs T (0, 0)) :: os0 := by
  unfold osN
  rw [if_pos rfl, if_pos rfl, h1, h2]
  rfl
/-- What the store waits for may still change. -/
theorem osN_keep {ia is k i : Nat} {T : TypeId} {Z : Obj} {os0 : List (Nat × Obj)} {L : Nat → Bool} {V : Nat → Value} {v : Value} (hs : L is = false) (h1 : ia ≠ i) (h2 : is ≠ i) : osN ia is k T Z os0 (updB L i) (updV V i v) = osN ia is k T Z os0 L V := by
  unfold osN
  rw [updB_ne h1, updB_ne h2, hs, updV_ne h1, if_neg Bool.false_ne_true]
  rfl
theorem osS_keep {is k i : Nat} {T : TypeId} {g : Nat} {old : Obj} {os1 os2 : List (Nat × Obj)} {L : Nat → Bool} {V : Nat → Value} {v : Value} (hs : L is = false) (h2 : is ≠ i) : osS is k T g old os1 os2 (updB L i) (updV V i v) = osS is k T g old os1 os2 L V := by
  unfold osS
  rw [updB_ne h2, hs, if_neg Bool.false_ne_true]
  rfl
theorem osS_old {is k : Nat} {T : TypeId} {g : Nat} {old : Obj} {os1 os2 : List (Nat × Obj)} {L : Nat → Bool} {V : Nat → Value} (h : L is = false) : osS is k T g old os1 os2 L V = os1 ++ (g, old) :: os2 := by
  unfold osS
  rw [if_neg (by rw [h]; exact Bool.false_ne_true)]
theorem osS_mem {is k : Nat} {T : TypeId} {g : Nat} {old : Obj} {os1 os2 : List (Nat × Obj)} {x : Nat × Obj} (h : x ∈ os1 ++ os2) (L : Nat → Bool) (V : Nat → Value) : x ∈ osS is k T g old os1 os2 L V := by
  unfold osS
  rcases List.mem_append.1 h with h | h
  · exact List.mem_append_left _ h
  · exact List.mem_append_right _ (List.mem_cons_of_mem _ h)
theorem osS_end {is k : Nat} {T : TypeId} {g : Nat} {old : Obj} {os1 os2 : List (Nat × Obj)} {V : Nat → Value} {cs : Array Value} (h2 : V k = .agg cs) : osS is k T g old os1 os2 (fun _ => true) V = os1 ++ (g, .cells cs T (0, 0)) :: os2 := by
  unfold osS
  rw [if_pos rfl, h2]
  rfl

/-! ### One operation -/
section
variable {ρ : Operand → Value} {o : Oper} {W : World} {K : Value → World → Prop} {OS OS' : List (Nat × Obj)} {F : List (World → Prop)}
theorem ob_val {v : Value} (hg : wantE ops o ρ = true) (hr : (execOp ρ o).run P W = .ok (.value v) W) (hK : K v W) : opW P ops ρ o W K := by
  unfold opW
  rw [if_pos hg, hr]
  exact hK
theorem ob_off (hg : wantE ops o ρ = false) (hK : K undef W) : opW P ops ρ o W K := by
  unfold opW
  rw [if_neg (by rw [hg]; exact Bool.false_ne_true)]
  exact hK
theorem ob_call {f : FuncId} {args : Array Value} (hg : wantE ops o ρ = true) (hr : (execOp ρ o).run P W = .ok (.enter f args) W) (hc : Calls P f args W fun e w' => ∃ v, e = .returned v ∧ K v w') : opW P ops ρ o W K := by
  unfold opW
  rw [if_pos hg, hr]
  exact hc
theorem ob_run {n : Next} {W' : World} (hg : wantE ops o ρ = true) (hr : (execOp ρ o).run P W = .ok n W') (hK : uponW P K (.ok n W')) : opW P ops ρ o W K := by
  unfold opW
  rw [if_pos hg, hr]
  exact hK
theorem St.val (h : St w0 W OS F) (p : Pd) (v : Value) (hp : p.p v (sm OS W)) : St w0 W OS (p.p v :: F) := h.put (p.mono v) hp
theorem St.head {X : World → Prop} (p : Pd) (v : Value) (h : St w0 W OS (X :: F)) (hp : X (sm OS W) → p.p v (sm OS W)) : St w0 W OS (p.p v :: F) := h.pop.put (p.mono v) (hp (h.get 0 rfl))
/-- A value that hangs on nothing that the region's calls give. -/
theorem ob_c {c : Value} {OSv : Value → List (Nat × Obj)} (hg : wantE ops o ρ = true) (hr : (execOp ρ o).run P W = .ok (.value c) W) (h : St w0 W OS F) (hos : OSv c = OS) : opW P ops ρ o W fun v W' => St w0 W' (OSv v) ((pVal c).p v :: F) :=
  ob_val hg hr (hos ▸ h.put ((pVal c).mono c) rfl)
theorem ob_v (v : Value) {p : Pd} {OSv : Value → List (Nat × Obj)} (hg : wantE ops o ρ = true) (hr : (execOp ρ o).run P W = .ok (.value v) W) (h : St w0 W OS F) (hos : OSv v = OS) (hp : p.p v (sm OS W)) : opW P ops ρ o W fun v W' => St w0 W' (OSv v) (p.p v :: F) :=
  ob_val hg hr (hos ▸ h.put (p.mono v) hp)
theorem ob_o {OSv : Value → List (Nat × Obj)} (hg : wantE ops o ρ = false) (h : St w0 W OS F) (hos : OSv undef = OS) : opW P ops ρ o W fun v W' => St w0 W' (OSv v) ((pVal undef).p v :: F) :=
  ob_off hg (hos ▸ h.put ((pVal _).mono _) rfl)
theorem run_load_own {ty : TypeId} {x : Operand} {g : Nat} {t : TypeId} {cs : Array Value} {fr : Nat × Nat} {d : TypeDesc} (ho : o.op = .load ty x) (hx : ρ x = .pointer (some ⟨g, 0, none⟩)) (hg : W.heap[g]? = some (.cells cs t fr))
    (hu : P.underlying ty = some d) (hd : (match d with | .struct _ | .array _ _ => true | _ => false) = true) (hi : (P.info? ty).map (·.size) = some cs.size) : (execOp ρ o).run P W = .ok (.value (.agg cs)) W := by
  unfold execOp
  simp only [ho, hx, Instr.loadAt, Instr.sureAddr, Sem.run_bind, Sem.run_pure, Result.andThen_ok, run_loadVar_row W g t ty cs fr d hg hu hd hi]
theorem run_alloc_var {ty : TypeId} {z : Value} (ho : o.op = .alloc ty) (hz : (P.info? ty).bind (·.zero) = some z) : (execOp ρ o).run P W = .ok (.value (.pointer (some ⟨W.heap.size, 0, none⟩))) (W.alloc (.cells z.cells ty)) := by
  cases hq : P.info? ty with
  | none => simp [hq] at hz
  | some i =>
    have hz' : i.zero = some z := by simpa [hq] using hz
    unfold execOp
    simp only [ho, Instr.alloc, zeroValue, typeInfo, Sem.run_bind, run_program, hq, hz', Sem.run_pure, Result.andThen_ok, newVar, newRow, run_newObj_alloc]
theorem run_store_var {ty : TypeId} {x y : Operand} {g : Nat} {cells : Array Value} {t : TypeId} {old : Array Value} (ho : o.op = .store ty x y) (hx : ρ x = .pointer (some ⟨g, 0, none⟩)) (hy : ρ y = .agg cells)
    (hg : W.heap[g]? = some (.cells old t (0, 0))) (hi : (P.info? ty).map (·.size) = some cells.size) (hold : old.size = cells.size) (h1 : cells.all (·.oneCell') = true) : (execOp ρ o).run P W = .ok .skip (W.setRow g cells) := by
  unfold execOp
  simp only [ho, hx, hy, Instr.storeAt, Instr.sureAddr, Sem.run_bind, Sem.run_pure, Result.andThen_ok, run_storeVar_row W g t ty old cells hg hi hold h1]
/-- The new variable is laid. -/
theorem ob_new {i ia is k : Nat} {T : TypeId} {z : Value} {os0 : List (Nat × Obj)} {L : Nat → Bool} {V : Nat → Value} (p : Pd) (hg : wantE ops o ρ = true) (ho : o.op = .alloc T) (hz : (P.info? T).bind (·.zero) = some z) (hi : i = ia) (hne : is ≠ ia) (hL : L ia = false) (hs : L is = false)
    (hp : p = pPtr) (h : St w0 W (osN ia is k T (.cells z.cells T (0, 0)) os0 L V) F) :
    opW P ops ρ o W fun v W' => St w0 W' (osN ia is k T (.cells z.cells T (0, 0)) os0 (updB L i) (updV V i v)) (p.p v :: F) := by
  subst hi hp
  refine ob_run hg (run_alloc_var ho hz) ?_
  unfold osN at h
  rw [if_neg (by rw [hL]; exact Bool.false_ne_true)] at h
  show St w0 _ (osN i is k T _ os0 (updB L i) (updV V i (.pointer (some ⟨W.heap.size, 0, none⟩)))) _
  unfold osN
  rw [if_pos updB_same, updV_same, updB_ne hne, if_neg (by rw [hs]; exact Bool.false_ne_true)]
  exact (h.alloc _).put (pPtr.mono _) ⟨_, rfl⟩
/-- The new variable is stored. -/
theorem ob_put {i ia is k : Nat} {T : TypeId} {z : Value} {x y : Operand} {g : Nat} {cells : Array Value} {os0 : List (Nat × Obj)} {L : Nat → Bool} {V : Nat → Value} (hg : wantE ops o ρ = true) (ho : o.op = .store T x y) (hx : ρ x = .pointer (some ⟨g, 0, none⟩)) (hy : ρ y = .agg cells)
    (hVa : V ia = .pointer (some ⟨g, 0, none⟩)) (hVk : V k = .agg cells) (hi : i = is) (hne : ia ≠ is) (hnk : k ≠ is) (hL : L ia = true) (hs : L is = false) (hz : z.cells.size = cells.size) (hsz : (P.info? T).map (·.size) = some cells.size) (h1 : cells.all (·.oneCell') = true)
    (h : St w0 W (osN ia is k T (.cells z.cells T (0, 0)) os0 L V) F) :
    opW P ops ρ o W fun v W' => St w0 W' (osN ia is k T (.cells z.cells T (0, 0)) os0 (updB L i) (updV V i v)) (pAny.p v :: F) := by
  subst hi
  unfold osN at h
  rw [if_pos hL, if_neg (by rw [hs]; exact Bool.false_ne_true), hVa] at h
  refine ob_run hg (run_store_var (g := g) (t := T) (old := z.cells) ho hx hy (h.at_ 0 rfl) hsz hz h1) ?_
  show St w0 _ (osN ia i k T _ os0 (updB L i) (updV V i undef)) _
  unfold osN
  rw [updB_ne hne, if_pos hL, if_pos updB_same, updV_ne hne, updV_ne hnk, hVa, hVk]
  exact (h.setRow (os1 := [])).put (pAny.mono _) trivial
/-- A variable that stands is stored. -/
theorem ob_set {i is k : Nat} {T : TypeId} {old : Array Value} {x y : Operand} {g : Nat} {cells : Array Value} {os1 os2 : List (Nat × Obj)} {L : Nat → Bool} {V : Nat → Value} (hg : wantE ops o ρ = true) (ho : o.op = .store T x y) (hx : ρ x = .pointer (some ⟨g, 0, none⟩)) (hy : ρ y = .agg cells)
    (hVk : V k = .agg cells) (hi : i = is) (hnk : k ≠ is) (hs : L is = false) (hz : old.size = cells.size) (hsz : (P.info? T).map (·.size) = some cells.size) (h1 : cells.all (·.oneCell') = true)
    (h : St w0 W (osS is k T g (.cells old T (0, 0)) os1 os2 L V) F) :
    opW P ops ρ o W fun v W' => St w0 W' (osS is k T g (.cells old T (0, 0)) os1 os2 (updB L i) (updV V i v)) (pAny.p v :: F) := by
  subst hi
  unfold osS at h
  rw [if_neg (by rw [hs]; exact Bool.false_ne_true)] at h
  refine ob_run hg (run_store_var (g := g) (t := T) (old := old) ho hx hy (h.find (g := g) (o := .cells old T (0, 0)) (by simp)) hsz hz h1) ?_
  show St w0 _ (osS i k T g _ os1 os2 (updB L i) (updV V i undef)) _
  unfold osS
  rw [if_pos updB_same, updV_ne hnk, hVk]
  exact h.setRow.put (pAny.mono _) trivial
end
end
end Go.Proofs.Ytihohhjaomoemaa
