/- A region that draws its order and appends to a slice of its own making. Over whatever program. -/
import Derived.Test.YtihohhjaomoemaaRegS
import Derived.Test.YtihohhjaomoemaaApp
set_option linter.unusedVariables false
namespace Go.Proofs.Ytihohhjaomoemaa
open Go Go.RowKit

theorem St.perm {w0 W : World} {os os' : List (Nat × Obj)} {fs : List (World → Prop)} (h : St w0 W os fs) (hp : os.Perm os') : St w0 W os' fs := by
  have hk : (keys os).Perm (keys os') := hp.map _
  have hS : inL (keys os) = inL (keys os') := funext fun k => by
    unfold inL
    rw [decide_eq_decide]
    exact hk.mem_iff
  refine ⟨h.below, hk.nodup_iff.1 h.nodup, fun p hm => h.blk p (hp.mem_iff.2 hm), h.mono, fun P hP => ?_⟩
  have := h.fact P hP
  unfold sm at this ⊢
  rwa [← hS]
/-- A slice that the call owns, and its block, apart from the world. -/
def OwnP (E sz : Nat) (v : Value) (n : Nat) (xs : List Value) (oo : List (Nat × Obj)) : Prop :=
  xs.length = n * sz ∧ ((v = .slice none 0 0 ∧ n = 0 ∧ oo = []) ∨ ∃ g cap cur, v = .slice (some ⟨g, 0, none⟩) n cap ∧ oo = [(g, .cells cur E (0, 0))] ∧ n ≤ cap ∧ cap ≤ maxLen ∧ cur.size = cap * sz ∧ cur.toList.take (n * sz) = xs)
theorem OwnP.owns {E sz n : Nat} {v : Value} {xs : List Value} {oo os : List (Nat × Obj)} {w0 W : World} {fs : List (World → Prop)} (h : OwnP E sz v n xs oo) (hs : St w0 W (oo ++ os) fs) : W.ownsRow w0.heap.size E sz v n xs := by
  obtain ⟨h1, h2⟩ := h
  refine ⟨h1, ?_⟩
  rcases h2 with ⟨a, b, _⟩ | ⟨g, cap, cur, a, rfl, b, c, d, e⟩
  · exact .inl ⟨a, b⟩
  · have := hs.blk (g, .cells cur E (0, 0)) (by simp)
    exact .inr ⟨g, cap, cur, a, this.1, this.2, b, c, d, e⟩
theorem OwnP.append {E sz n m : Nat} {v v' : Value} {xs ys : List Value} {oo os : List (Nat × Obj)} {w0 W W' : World} {fs : List (World → Prop)} (h : OwnP E sz v n xs oo) (hs : St w0 W (oo ++ os) fs) (hr : W'.ownsRow w0.heap.size E sz v' m ys) (hg : W.grownBy W' v.ownBlock) (hb : v'.ownBlock = v.ownBlock ∨ ∃ k, W.heap.size ≤ k ∧ v'.ownBlock = some k) :
    ∃ oo', OwnP E sz v' m ys oo' ∧ St w0 W' (oo' ++ os) fs := by
  obtain ⟨h1, h2⟩ := h
  obtain ⟨r1, r2⟩ := hr
  rcases h2 with ⟨rfl, rfl, rfl⟩ | ⟨g, cap, cur, rfl, rfl, -⟩
  · have hB : Below W.heap.size W W' := ⟨hg.os, hg.tape, hg.output, hg.size, fun k hk => hg.block k hk (fun e => by cases e)⟩
    rcases r2 with ⟨a, b⟩ | ⟨g, cap, cur, rfl, c, d, e⟩
    · exact ⟨[], ⟨r1, .inl ⟨a, b, rfl⟩⟩, hs.call hB⟩
    · rcases hb with hb | ⟨k, hk, hb⟩
      · cases hb
      · have : g = k := by cases hb; rfl
        subst this
        exact ⟨[(g, .cells cur E (0, 0))], ⟨r1, .inr ⟨g, cap, cur, rfl, rfl, e⟩⟩, hs.grow hB hk d⟩
  · rcases r2 with ⟨a, b⟩ | ⟨g', cap', cur', rfl, c, d, e⟩
    · subst a
      rcases hb with hb | ⟨k, hk, hb⟩ <;> cases hb
    · refine ⟨[(g', .cells cur' E (0, 0))], ⟨r1, .inr ⟨g', cap', cur', rfl, rfl, e⟩⟩, St.regrow (os1 := []) hs hg ?_ d⟩
      rcases hb with hb | ⟨k, hk, hb⟩
      · left; cases hb; rfl
      · right; cases hb; exact hk
/-- It is let go: a slice that reads. -/
theorem OwnP.done {E sz n : Nat} {v : Value} {xs : List Value} {oo os : List (Nat × Obj)} {w0 W : World} {fs : List (World → Prop)} (h : OwnP E sz v n xs oo) (hs : St w0 W (oo ++ os) fs) : St w0 W os ((IsRow sz · v n xs) :: fs) := by
  have ho := h.owns hs
  have h' := h
  obtain ⟨-, h2⟩ := h'
  have hrow := ownsRow_isRow ho
  rcases h2 with ⟨rfl, rfl, rfl⟩ | ⟨g, cap, cur, rfl, rfl, -⟩
  · exact hs.put (Mono.row sz _ _ _) (mask_row hrow fun k hk => by cases hk)
  · refine (St.loose (os1 := []) hs).put (Mono.row sz _ _ _) (mask_row hrow fun k hk => ?_)
    have : g = k := by cases hk; rfl
    subst this
    rw [inL_no]
    have := hs.nodup
    simp only [keys, List.map_cons, List.singleton_append, List.nodup_cons] at this
    exact this.1
theorem OwnP.fresh {E sz : Nat} {os : List (Nat × Obj)} {w0 W : World} {fs : List (World → Prop)} (hs : St w0 W os fs) : OwnP E sz (.slice (some ⟨W.heap.size, 0, none⟩) 0 0) 0 [] [(W.heap.size, .cells #[] E (0, 0))] ∧ St w0 (W.alloc (.cells #[] E (0, 0))) ([(W.heap.size, .cells #[] E (0, 0))] ++ os) fs :=
  ⟨⟨by simp, .inr ⟨_, 0, #[], rfl, rfl, Nat.le_refl _, Nat.zero_le _, by simp, by simp⟩⟩, hs.alloc _⟩

theorem osN_perm {ia is k : Nat} {T : TypeId} {Z : Obj} {os0 : List (Nat × Obj)} (oo : List (Nat × Obj)) (L : Nat → Bool) (V : Nat → Value) : (osN ia is k T Z (os0 ++ oo) L V).Perm (oo ++ osN ia is k T Z (os0 ++ []) L V) := by
  unfold osN
  rw [List.append_nil]
  split
  · exact (List.Perm.cons _ List.perm_append_comm).trans List.perm_middle.symm
  · exact List.perm_append_comm
theorem osC_perm {os0 : List (Nat × Obj)} (oo : List (Nat × Obj)) (L : Nat → Bool) (V : Nat → Value) : (osC (os0 ++ oo) L V).Perm (oo ++ osC (os0 ++ []) L V) := by
  unfold osC
  rw [List.append_nil]
  exact List.perm_append_comm

section
variable {P : Program} {ops : Array Oper} {Q : Exit → Act → World → Prop}
theorem opW_mono {ρ : Operand → Value} {o : Oper} {W : World} {K K' : Value → World → Prop} (h : opW P ops ρ o W K) (hk : ∀ v W', K v W' → K' v W') : opW P ops ρ o W K' := by
  unfold opW at h ⊢
  split
  · rename_i hw
    rw [if_pos hw] at h
    generalize (execOp ρ o).run P W = r at *
    cases r with
    | halt x w' => exact h.elim
    | ok nx w' =>
      cases nx with
      | value u => exact hk _ _ h
      | skip => exact hk _ _ h
      | enter f args => exact Calls.mono h fun e w'' ⟨v, he, h⟩ => ⟨v, he, hk _ _ h⟩
      | row row args => exact Rows.mono h fun v w'' h => hk _ _ h
      | _ => exact h.elim
  · rename_i hw
    rw [if_neg hw] at h
    exact hk _ _ h
/-- The slice that is being made. -/
abbrev Ownf := (Nat → Bool) → (Nat → Value) → List (Nat × Obj) → Prop
section
variable (ops) (P) (M : List Nat) (D : List (List (Nat × Tmp))) (Φ : List Pd) (w0 : World) (os : List (Nat × Obj) → Osf) (ow : Ownf) (fs : List (World → Prop)) (a : Act)
def ObligO (i : Nat) (o : Oper) : Prop :=
  (∀ ρ d u t, ext ρ d u (.tmp t) = if t = d then u else ρ (.tmp t)) → (∀ ρ d u v, ext ρ d u (.const v) = ρ (.const v)) → (∀ ρ d u f, ext ρ d u (.func f) = ρ (.func f)) → (∀ ρ d u g, ext ρ d u (.global g) = ρ (.global g)) →
  ∀ (L : Nat → Bool) (V : Nat → Value) (W : World), L i = false → (∀ j, maskB M i j = true → L j = true) → (∀ j, maskB M j i = true → j < ops.size → L j = false) → ∀ oo, ow L V oo → St w0 W (os oo L V) (FL Φ ops.size L V ++ fs) →
    DepAll Φ V (sm (os oo L V) W) a.eval (D.getD i []) fun ρ => opW P ops ρ o W fun v W' => ∃ oo', ow (updB L i) (updV V i v) oo' ∧ St w0 W' (os oo' (updB L i) (updV V i v)) ((Φ.getD i pAny).p v :: (FL Φ ops.size L V ++ fs))
def ObligsO : List Oper → Nat → Prop
  | [], _ => True
  | o :: l, i => ObligO P ops M D Φ w0 os ow fs a i o ∧ ObligsO l (i + 1)
end
variable {M : List Nat} {D : List (List (Nat × Tmp))} {Φ : List Pd} {w0 : World} {os : List (Nat × Obj) → Osf} {ow : Ownf} {fs : List (World → Prop)} {a : Act}
theorem obligsO_get : ∀ (l : List Oper) (k : Nat), ObligsO P ops M D Φ w0 os ow fs a l k → ∀ i o, l[i]? = some o → ObligO P ops M D Φ w0 os ow fs a (k + i) o
  | [], _, _, i, o, h => by simp at h
  | x :: l, k, h, i, o, hi => by
    cases i with
    | zero => simp at hi; subst hi; exact h.1
    | succ i =>
      have := obligsO_get l (k + 1) h.2 i o (by simpa using hi)
      rwa [show k + 1 + i = k + (i + 1) by omega] at this

theorem wp_region_sto {id : Nat} {w : World} {os0 : List (Nat × Obj)} (Φ : List Pd) (os : List (Nat × Obj) → Osf) (ow : Ownf) (n : Nat) (M : List Nat) (D : List (List (Nat × Tmp))) (E : List (Nat × Tmp)) (hm : P.follows .mixedOrders = true) (hok : okB ops n M D = true) (hE : slotsOf ops ops.size = E) (hn : a.tmps.size = n)
    (h : St w0 w os0 fs) (how0 : ∀ L V, (∀ j, L j = false) → ow L V []) (hos0 : ∀ L V, (∀ j, L j = false) → os [] L V = os0) (how1 : ∀ L V oo, (∀ j, j < ops.size → L j = true) → ow L V oo → oo = []) (hos1 : ∀ L V, (∀ j, j < ops.size → L j = true) → os [] L V = os [] (fun _ => true) V)
    (hob : ObligsO P ops M D Φ w0 os ow fs a ops.toList 0)
    (hend : ∀ V W, St w0 W (os [] (fun _ => true) V) fs → EndAll Φ V (sm (os [] (fun _ => true) V) W) E a fun b => Q .normal b W) : (Code.region id ops true).wp P Q a w := by
  have ok := ok_of hok
  refine wp_region_inv n M D (fun L V W => ∃ oo, ow L V oo ∧ St w0 W (os oo L V) (FL Φ ops.size L V ++ fs)) hm hok hn (fun L L' V w hL hI => ?_) (fun L V hL => ?_) (fun i o hi L V W hLi hd hw hI => ?_) (fun L V W hL hI => ?_)
  · have : L = L' := funext hL
    subst this
    exact hI
  · refine ⟨[], how0 L V hL, ?_⟩
    rw [hos0 L V hL]
    have : FL Φ ops.size L V = [] := by
      unfold FL
      rw [List.map_eq_nil_iff, List.filter_eq_nil_iff]
      intro j _
      rw [hL j]
      exact Bool.false_ne_true
    rw [this]
    exact h.drew
  · obtain ⟨oo, hoo, hI⟩ := hI
    have hO := obligsO_get ops.toList 0 hob i o (by simpa using hi)
    rw [Nat.zero_add] at hO
    have hO' := hO (fun _ _ _ _ => rfl) (fun _ _ _ _ => rfl) (fun _ _ _ _ => rfl) (fun _ _ _ _ => rfl) L V W hLi hd hw oo hoo hI
    have h2 := depAll_of (D.getD i []) (fun p hp => hI.fact _ (List.mem_append_left _ (fl_mem (dst_lt (ok.deps i o p hi hp).2) (hd _ (ok.deps i o p hi hp).1)))) hO'
    refine opW_mono h2 fun v W' ⟨oo', h3, hs⟩ => ⟨oo', h3, hs.facts fun X hX => ?_⟩
    rcases List.mem_append.1 hX with hX | hX
    · rcases fl_step hX with rfl | hX
      · exact List.mem_cons_self
      · exact List.mem_cons_of_mem _ (List.mem_append_left _ hX)
    · exact List.mem_cons_of_mem _ (List.mem_append_right _ hX)
  · obtain ⟨oo, hoo, hI⟩ := hI
    obtain rfl := how1 L V oo hL hoo
    rw [putL_end]
    rw [hos1 L V hL] at hI
    have hall : ∀ p ∈ slotsOf ops ops.size, (Φ.getD p.1 pAny).p (V p.1) (sm (os [] (fun _ => true) V) W) := fun p hp => hI.fact _ (List.mem_append_left _ (fl_mem (slots_lt _ p hp) (hL _ (slots_lt _ p hp))))
    rw [hE] at hall ⊢
    exact endAll_of E hall (hend V W (hI.facts fun X hX => List.mem_append_right _ hX))

variable {ρ : Operand → Value} {o : Oper} {W : World}
/-- []T{}. -/
theorem run_build_none {t e : TypeId} (ho : o.op = .buildSlice t 0 #[]) (hu : P.underlying t = some (.slice e)) (hz : ((P.info? e).bind (·.zero)).isSome = true) : (execOp ρ o).run P W = .ok (.value (.slice (some ⟨W.heap.size, 0, none⟩) 0 0)) (W.alloc (.cells #[] e (0, 0))) := by
  cases hq : P.info? e with
  | none => simp [hq] at hz
  | some i =>
    cases hz' : i.zero with
    | none => simp [hq, hz'] at hz
    | some z => simp [execOp, ho, Instr.buildSlice, run_underlying hu, sizeOf, typeInfo, hq, newRow, Instr.fill, show Array.range 0 = #[] from by simp [Array.range]]
/-- append, to a slice of the region's making. -/
theorem run_append_op (s x : Operand) (t t2 : TypeId) (ho : o.op = .call { callee := .builtin .append, args := #[s, x], argTypes := #[t, t2] })
    (base : Nat) (e : TypeId) (z : Value) (size bytes : Nat) (ht : P.underlying t = some (.slice e)) (hinfo : (P.info? e).map (fun i => (i.zero, i.size, i.bytes)) = some (some z, size, bytes)) (hzs : z.cells.size = size)
    (v : Value) (n : Nat) (xs : List Value) (hs : ρ s = v) (hown : W.ownsRow base e size v n xs) (u : Value) (m : Nat) (news : List Value) (hx : ρ x = u) (hsrc : Src P size W t2 u m news)
    (hbytes : (n + m) * bytes ≤ 140737488355328) (h63 : n + m ≤ maxLen) (hbase : base ≤ W.heap.size) :
    ∃ v' w', (execOp ρ o).run P W = .ok (.value v') w' ∧ w'.ownsRow base e size v' (n + m) (xs ++ news) ∧ W.grownBy w' v.ownBlock ∧ (v'.ownBlock = v.ownBlock ∨ ∃ k, W.heap.size ≤ k ∧ v'.ownBlock = some k) := by
  obtain ⟨v', w', hr, h2, h3, h4⟩ := run_append_any' (w := W) base t o.type t2 e z size bytes ht hinfo hzs v n xs hown u m news hsrc hbytes h63 hbase
  refine ⟨v', w', ?_, h2, h3, h4⟩
  unfold execOp
  simp only [ho, resolve, invoke, builtin, Sem.run_bind, Sem.run_pure, Result.andThen_ok, List.map_toArray, List.map_cons, List.map_nil, hs, hx, hr]

/-- []byte{}, append, append: what is made, and its block, as far as it has come. -/
def ow3 (i0 i1 i2 : Nat) (E : TypeId) (l1 : List UInt8) : Ownf := fun L V oo => (L i2 = true → oo = []) ∧ (L i2 = false → L i1 = true → OwnP E 1 (V i1) l1.length (l1.map u8v) oo) ∧ (L i1 = false → L i0 = true → OwnP E 1 (V i0) 0 [] oo) ∧ (L i0 = false → oo = [])
section
variable {i i0 i1 i2 : Nat} {E : TypeId} {l1 : List UInt8} {L : Nat → Bool} {V : Nat → Value} {K : Value → World → Prop} {oo : List (Nat × Obj)} {F : List (World → Prop)}
theorem ow3_none : ∀ L V, (∀ j, L j = false) → ow3 i0 i1 i2 E l1 L V [] := fun L V h => ⟨fun _ => rfl, fun _ hh => absurd hh (by rw [h]; exact Bool.false_ne_true), fun _ hh => absurd hh (by rw [h]; exact Bool.false_ne_true), fun _ => rfl⟩
theorem ow3_all {n : Nat} (h2 : i2 < n) : ∀ L V oo, (∀ j, j < n → L j = true) → ow3 i0 i1 i2 E l1 L V oo → oo = [] := fun L V oo h ho => ho.1 (h _ h2)
theorem ob3_build (hi : i = i0) (n01 : i1 ≠ i0) (n02 : i2 ≠ i0) (hperm : ∀ oo L V, (os oo L V).Perm (oo ++ os [] L V)) (hkeep : ∀ oo v, os oo (updB L i) (updV V i v) = os oo L V) {t : TypeId} (hg : wantE ops o ρ = true) (ho : o.op = .buildSlice t 0 #[]) (hu : P.underlying t = some (.slice E)) (hz : ((P.info? E).bind (·.zero)).isSome = true)
    (h0 : L i0 = false) (h1 : L i1 = false) (h2 : L i2 = false) (hoo : ow3 i0 i1 i2 E l1 L V oo) (hst : St w0 W (os oo L V) F) :
    opW P ops ρ o W fun v W' => ∃ oo', ow3 i0 i1 i2 E l1 (updB L i) (updV V i v) oo' ∧ St w0 W' (os oo' (updB L i) (updV V i v)) (pAny.p v :: F) := by
  subst hi
  obtain rfl := hoo.2.2.2 h0
  refine ob_run hg (run_build_none ho hu hz) ?_
  obtain ⟨k1, k2⟩ := OwnP.fresh (E := E) (sz := 1) hst
  refine ⟨[(W.heap.size, .cells #[] E (0, 0))], ⟨fun h => ?_, fun _ h => ?_, fun _ _ => ?_, fun h => ?_⟩, ?_⟩
  · rw [updB_ne n02, h2] at h; cases h
  · rw [updB_ne n01, h1] at h; cases h
  · rw [updV_same]; exact k1
  · rw [updB_same] at h; cases h
  · rw [hkeep]
    exact (k2.perm (hperm _ L V).symm).put (pAny.mono _) trivial
theorem ob3_app1 (hi : i = i1) (n10 : i0 ≠ i1) (n12 : i2 ≠ i1) (hperm : ∀ oo L V, (os oo L V).Perm (oo ++ os [] L V)) (hkeep : ∀ oo v, os oo (updB L i) (updV V i v) = os oo L V) {s x : Operand} {t t2 : TypeId} (hg : wantE ops o ρ = true)
    (ho : o.op = .call { callee := .builtin .append, args := #[s, x], argTypes := #[t, t2] }) (hu : P.underlying t = some (.slice E)) (hu2 : P.underlying t2 = some (.slice E)) (hinfo : (P.info? E).map (fun i => (i.zero, i.size, i.bytes)) = some (some (.int .u8 0), 1, 1))
    (hs : ρ s = V i0) {src : Value} (hx : ρ x = src) (hsrc : IsBytes (sm (os oo L V) W) src l1) (hlen : l1.length ≤ 1048576) (h0 : L i0 = true) (h1 : L i1 = false) (h2 : L i2 = false) (hoo : ow3 i0 i1 i2 E l1 L V oo) (hst : St w0 W (os oo L V) F) :
    opW P ops ρ o W fun v W' => ∃ oo', ow3 i0 i1 i2 E l1 (updB L i) (updV V i v) oo' ∧ St w0 W' (os oo' (updB L i) (updV V i v)) (pAny.p v :: F) := by
  subst hi
  have k1 := hoo.2.2.1 h1 h0
  have hp := hst.perm (hperm oo L V)
  obtain ⟨v', w', hr, r1, r2, r3⟩ := run_append_op (P := P) (W := W) s x t t2 ho w0.heap.size E (.int .u8 0) 1 1 hu hinfo rfl _ 0 [] hs (k1.owns hp) _ l1.length (l1.map u8v) hx ((hsrc.sub (mask_is _ _)).src hu2) (by omega) (by simp only [maxLen]; omega) hst.size
  obtain ⟨oo', k2, k3⟩ := k1.append hp r1 r2 r3
  refine ob_run hg hr ⟨oo', ⟨fun h => ?_, fun _ _ => ?_, fun h => ?_, fun h => ?_⟩, ?_⟩
  · rw [updB_ne n12, h2] at h; cases h
  · rw [updV_same]; simpa using k2
  · rw [updB_same] at h; cases h
  · rw [updB_ne n10, h0] at h; cases h
  · rw [hkeep]
    exact (k3.perm (hperm _ L V).symm).put (pAny.mono _) trivial
theorem ob3_app2 (hi : i = i2) (n20 : i0 ≠ i2) (n21 : i1 ≠ i2) (hperm : ∀ oo L V, (os oo L V).Perm (oo ++ os [] L V)) (hkeep : ∀ oo v, os oo (updB L i) (updV V i v) = os oo L V) {s x : Operand} {t t2 : TypeId} (hg : wantE ops o ρ = true)
    (ho : o.op = .call { callee := .builtin .append, args := #[s, x], argTypes := #[t, t2] }) (hu : P.underlying t = some (.slice E)) (hu2 : P.underlying t2 = some (.slice E)) (hinfo : (P.info? E).map (fun i => (i.zero, i.size, i.bytes)) = some (some (.int .u8 0), 1, 1))
    (hs : ρ s = V i1) {src : Value} {l2 : List UInt8} (hx : ρ x = src) (hsrc : IsBytes (sm (os oo L V) W) src l2) (hlen : l1.length + l2.length ≤ 1048576) (h0 : L i0 = true) (h1 : L i1 = true) (h2 : L i2 = false) (hoo : ow3 i0 i1 i2 E l1 L V oo) (hst : St w0 W (os oo L V) F) :
    opW P ops ρ o W fun v W' => ∃ oo', ow3 i0 i1 i2 E l1 (updB L i) (updV V i v) oo' ∧ St w0 W' (os oo' (updB L i) (updV V i v)) ((pBytes (l1 ++ l2)).p v :: F) := by
  subst hi
  have k1 := hoo.2.1 h2 h1
  have hp := hst.perm (hperm oo L V)
  obtain ⟨v', w', hr, r1, r2, r3⟩ := run_append_op (P := P) (W := W) s x t t2 ho w0.heap.size E (.int .u8 0) 1 1 hu hinfo rfl _ l1.length (l1.map u8v) hs (k1.owns hp) _ l2.length (l2.map u8v) hx ((hsrc.sub (mask_is _ _)).src hu2) (by omega) (by simp only [maxLen]; omega) hst.size
  obtain ⟨oo', k2, k3⟩ := k1.append hp r1 r2 r3
  have k4 := (k2.done k3).perm (show (os [] L V).Perm (os [] L V) from List.Perm.refl _)
  refine ob_run hg hr ⟨[], ⟨fun _ => rfl, fun h => ?_, fun h => ?_, fun _ => rfl⟩, ?_⟩
  · rw [updB_same] at h; cases h
  · rw [updB_ne n21, h1] at h; cases h
  · rw [hkeep]
    refine k4.head (pBytes (l1 ++ l2)) v' fun hrow => ?_
    have hb : IsBytes (sm (os [] L V) w') v' (l1 ++ l2) := by
      unfold IsBytes
      rw [List.length_append, List.map_append]
      exact hrow
    obtain ⟨b, q, rfl, -⟩ := hb.out
    exact ⟨b, q, rfl, hb⟩
end
end
end Go.Proofs.Ytihohhjaomoemaa
