/- A region that draws its order: an operation that yields one value in every world of a class, and leaves the world as it is (a load, arithmetic, a call that only computes), may be taken first; the class need not hold any more behind the operations of T, which wait for whatever is so taken. Over whatever program. -/
import Derived.Deep.Quiet
import Derived.OrdersHeld
import Derived.Deep.RegionHeld
namespace Go.Proofs.Ytihohhjaomoemaa
open Go

section
variable {P : Program} {ops : Array Oper} {Q : Exit → Act → World → Prop} {md : Region.Mode} {S : World → Prop} {T : Nat → Bool}

/-- One value in every world of S, and the world stays. -/
def Fix (P : Program) (ops : Array Oper) (S : World → Prop) (o : Oper) (v : Value) (a : Act) : Prop :=
  (Region.wanted o (yielded ops a.tmps) = true ∧ ∀ w, S w → o.quietAt P a (fun w' => w' = w) w v) ∨ (Region.wanted o (yielded ops a.tmps) = false ∧ v = undef)

theorem fix_upon {w : World} {v : Value} {a : Act} {o : Oper} {K : Act → World → Prop} {r : Result Next} (h : Oper.quietUpon P (fun w' => w' = w) w v r) (hK : K (a.put o.dst v) w) : Oper.upon P o a K Q r := by
  cases r with
  | halt x w' => exact h.elim
  | ok n w' =>
    cases n with
    | value u => obtain ⟨rfl, rfl⟩ := h; exact hK
    | skip => obtain ⟨rfl, rfl⟩ := h; exact hK
    | enter f args =>
      obtain ⟨rfl, hc⟩ := h
      refine Calls.mono hc fun e w'' ⟨he, hw⟩ => ?_
      subst he hw
      exact hK
    | _ => exact h.elim

theorem Fix.carry {i : Nat} {o : Oper} {v : Value} {a : Act} {w : World} {K : Act → World → Prop} (hi : ops[i]? = some o) (hy : Fix P ops S o v a) (hS : S w) (hK : K (a.put o.dst v) w) : wpOp P ops Q i K a w := by
  unfold wpOp
  rw [hi]
  rcases hy with ⟨h1, h2⟩ | ⟨h1, rfl⟩
  · simp only [h1, if_true]
    exact .inl (fix_upon (h2 w hS) hK)
  · simp only [h1, Bool.false_eq_true, if_false]
    exact hK

theorem Fix.same {o : Oper} {v : Value} {a a' : Act} (hy : Fix P ops S o v a) (he : execOp a'.eval o = execOp a.eval o) (hw : Region.wanted o (yielded ops a'.tmps) = Region.wanted o (yielded ops a.tmps)) : Fix P ops S o v a' := by
  unfold Fix Oper.quietAt at *
  rw [he, hw]
  exact hy

/-- What another operation does, with the value already laid or not. -/
theorem later_put {j : Nat} {oj : Oper} {x : Option Tmp} {v : Value} (hj : ops[j]? = some oj) (h1 : ∀ d, x = some d → d ∉ oj.looksAt ops) (h2 : ∀ d, x = some d → oj.dst ≠ some d) (hsj : ∀ cs b, oj.op ≠ .select cs b)
    (hQ : ∀ c a w, Q (.panic c) (a.put x v) w → Q (.panic c) a w) {Y : Act → Prop} (keep : ∀ a, Y a → ∀ u, Y (a.put oj.dst u)) (keepD : ∀ a d, Y a → Y { a with defers := d :: a.defers })
    {K : Act → World → Prop} {a : Act} {w : World} (hy : Y a) (h : wpOp P ops Q j K (a.put x v) w) : wpOp P ops Q j (fun a' w' => Y a' ∧ K (a'.put x v) w') a w := by
  have hcomm : ∀ (b : Act) (u : Value), (b.put x v).put oj.dst u = (b.put oj.dst u).put x v := fun b u => Act.put_comm b v u h2
  unfold wpOp at *
  rw [hj] at h ⊢
  simp only at h ⊢
  rw [wanted_put oj a x v h1] at h
  cases hw : Region.wanted oj (yielded ops a.tmps) with
  | false =>
    rw [hw] at h
    simp only [Bool.false_eq_true, if_false] at h ⊢
    exact ⟨keep a hy _, hcomm a undef ▸ h⟩
  | true =>
    rw [hw] at h
    simp only [if_true] at h ⊢
    rcases h with h | ⟨h, hl⟩
    · left
      unfold Oper.wp at *
      rw [execOp_put oj hsj a x v h1] at h
      generalize (execOp a.eval oj).run P w = r at *
      cases r with
      | halt y w' => cases y <;> simp only [Oper.upon] at h ⊢; exact hQ _ _ _ h
      | ok n w' =>
        cases n with
        | value u => exact ⟨keep a hy u, (hcomm a u) ▸ h⟩
        | skip => exact ⟨keep a hy undef, (hcomm a undef) ▸ h⟩
        | defer d =>
          refine ⟨keep _ (keepD a d hy) _, ?_⟩
          have h' : K (({ a.put x v with defers := d :: (a.put x v).defers } : Act).put oj.dst undef) w' := h
          rw [Act.put_defers, hcomm] at h'
          exact h'
        | enter f args =>
          refine Calls.mono h fun e w'' he => ?_
          cases e with
          | returned u => exact ⟨keep a hy u, (hcomm a u) ▸ he⟩
          | panicked c => exact hQ _ _ _ he
          | outgrown => exact he
        | row row args => exact Rows.mono h fun u w'' he => ⟨keep a hy u, (hcomm a u) ▸ he⟩
        | _ => exact h.elim
    · right
      refine ⟨?_, hl⟩
      unfold Oper.asks at *
      rwa [execOp_put oj hsj a x v h1] at h

/-- Whatever order is picked from here on; S holds behind each operation but those of T. -/
def wpTake (P : Program) (md : Region.Mode) (ops : Array Oper) (Q : Exit → Act → World → Prop) (S : World → Prop) (T : Nat → Bool) : Nat → Array Bool → Act → World → Prop
  | 0, listed, a, w => Region.ready md ops listed = [] ∧ Q .normal a w
  | fuel + 1, listed, a, w => (Region.ready md ops listed = [] → Q .normal a w) ∧ ∀ i ∈ Region.ready md ops listed, wpOp P ops Q i (fun a' w' => (T i = true ∨ S w') ∧ wpTake P md ops Q S T fuel (listed.setIfInBounds i true) a' w') a w

theorem wpTake_any : ∀ (fuel : Nat) (listed : Array Bool) (a : Act) (w : World), wpTake P md ops Q S T fuel listed a w → wpAny P md ops Q fuel listed a w
  | 0, _, _, _, h => h
  | fuel + 1, _, _, _, h => ⟨h.1, fun i hi => wpOp_mono (fun a' w' h' => wpTake_any fuel _ a' w' h'.2) (h.2 i hi)⟩

/-- j waits for i, through others perhaps. -/
def ancB (md : Region.Mode) (ops : Array Oper) : Nat → Nat → Nat → Bool
  | 0, _, _ => false
  | n + 1, j, i => match ops[j]? with
    | some oj => oj.after.any fun e => Region.binds md e && (e.on == i || ancB md ops n e.on i)
    | none => false
/-- Nobody of T can come up ahead of i. -/
def waits (md : Region.Mode) (ops : Array Oper) (T : Nat → Bool) (i : Nat) : Bool := (List.range ops.size).all fun j => !T j || ancB md ops ops.size j i
/-- Whoever has come up, those that it waits for have. -/
def Closed (md : Region.Mode) (ops : Array Oper) (listed : Array Bool) : Prop := ∀ j oj, ops[j]? = some oj → listed.getD j false = true → ∀ e ∈ oj.after, Region.binds md e = true → listed.getD e.on false = true
def closedB (md : Region.Mode) (ops : Array Oper) (listed : Array Bool) : Bool := (List.range ops.size).all fun j => match ops[j]? with
  | some oj => !listed.getD j false || oj.after.all fun e => !Region.binds md e || listed.getD e.on false
  | none => true
theorem closed_of {listed : Array Bool} (h : closedB md ops listed = true) : Closed md ops listed := fun j oj hj hl e he hb => by
  have h1 := List.all_eq_true.1 h j (List.mem_range.2 (Array.getElem?_eq_some_iff.1 hj).1)
  simp only [hj, hl, Bool.not_true, Bool.false_or] at h1
  have h2 := Array.all_eq_true_iff_forall_mem.1 h1 e he
  simpa [hb] using h2
theorem anc_listed {listed : Array Bool} (hc : Closed md ops listed) : ∀ (n j i : Nat) (oj : Oper), ops[j]? = some oj → (∀ e ∈ oj.after, Region.binds md e = true → listed.getD e.on false = true) → ancB md ops n j i = true → listed.getD i false = true
  | 0, _, _, _, _, _, h => by simp [ancB] at h
  | n + 1, j, i, oj, hj, hd, h => by
    simp only [ancB, hj] at h
    obtain ⟨e, he, hb⟩ := Array.any_eq_true'.1 h
    simp only [Bool.and_eq_true, Bool.or_eq_true, beq_iff_eq] at hb
    have hl := hd e he hb.1
    rcases hb.2 with h2 | h2
    · rw [← h2]; exact hl
    · cases ho : ops[e.on]? with
      | none => cases n <;> simp [ancB, ho] at h2
      | some o' => exact anc_listed hc n e.on i o' ho (fun x hx hbx => hc e.on o' ho hl x hx hbx) h2
theorem closed_set {listed : Array Bool} {j : Nat} (hc : Closed md ops listed) (hj : j ∈ Region.ready md ops listed) : Closed md ops (listed.setIfInBounds j true) := fun k ok hk hl e he hb => by
  by_cases e1 : j = k
  · subst e1
    obtain ⟨_, oj, hoj, hall⟩ := mem_ready.1 hj
    rw [hoj] at hk
    cases hk
    exact getD_set_true (hall e he hb)
  · rw [getD_set_ne false e1] at hl
    exact getD_set_true (hc k ok hk hl e he hb)

theorem take_step {i : Nat} {oi : Oper} {v : Value} (hi : ops[i]? = some oi) (hs : ∀ (j : Nat) (o : Oper) cs b, ops[j]? = some o → o.op ≠ .select cs b) (hT : waits md ops T i = true) (hQ : ∀ c a w, Q (.panic c) (a.put oi.dst v) w → Q (.panic c) a w) :
    ∀ (fuel : Nat) (listed : Array Bool) (a : Act) (w : World), Closed md ops listed → (∀ j oj, ops[j]? = some oj → j ≠ i → listed.getD j true = false → (∀ e ∈ oj.after, Region.binds md e = true → e.on ≠ i) → oi.apart ops oj = true) →
      i ∈ Region.ready md ops listed → Fix P ops S oi v a → S w →
      wpTake P md ops Q S T fuel (listed.setIfInBounds i true) (a.put oi.dst v) w → wpTake P md ops Q S T (fuel + 1) listed a w := by
  intro fuel
  induction fuel with
  | zero =>
    intro listed a w _ _ hr hy hS H
    refine ⟨fun h => absurd (h ▸ hr) List.not_mem_nil, fun j hj => ?_⟩
    by_cases e : j = i
    · subst e
      exact hy.carry hi hS ⟨.inr hS, H⟩
    · exact absurd (H.1 ▸ ready_mono hj e) List.not_mem_nil
  | succ fuel ih =>
    intro listed a w hcl hf hr hy hS H
    refine ⟨fun h => absurd (h ▸ hr) List.not_mem_nil, fun j hj => ?_⟩
    by_cases e : j = i
    · subst e
      exact hy.carry hi hS ⟨.inr hS, H⟩
    obtain ⟨hun, oj, hoj, hall⟩ := mem_ready.1 hj
    have hi0 := (mem_ready.1 hr).1
    have hlt : i < listed.size := by
      rcases Nat.lt_or_ge i listed.size with h | h
      · exact h
      · simp [Array.getElem?_eq_none h] at hi0
    have hno : ∀ x ∈ oj.after, Region.binds md x = true → x.on ≠ i := fun x hx hb ex => by
      have h1 := hall x hx hb
      rw [ex] at h1
      simp [hlt] at hi0 h1
      rw [hi0] at h1
      cases h1
    have hTj : T j = false := by
      cases h : T j with
      | false => rfl
      | true =>
        have hjl : j < ops.size := (Array.getElem?_eq_some_iff.1 hoj).1
        have h1 := List.all_eq_true.1 hT j (List.mem_range.2 hjl)
        simp only [h, Bool.not_true, Bool.false_or] at h1
        have h2 := anc_listed hcl _ _ _ _ hoj hall h1
        simp [hlt] at hi0 h2
        rw [hi0] at h2
        cases h2
    obtain ⟨p1, p2, p3⟩ := Oper.apart_spec (hf j oj hoj e hun hno)
    have h1 := H.2 j (ready_mono hj e)
    have h2 := later_put (Y := Fix P ops S oi v) hoj p1 p2 (fun cs b => hs j oj cs b hoj) hQ (fun b hb u => hb.same (execOp_put oi (fun cs b => hs i oi cs b hi) b oj.dst u p3) (wanted_put oi b oj.dst u p3)) (fun b d hb => hb.same rfl rfl) hy h1
    refine wpOp_mono (fun a' w' h3 => ?_) h2
    obtain ⟨hy', hS', h4⟩ := h3
    have hS'' : S w' := by
      rcases hS' with h | h
      · rw [hTj] at h; cases h
      · exact h
    refine ⟨.inr hS'', ih (listed.setIfInBounds j true) a' w' (closed_set hcl hj) (fun k ok hk hki hkun hkno => ?_) (ready_mono hr (Ne.symm e)) hy' hS'' ?_⟩
    · refine hf k ok hk hki ?_ hkno
      by_cases ejk : j = k
      · subst ejk; exact hun
      · rw [getD_set_ne true ejk] at hkun
        exact hkun
    · rw [Array.setIfInBounds_comm _ _ e]
      exact h4

theorem take_free {i : Nat} {oi : Oper} {v : Value} (hi : ops[i]? = some oi) (hs : ∀ (j : Nat) (o : Oper) cs b, ops[j]? = some o → o.op ≠ .select cs b) (hTi : T i = true) (hQ : ∀ c a w, Q (.panic c) (a.put oi.dst v) w → Q (.panic c) a w) :
    ∀ (fuel : Nat) (listed : Array Bool) (a : Act) (w : World), Closed md ops listed → (∀ j oj, ops[j]? = some oj → j ≠ i → listed.getD j true = false → (∀ e ∈ oj.after, Region.binds md e = true → e.on ≠ i) → oi.apart ops oj = true) →
      i ∈ Region.ready md ops listed → Fix P ops (fun _ => True) oi v a →
      wpTake P md ops Q S T fuel (listed.setIfInBounds i true) (a.put oi.dst v) w → wpTake P md ops Q S T (fuel + 1) listed a w := by
  intro fuel
  induction fuel with
  | zero =>
    intro listed a w _ _ hr hy H
    refine ⟨fun h => absurd (h ▸ hr) List.not_mem_nil, fun j hj => ?_⟩
    by_cases e : j = i
    · subst e
      exact hy.carry hi trivial ⟨.inl hTi, H⟩
    · exact absurd (H.1 ▸ ready_mono hj e) List.not_mem_nil
  | succ fuel ih =>
    intro listed a w hcl hf hr hy H
    refine ⟨fun h => absurd (h ▸ hr) List.not_mem_nil, fun j hj => ?_⟩
    by_cases e : j = i
    · subst e
      exact hy.carry hi trivial ⟨.inl hTi, H⟩
    obtain ⟨hun, oj, hoj, hall⟩ := mem_ready.1 hj
    have hi0 := (mem_ready.1 hr).1
    have hlt : i < listed.size := by
      rcases Nat.lt_or_ge i listed.size with h | h
      · exact h
      · simp [Array.getElem?_eq_none h] at hi0
    have hno : ∀ x ∈ oj.after, Region.binds md x = true → x.on ≠ i := fun x hx hb ex => by
      have h1 := hall x hx hb
      rw [ex] at h1
      simp [hlt] at hi0 h1
      rw [hi0] at h1
      cases h1
    obtain ⟨p1, p2, p3⟩ := Oper.apart_spec (hf j oj hoj e hun hno)
    have h1 := H.2 j (ready_mono hj e)
    have h2 := later_put (Y := Fix P ops (fun _ => True) oi v) hoj p1 p2 (fun cs b => hs j oj cs b hoj) hQ (fun b hb u => hb.same (execOp_put oi (fun cs b => hs i oi cs b hi) b oj.dst u p3) (wanted_put oi b oj.dst u p3)) (fun b d hb => hb.same rfl rfl) hy h1
    refine wpOp_mono (fun a' w' h3 => ?_) h2
    obtain ⟨hy', hS', h4⟩ := h3
    refine ⟨hS', ih (listed.setIfInBounds j true) a' w' (closed_set hcl hj) (fun k ok hk hki hkun hkno => ?_) (ready_mono hr (Ne.symm e)) hy' ?_⟩
    · refine hf k ok hk hki ?_ hkno
      by_cases ejk : j = k
      · subst ejk; exact hun
      · rw [getD_set_ne true ejk] at hkun
        exact hkun
    · rw [Array.setIfInBounds_comm _ _ e]
      exact h4

/-- Number i is taken first. -/
theorem wpTake_take {i : Nat} {oi : Oper} {v : Value} {fuel : Nat} {listed : Array Bool} {a : Act} {w : World} (hi : ops[i]? = some oi) (hs : Region.noSelect ops = true) (hT : waits md ops T i = true) (hcl : closedB md ops listed = true) (hf : Region.free md ops listed i = true) (hr : (Region.ready md ops listed).contains i = true)
    (hQ : ∀ c a w, Q (.panic c) (a.put oi.dst v) w → Q (.panic c) a w) (hy : Fix P ops S oi v a) (hS : S w) (h : wpTake P md ops Q S T fuel (listed.setIfInBounds i true) (a.put oi.dst v) w) : wpTake P md ops Q S T (fuel + 1) listed a w :=
  take_step hi (Region.noSelect_spec hs) hT hQ fuel listed a w (closed_of hcl) (Region.free_spec hi hf) (by simpa using hr) hy hS h
/-- One alone may come up. -/
theorem wpTake_one {i : Nat} {oi : Oper} {fuel : Nat} {listed : Array Bool} {a : Act} {w : World} (hi : ops[i]? = some oi) (hr : Region.ready md ops listed = [i])
    (h : ∀ K : Act → World → Prop, (∀ a' w', (T i = true ∨ S w') ∧ wpTake P md ops Q S T fuel (listed.setIfInBounds i true) a' w' → K a' w') → if Region.wanted oi (yielded ops a.tmps) = true then oi.wp P a w K Q else K (a.put oi.dst undef) w) : wpTake P md ops Q S T (fuel + 1) listed a w := by
  refine ⟨fun h0 => (by rw [hr] at h0; cases h0), fun j hj => ?_⟩
  rw [hr, List.mem_singleton] at hj
  subst hj
  have h1 := h _ (fun _ _ h => h)
  unfold wpOp
  rw [hi]
  simp only
  split
  · rename_i hw; rw [if_pos hw] at h1; exact .inl h1
  · rename_i hw; rw [if_neg hw] at h1; exact h1
/-- Two may come up. -/
theorem wpTake_two {i k : Nat} {oi ok : Oper} {fuel : Nat} {listed : Array Bool} {a : Act} {w : World} (hi : ops[i]? = some oi) (hk : ops[k]? = some ok) (hr : Region.ready md ops listed = [i, k])
    (h : ∀ K : Act → World → Prop, (∀ a' w', (T i = true ∨ S w') ∧ wpTake P md ops Q S T fuel (listed.setIfInBounds i true) a' w' → K a' w') → if Region.wanted oi (yielded ops a.tmps) = true then oi.wp P a w K Q else K (a.put oi.dst undef) w)
    (h' : ∀ K : Act → World → Prop, (∀ a' w', (T k = true ∨ S w') ∧ wpTake P md ops Q S T fuel (listed.setIfInBounds k true) a' w' → K a' w') → if Region.wanted ok (yielded ops a.tmps) = true then ok.wp P a w K Q else K (a.put ok.dst undef) w) : wpTake P md ops Q S T (fuel + 1) listed a w := by
  refine ⟨fun h0 => (by rw [hr] at h0; cases h0), fun j hj => ?_⟩
  rw [hr] at hj
  simp only [List.mem_cons, List.not_mem_nil, or_false] at hj
  rcases hj with rfl | rfl
  · have h1 := h _ (fun _ _ h => h)
    unfold wpOp
    rw [hi]
    simp only
    split
    · rename_i hw; rw [if_pos hw] at h1; exact .inl h1
    · rename_i hw; rw [if_neg hw] at h1; exact h1
  · have h1 := h' _ (fun _ _ h => h)
    unfold wpOp
    rw [hk]
    simp only
    split
    · rename_i hw; rw [if_pos hw] at h1; exact .inl h1
    · rename_i hw; rw [if_neg hw] at h1; exact h1
theorem wpTake_done {fuel : Nat} {listed : Array Bool} {a : Act} {w : World} (hr : Region.ready md ops listed = []) (h : Q .normal a w) : wpTake P md ops Q S T fuel listed a w := by
  cases fuel with
  | zero => exact ⟨hr, h⟩
  | succ fuel => exact ⟨fun _ => h, fun j hj => absurd (hr ▸ hj) List.not_mem_nil⟩
theorem wp_region_take {id : Nat} {a : Act} {w : World} (S : World → Prop) (T : Nat → Bool) (hm : P.follows .mixedOrders = true) (h : wpTake P .any ops Q S T ops.size (Array.replicate ops.size false) a w.drew) : (Code.region id ops true).wp P Q a w :=
  wp_region_any hm (wpTake_any _ _ _ _ h)

theorem wpTake_val {i : Nat} {oi : Oper} {v : Value} {fuel : Nat} {listed : Array Bool} {a : Act} {w : World} (hi : ops[i]? = some oi) (hs : Region.noSelect ops = true) (hT : waits md ops T i = true) (hcl : closedB md ops listed = true) (hf : Region.free md ops listed i = true) (hr : (Region.ready md ops listed).contains i = true)
    (hQ : ∀ c a w, Q (.panic c) (a.put oi.dst v) w → Q (.panic c) a w) (hS : S w) (hw : Region.wanted oi (yielded ops a.tmps) = true) (hy : ∀ w, S w → (execOp a.eval oi).run P w = .ok (.value v) w) (h : wpTake P md ops Q S T fuel (listed.setIfInBounds i true) (a.put oi.dst v) w) : wpTake P md ops Q S T (fuel + 1) listed a w :=
  wpTake_take hi hs hT hcl hf hr hQ (.inl ⟨hw, fun w' h' => by unfold Oper.quietAt; rw [hy w' h']; exact ⟨rfl, rfl⟩⟩) hS h
theorem wpTake_call {i : Nat} {oi : Oper} {v : Value} {fuel : Nat} {listed : Array Bool} {a : Act} {w : World} (f : FuncId) (args : Array Value) (hi : ops[i]? = some oi) (hs : Region.noSelect ops = true) (hT : waits md ops T i = true) (hcl : closedB md ops listed = true) (hf : Region.free md ops listed i = true) (hr : (Region.ready md ops listed).contains i = true)
    (hQ : ∀ c a w, Q (.panic c) (a.put oi.dst v) w → Q (.panic c) a w) (hS : S w) (hw : Region.wanted oi (yielded ops a.tmps) = true) (hy : ∀ w, S w → (execOp a.eval oi).run P w = .ok (.enter f args) w) (hc : ∀ w, S w → Calls P f args w fun e w' => e = .returned v ∧ w' = w) (h : wpTake P md ops Q S T fuel (listed.setIfInBounds i true) (a.put oi.dst v) w) : wpTake P md ops Q S T (fuel + 1) listed a w :=
  wpTake_take hi hs hT hcl hf hr hQ (.inl ⟨hw, fun w' h' => by unfold Oper.quietAt; rw [hy w' h']; exact ⟨rfl, hc w' h'⟩⟩) hS h
theorem wpTake_free {i : Nat} {oi : Oper} {v : Value} {fuel : Nat} {listed : Array Bool} {a : Act} {w : World} (hi : ops[i]? = some oi) (hs : Region.noSelect ops = true) (hTi : T i = true) (hcl : closedB md ops listed = true) (hf : Region.free md ops listed i = true) (hr : (Region.ready md ops listed).contains i = true)
    (hQ : ∀ c a w, Q (.panic c) (a.put oi.dst v) w → Q (.panic c) a w) (hw : Region.wanted oi (yielded ops a.tmps) = true) (hy : ∀ w, (execOp a.eval oi).run P w = .ok (.value v) w) (h : wpTake P md ops Q S T fuel (listed.setIfInBounds i true) (a.put oi.dst v) w) : wpTake P md ops Q S T (fuel + 1) listed a w :=
  take_free hi (Region.noSelect_spec hs) hTi hQ fuel listed a w (closed_of hcl) (Region.free_spec hi hf) (by simpa using hr) (.inl ⟨hw, fun w' _ => by unfold Oper.quietAt; rw [hy w']; exact ⟨rfl, rfl⟩⟩) h
end
end Go.Proofs.Ytihohhjaomoemaa
