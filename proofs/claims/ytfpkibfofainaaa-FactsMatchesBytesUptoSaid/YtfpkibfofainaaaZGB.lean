/- A region that draws its order: an operation that yields one value in every world of a class, and leaves the world as it is (a load, arithmetic, a call that only computes), may be taken first; the class need not hold any more behind the operations of T, which wait for whatever is so taken. Over whatever program. -/
import Derived.Deep.Quiet
import Derived.OrdersHeld
import Derived.Deep.RegionHeld
import Derived.Test.YtfpkibfofainaaaZGA
namespace Go.Proofs.Ytfpkibfofainaaa
open Go

section
variable {P : Program} {ops : Array Oper} {Q : Exit → Act → World → Prop} {md : Region.Mode} {S : World → Prop} {T : Nat → Bool}

/-- One value in every world of S, and the world stays. -/
def Fix (P : Program) (ops : Array Oper) (S : World → Prop) (o : Oper) (v : Value) (a : Act) : Prop :=
  (Region.wanted o (yielded ops a.tmps) = true ∧ ∀ w, S w → o.quietAt P a (fun w' => w' = w) w v) ∨ (Region.wanted o (yielded ops a.tmps) = false ∧ v = undef)

theorem fix_upon {w : World} {v : Value} {a : Act} {o : Oper} {K : Act → World → Prop} {r : Result Next} (h : Oper.quietUpon P (fun w' => w' = w) w v r) (hK : K (a.put o.dst v) w) : Oper.upon P o a K Q r := by
  cases r with
  | halt x w' => exact h.elim
  | ok n w' =>
    cases n with
    | value u => obtain ⟨rfl, rfl⟩ := h; exact hK
    | skip => obtain ⟨rfl, rfl⟩ := h; exact hK
    | enter f args =>
      obtain ⟨rfl, hc⟩ := h
      refine Calls.mono hc fun e w'' ⟨he, hw⟩ => ?_
      subst he hw
      exact hK
    | _ => exact h.elim

theorem Fix.carry {i : Nat} {o : Oper} {v : Value} {a : Act} {w : World} {K : Act → World → Prop} (hi : ops[i]? = some o) (hy : Fix P ops S o v a) (hS : S w) (hK : K (a.put o.dst v) w) : wpOp P ops Q i K a w := by
  unfold wpOp
  rw [hi]
  rcases hy with ⟨h1, h2⟩ | ⟨h1, rfl⟩
  · simp only [h1, if_true]
    exact .inl (fix_upon (h2 w hS) hK)
  · simp only [h1, Bool.false_eq_true, if_false]
    exact hK

theorem Fix.same {o : Oper} {v : Value} {a a' : Act} (hy : Fix P ops S o v a) (he : execOp a'.eval o = execOp a.eval o) (hw : Region.wanted o (yielded ops a'.tmps) = Region.wanted o (yielded ops a.tmps)) : Fix P ops S o v a' := by
  unfold Fix Oper.quietAt at *
  rw [he, hw]
  exact hy

/-- What another operation does, with the value already laid or not. -/
theorem later_put {j : Nat} {oj : Oper} {x : Option Tmp} {v : Value} (hj : ops[j]? = some oj) (h1 : ∀ d, x = some d → d ∉ oj.looksAt ops) (h2 : ∀ d, x = some d → oj.dst ≠ some d) (hsj : ∀ cs b, oj.op ≠ .select cs b)
    (hQ : ∀ c a w, Q (.panic c) (a.put x v) w → Q (.panic c) a w) {Y : Act → Prop} (keep : ∀ a, Y a → ∀ u, Y (a.put oj.dst u)) (keepD : ∀ a d, Y a → Y { a with defers := d :: a.defers })
    {K : Act → World → Prop} {a : Act} {w : World} (hy : Y a) (h : wpOp P ops Q j K (a.put x v) w) : wpOp P ops Q j (fun a' w' => Y a' ∧ K (a'.put x v) w') a w := by
  have hcomm : ∀ (b : Act) (u : Value), (b.put x v).put oj.dst u = (b.put oj.dst u).put x v := fun b u => Act.put_comm b v u h2
  unfold wpOp at *
  rw [hj] at h ⊢
  simp only at h ⊢
  rw [wanted_put oj a x v h1] at h
  cases hw : Region.wanted oj (yielded ops a.tmps) with
  | false =>
    rw [hw] at h
    simp only [Bool.false_eq_true, if_false] at h ⊢
    exact ⟨keep a hy _, hcomm a undef ▸ h⟩
  | true =>
    rw [hw] at h
    simp only [if_true] at h ⊢
    rcases h with h | ⟨h, hl⟩
    · left
      unfold Oper.wp at *
      rw [execOp_put oj hsj a x v h1] at h
      generalize (execOp a.eval oj).run P w = r at *
      cases r with
      | halt y w' => cases y <;> simp only [Oper.upon] at h ⊢; exact hQ _ _ _ h
      | ok n w' =>
        cases n with
        | value u => exact ⟨keep a hy u, (hcomm a u) ▸ h⟩
        | skip => exact ⟨keep a hy undef, (hcomm a undef) ▸ h⟩
        | defer d =>
          refine ⟨keep _ (keepD a d hy) _, ?_⟩
          have h' : K (({ a.put x v with defers := d :: (a.put x v).defers } : Act).put oj.dst undef) w' := h
          rw [Act.put_defers, hcomm] at h'
          exact h'
        | enter f args =>
          refine Calls.mono h fun e w'' he => ?_
          cases e with
          | returned u => exact ⟨keep a hy u, (hcomm a u) ▸ he⟩
          | panicked c => exact hQ _ _ _ he
          | outgrown => exact he
        | row row args => exact Rows.mono h fun u w'' he => ⟨keep a hy u, (hcomm a u) ▸ he⟩
        | _ => exact h.elim
    · right
      refine ⟨?_, hl⟩
      unfold Oper.asks at *
      rwa [execOp_put oj hsj a x v h1] at h

/-- Whatever order is picked from here on; S holds behind each operation but those of T. -/
def wpTake (P : Program) (md : Region.Mode) (ops : Array Oper) (Q : Exit → Act → World → Prop) (S : World → Prop) (T : Nat → Bool) : Nat → Array Bool → Act → World → Prop
  | 0, listed, a, w => Region.ready md ops listed = [] ∧ Q .normal a w
  | fuel + 1, listed, a, w => (Region.ready md ops listed = [] → Q .normal a w) ∧ ∀ i ∈ Region.ready md ops listed, wpOp P ops Q i (fun a' w' => (T i = true ∨ S w') ∧ wpTake P md ops Q S T fuel (listed.setIfInBounds i true) a' w') a w

theorem wpTake_any : ∀ (fuel : Nat) (listed : Array Bool) (a : Act) (w : World), wpTake P md ops Q S T fuel listed a w → wpAny P md ops Q fuel listed a w
  | 0, _, _, _, h => h
  | fuel + 1, _, _, _, h => ⟨h.1, fun i hi => wpOp_mono (fun a' w' h' => wpTake_any fuel _ a' w' h'.2) (h.2 i hi)⟩

/-- j waits for i, through others perhaps. -/
def ancB (md : Region.Mode) (ops : Array Oper) : Nat → Nat → Nat → Bool
  | 0, _, _ => false
  | n + 1, j, i => match ops[j]? with
    | some oj => oj.after.any fun e => Region.binds md e && (e.on == i || ancB md ops n e.on i)
    | none => false
/-- Nobody of T can come up ahead of i. -/
def waits (md : Region.Mode) (ops : Array Oper) (T : Nat → Bool) (i : Nat) : Bool := (List.range ops.size).all fun j => !T j || ancB md ops ops.size j i
/-- Whoever has come up, those that it waits for have. -/
def Closed (md : Region.Mode) (ops : Array Oper) (listed : Array Bool) : Prop := ∀ j oj, ops[j]? = some oj → listed.getD j false = true → ∀ e ∈ oj.after, Region.binds md e = true → listed.getD e.on false = true
def closedB (md : Region.Mode) (ops : Array Oper) (listed : Array Bool) : Bool := (List.range ops.size).all fun j => match ops[j]? with
  | some oj => !listed.getD j false || oj.after.all fun e => !Region.binds md e || listed.getD e.on false
  | none => true
theorem closed_of {listed : Array Bool} (h : closedB md ops listed = true) : Closed md ops listed := fun j oj hj hl e he hb => by
  have h1 := List.all_eq_true.1 h j (List.mem_range.2 (Array.getElem?_eq_some_iff.1 hj).1)
  simp only [hj, hl, Bool.not_true, Bool.false_or] at h1
  have h2 := Array.all_eq_true_iff_forall_mem.1 h1 e he
  simpa [hb] using h2
theorem anc_listed {listed : Array Bool} (hc : Closed md ops listed) : ∀ (n j i : Nat) (oj : Oper), ops[j]? = some oj → (∀ e ∈ oj.after, Region.binds md e = true → listed.getD e.on false = true) → ancB md ops n j i = true → listed.getD i false = true
  | 0, _, _, _, _, _, h => by simp [ancB] at h
  | n + 1, j, i, oj, hj, hd, h => by
    simp only [ancB, hj] at h
    obtain ⟨e, he, hb⟩ := Array.any_eq_true'.1 h
    simp only [Bool.and_eq_true, Bool.or_eq_true, beq_iff_eq] at hb
    have hl := hd e he hb.1
    rcases hb.2 with h2 | h2
    · rw [← h2]; exact hl
    · cases ho : ops[e.on]? with
      | none => cases n <;> simp [ancB, ho] at h2
      | some o' => exact anc_listed hc n e.on i o' ho (fun x hx hbx => hc e.on o' ho hl x hx hbx) h2
theorem closed_set {listed : Array Bool} {j : Nat} (hc : Closed md ops listed) (hj : j ∈ Region.ready md ops listed) : Closed md ops (listed.setIfInBounds j true) := fun k ok hk hl e he hb => by
  by_cases e1 : j = k
  · subst e1
    obtain ⟨_, oj, hoj, hall⟩ := mem_ready.1 hj
    rw [hoj] at hk
    cases hk
    exact getD_set_true (hall e he hb)
  · rw [getD_set_ne false e1] at hl
    exact getD_set_true (hc k ok hk hl e he hb)

theorem take_step {i : Nat} {oi : Oper} {v : Value} (hi : ops[i]? = some oi) (hs : ∀ (j : Nat) (o : Oper) cs b, ops[j]? = some o → o.op ≠ .select cs b) (hT : waits md ops T i = true) (hQ : ∀ c a w, Q (.panic c) (a.put oi.dst v) w → Q (.panic c) a w) :
    ∀ (fuel : Nat) (listed : Array Bool) (a : Act) (w : World), Closed md ops listed → (∀ j oj, ops[j]? = some oj → j ≠ i → listed.getD j true = false → (∀ e ∈ oj.after, Region.binds md e = true → e.on ≠ i) → oi.apart ops oj = true) →
      i ∈ Region.ready md ops listed → Fix P ops S oi v a → S w →
      wpTake P md ops Q S T fuel (listed.setIfInBounds i true) (a.put oi.dst v) w → wpTake P md ops Q S T (fuel + 1) listed a w := by
  intro fuel
  induction fuel with
  | zero =>
    intro listed a w _ _ hr hy hS H
    refine ⟨fun h => absurd (h ▸ hr) List.not_mem_nil, fun j hj => ?_⟩
    by_cases e : j = i
    · subst e
      exact hy.carry hi hS ⟨.inr hS, H⟩
    · exact absurd (H.1 ▸ ready_mono hj e) List.not_mem_nil
  | succ fuel ih =>
    intro listed a w hcl hf hr hy hS H
    refine ⟨fun h => absurd (h ▸ hr) List.not_mem_nil, fun j hj => ?_⟩
    by_cases e : j = i
    · subst e
      exact hy.carry hi hS ⟨.inr hS, H⟩
    obtain ⟨hun, oj, hoj, hall⟩ := mem_ready.1 hj
    have hi0 := (mem_ready.1 hr).1
    have hlt : i < listed.size := by
      rcases Nat.lt_or_ge i listed.size with h | h
      · exact h
      · simp [Array.getElem?_eq_none h] at hi0
    have hno : ∀ x ∈ oj.after, Region.binds md x = true → x.on ≠ i := fun x hx hb ex => by
      have h1 := hall x hx hb
      rw [ex] at h1
      simp [hlt] at hi0 h1
      rw [hi0] at h1
      cases h1
    have hTj : T j = false := by
      cases h : T j with
      | false => rfl
      | true =>
        have hjl : j < ops.size := (Array.getElem?_eq_some_iff.1 hoj).1
        have h1 := List.all_eq_true.1 hT j (List.mem_range.2 hjl)
        simp only [h, Bool.not_true, Bool.false_or] at h1
        have h2 := anc_listed hcl _ _ _ _ hoj hall h1
        simp [hlt] at hi0 h2
        rw [hi0] at h2
        cases h2
    obtain ⟨p1, p2, p3⟩ := Oper.apart_spec (hf j oj hoj e hun hno)
    have h1 := H.2 j (ready_mono hj e)
    have h2 := later_put (Y := Fix P ops S oi v) hoj p1 p2 (fun cs b => hs j oj cs b hoj) hQ (fun b hb u => hb.same (execOp_put oi (fun cs b => hs i oi cs b hi) b oj.dst u p3) (wanted_put oi b oj.dst u p3)) (fun b d hb => hb.same rfl rfl) hy h1
    refine wpOp_mono (fun a' w' h3 => ?_) h2
    obtain ⟨hy', hS', h4⟩ := h3
    have hS'' : S w' := by
      rcases hS' with h | h
      · rw [hTj] at h; cases h
      · exact h
    refine ⟨.inr hS'', ih (listed.setIfInBounds j true) a' w' (closed_set hcl hj) (fun k ok hk hki hkun hkno => ?_) (ready_mono hr (Ne.symm e)) hy' hS'' ?_⟩
    · refine hf k ok hk hki ?_ hkno
      by_cases ejk : j = k
      · subst ejk; exact hun
      · rw [getD_set_ne true ejk] at hkun
        exact hkun
    · rw [Array.setIfInBounds_comm _ _ e]
      exact h4

theorem take_free {i : Nat} {oi : Oper} {v : Value} (hi : ops[i]? = some oi) (hs : ∀ (j : Nat) (o : Oper) cs b, ops[j]? = some o → o.op ≠ .select cs b) (hTi : T i = true) (hQ : ∀ c a w, Q (.panic c) (a.put oi.dst v) w → Q (.panic c) a w) :
    ∀ (fuel : Nat) (listed : Array Bool) (a : Act) (w : World), Closed md ops listed → (∀ j oj, ops[j]? = some oj → j ≠ i → listed.getD j true = false → (∀ e ∈ oj.after, Region.binds md e = true → e.on ≠ i) → oi.apart ops oj = true) →
      i ∈ Region.ready md ops listed → Fix P ops (fun _ => True) oi v a →
      wpTake P md ops Q S T fuel (listed.setIfInBounds i true) (a.put oi.dst v) w → wpTake P md ops Q S T (fuel + 1) listed a w := by
  intro fuel
  induction fuel with
  | zero =>
    intro listed a w _ _ hr hy H
    refine ⟨fun h => absurd (h ▸ hr) List.not_mem_nil, fun j hj => ?_⟩
    by_cases e : j = i
    · subst e
      exact hy.carry hi trivial ⟨.inl hTi, H⟩
    · exact absurd (H.1 ▸ ready_mono hj e) List.not_mem_nil
  | succ fuel ih =>
    intro listed a w hcl hf hr hy H
    refine ⟨fun h => absurd (h ▸ hr) List.not_mem_nil, fun j hj => ?_⟩
    by_cases e : j = i
    · subst e
      exact hy.carry hi trivial ⟨.inl hTi, H⟩
    obtain ⟨hun, oj, hoj, hall⟩ := mem_ready.1 hj
    have hi0 := (mem_ready.1 hr).1
    have hlt : i < listed.size := by
      rcases Nat.lt_or_ge i listed.size with h | h
      · exact h
      · simp [Array.getElem?_eq_none h] at hi0
    have hno : ∀ x ∈ oj.after, Region.binds md x = true → x.on ≠ i := fun x hx hb ex => by
      have h1 := hall x hx hb
      rw [ex] at h1
      simp [hlt] at hi0 h1
      rw [hi0] at h1
      cases h1
    obtain ⟨p1, p2, p3⟩ := Oper.apart_spec (hf j oj hoj e hun hno)
    have h1 := H.2 j (ready_mono hj e)
    have h2 := later_put (Y := Fix P ops (fun _ => True) oi v) hoj p1 p2 (fun cs b => hs j oj cs b hoj) hQ (fun b hb u => hb.same (execOp_put oi (fun cs b => hs i oi cs b hi) b oj.dst u p3) (wanted_put oi b oj.dst u p3)) (fun b d hb => hb.same rfl rfl) hy h1
    refine wpOp_mono (fun a' w' h3 => ?_) h2
    obtain ⟨hy', hS', h4⟩ := h3
    refine ⟨hS', ih (listed.setIfInBounds j true) a' w' (closed_set hcl hj) (fun k ok hk hki hkun hkno => ?_) (ready_mono hr (Ne.symm e)) hy' ?_⟩
    · refine hf k ok hk hki ?_ hkno
      by_cases ejk : j = k
      · subst ejk; exact hun
      · rw [getD_set_ne true ejk] at hkun
        exact hkun
    · rw [Array.setIfInBounds_comm _ _ e]
      exact h4

/-- Number i is taken first. -/
theorem wpTake_take {i : Nat} {oi : Oper} {v : Value} {fuel : Nat} {listed : Array Bool} {a : Act} {w : World} (hi : ops[i]? = some oi) (hs : Region.noSelect ops = true) (hT : waits md ops T i = true) (hcl : closedB md ops listed = true) (hf : Region.free md ops listed i = true) (hr : (Region.ready md ops listed).contains i = true)
    (hQ : ∀ c a w, Q (.panic c) (a.put oi.dst v) w → Q (.panic c) a w) (hy : Fix P ops S oi v a) (hS : S w) (h : wpTake P md ops Q S T fuel (listed.setIfInBounds i true) (a.put oi.dst v) w) : wpTake P md ops Q S T (fuel + 1) listed a w :=
  take_step hi (Region.noSelect_spec hs) hT hQ fuel listed a w (closed_of hcl) (Region.free_spec hi hf) (by simpa using hr) hy hS h
/-- One alone may come up. -/
theorem wpTake_one {i : Nat} {oi : Oper} {fuel : Nat} {listed : Array Bool} {a : Act} {w : World} (hi : ops[i]? = some oi) (hr : Region.ready md ops listed = [i])
    (h : ∀ K : Act → World → Prop, (∀ a' w', (T i = true ∨ S w') ∧ wpTake P md ops Q S T fuel (listed.setIfInBounds i true) a' w' → K a' w') → if Region.wanted oi (yielded ops a.tmps) = true then oi.wp P a w K Q else K (a.put oi.dst undef) w) : wpTake P md ops Q S T (fuel + 1) listed a w := by
  refine ⟨fun h0 => (by rw [hr] at h0; cases h0), fun j hj => ?_⟩
  rw [hr, List.mem_singleton] at hj
  subst hj
  have h1 := h _ (fun _ _ h => h)
  unfold wpOp
  rw [hi]
  simp only
  split
  · rename_i hw; rw [if_pos hw] at h1; exact .inl h1
  · rename_i hw; rw [if_neg hw] at h1; exact h1
/-- Two may come up. -/
theorem wpTake_two {i k : Nat} {oi ok : Oper} {fuel : Nat} {listed : Array Bool} {a : Act} {w : World} (hi : ops[i]? = some oi) (hk : ops[k]? = some ok) (hr : Region.ready md ops listed = [i, k])
    (h : ∀ K : Act → World → Prop, (∀ a' w', (T i = true ∨ S w') ∧ wpTake P md ops Q S T fuel (listed.setIfInBounds i true) a' w' → K a' w') → if Region.wanted oi (yielded ops a.tmps) = true then oi.wp P a w K Q else K (a.put oi.dst undef) w)
    (h' : ∀ K : Act → World → Prop, (∀ a' w', (T k = true ∨ S w') ∧ wpTake P md ops Q S T fuel (listed.setIfInBounds k true) a' w' → K a' w') → if Region.wanted ok (yielded ops a.tmps) = true then ok.wp P a w K Q else K (a.put ok.dst undef) w) : wpTake P md ops Q S T (fuel + 1) listed a w := by
  refine ⟨fun h0 => (by rw [hr] at h0; cases h0), fun j hj => ?_⟩
  rw [hr] at hj
  simp only [List.mem_cons, List.not_mem_nil, or_false] at hj
  rcases hj with rfl | rfl
  · have h1 := h _ (fun _ _ h => h)
    unfold wpOp
    rw [hi]
    simp only
    split
    · rename_i hw; rw [if_pos hw] at h1; exact .inl h1
    · rename_i hw; rw [if_neg hw] at h1; exact h1
  · have h1 := h' _ (fun _ _ h => h)
    unfold wpOp
    rw [hk]
    simp only
    split
    · rename_i hw; rw [if_pos hw] at h1; exact .inl h1
    · rename_i hw; rw [if_neg hw] at h1; exact h1
theorem wpTake_done {fuel : Nat} {listed : Array Bool} {a : Act} {w : World} (hr : Region.ready md ops listed = []) (h : Q .normal a w) : wpTake P md ops Q S T fuel listed a w := by
  cases fuel with
  | zero => exact ⟨hr, h⟩
  | succ fuel => exact ⟨fun _ => h, fun j hj => absurd (hr ▸ hj) List.not_mem_nil⟩
theorem wp_region_take {id : Nat} {a : Act} {w : World} (S : World → Prop) (T : Nat → Bool) (hm : P.follows .mixedOrders = true) (h : wpTake P .any ops Q S T ops.size (Array.replicate ops.size false) a w.drew) : (Code.region id ops true).wp P Q a w :=
  wp_region_any hm (wpTake_any _ _ _ _ h)

theorem wpTake_val {i : Nat} {oi : Oper} {v : Value} {fuel : Nat} {listed : Array Bool} {a : Act} {w : World} (hi : ops[i]? = some oi) (hs : Region.noSelect ops = true) (hT : waits md ops T i = true) (hcl : closedB md ops listed = true) (hf : Region.free md ops listed i = true) (hr : (Region.ready md ops listed).contains i = true)
    (hQ : ∀ c a w, Q (.panic c) (a.put oi.dst v) w → Q (.panic c) a w) (hS : S w) (hw : Region.wanted oi (yielded ops a.tmps) = true) (hy : ∀ w, S w → (execOp a.eval oi).run P w = .ok (.value v) w) (h : wpTake P md ops Q S T fuel (listed.setIfInBounds i true) (a.put oi.dst v) w) : wpTake P md ops Q S T (fuel + 1) listed a w :=
  wpTake_take hi hs hT hcl hf hr hQ (.inl ⟨hw, fun w' h' => by unfold Oper.quietAt; rw [hy w' h']; exact ⟨rfl, rfl⟩⟩) hS h
theorem wpTake_call {i : Nat} {oi : Oper} {v : Value} {fuel : Nat} {listed : Array Bool} {a : Act} {w : World} (f : FuncId) (args : Array Value) (hi : ops[i]? = some oi) (hs : Region.noSelect ops = true) (hT : waits md ops T i = true) (hcl : closedB md ops listed = true) (hf : Region.free md ops listed i = true) (hr : (Region.ready md ops listed).contains i = true)
    (hQ : ∀ c a w, Q (.panic c) (a.put oi.dst v) w → Q (.panic c) a w) (hS : S w) (hw : Region.wanted oi (yielded ops a.tmps) = true) (hy : ∀ w, S w → (execOp a.eval oi).run P w = .ok (.enter f args) w) (hc : ∀ w, S w → Calls P f args w fun e w' => e = .returned v ∧ w' = w) (h : wpTake P md ops Q S T fuel (listed.setIfInBounds i true) (a.put oi.dst v) w) : wpTake P md ops Q S T (fuel + 1) listed a w :=
  wpTake_take hi hs hT hcl hf hr hQ (.inl ⟨hw, fun w' h' => by unfold Oper.quietAt; rw [hy w' h']; exact ⟨rfl, hc w' h'⟩⟩) hS h
theorem wpTake_free {i : Nat} {oi : Oper} {v : Value} {fuel : Nat} {listed : Array Bool} {a : Act} {w : World} (hi : ops[i]? = some oi) (hs : Region.noSelect ops = true) (hTi : T i = true) (hcl : closedB md ops listed = true) (hf : Region.free md ops listed i = true) (hr : (Region.ready md ops listed).contains i = true)
    (hQ : ∀ c a w, Q (.panic c) (a.put oi.dst v) w → Q (.panic c) a w) (hw : Region.wanted oi (yielded ops a.tmps) = true) (hy : ∀ w, (execOp a.eval oi).run P w = .ok (.value v) w) (h : wpTake P md ops Q S T fuel (listed.setIfInBounds i true) (a.put oi.dst v) w) : wpTake P md ops Q S T (fuel + 1) listed a w :=
  take_free hi (Region.noSelect_spec hs) hTi hQ fuel listed a w (closed_of hcl) (Region.free_spec hi hf) (by simpa using hr) (.inl ⟨hw, fun w' _ => by unfold Oper.quietAt; rw [hy w']; exact ⟨rfl, rfl⟩⟩) h
end
end Go.Proofs.Ytfpkibfofainaaa
/- A region that draws its order, walked by an invariant: each operation once, whatever else has come up by then. Over whatever program. -/
namespace Go.Proofs.Ytfpkibfofainaaa
open Go

section
variable {P : Program} {ops : Array Oper} {Q : Exit → Act → World → Prop} {md : Region.Mode}

def dstOf (ops : Array Oper) (i : Nat) : Option Tmp := (ops[i]?).bind (·.dst)
def updB (L : Nat → Bool) (i : Nat) : Nat → Bool := fun j => if j = i then true else L j
def updV (V : Nat → Value) (i : Nat) (v : Value) : Nat → Value := fun j => if j = i then v else V j
theorem updB_ne {L : Nat → Bool} {i j : Nat} (h : j ≠ i) : updB L i j = L j := if_neg h
theorem updB_same {L : Nat → Bool} {i : Nat} : updB L i i = true := if_pos rfl
theorem updV_ne {V : Nat → Value} {i j : Nat} {v : Value} (h : j ≠ i) : updV V i v j = V j := if_neg h
theorem updV_same {V : Nat → Value} {i : Nat} {v : Value} : updV V i v i = v := if_pos rfl

/-- The frame with what has come up. -/
def putL (ops : Array Oper) (L : Nat → Bool) (V : Nat → Value) (a : Act) : Nat → Act
  | 0 => a
  | n + 1 => if L n = true then (putL ops L V a n).put (dstOf ops n) (V n) else putL ops L V a n
/-- An operand's value where slot d holds u. -/
def ext (ρ : Operand → Value) (d : Tmp) (u : Value) : Operand → Value
  | .tmp t => if t = d then u else ρ (.tmp t)
  | x => ρ x
def extD (ρ : Operand → Value) (V : Nat → Value) : List (Nat × Tmp) → Operand → Value
  | [] => ρ
  | (j, d) :: l => ext (extD ρ V l) d (V j)

/-- The guard's word, by an operand's values. -/
def wantE (ops : Array Oper) (o : Oper) (ρ : Operand → Value) : Bool :=
  match o.guard with
  | none => true
  | some (g, want) => match dstOf ops g with
    | some t => (match ρ (.tmp t) with | .bool b => b == want | _ => false)
    | none => false

def uponW (P : Program) (K : Value → World → Prop) : Result Next → Prop
  | .ok (.value v) w' => K v w'
  | .ok .skip w' => K undef w'
  | .ok (.enter f args) w' => Calls P f args w' fun e w'' => ∃ v, e = .returned v ∧ K v w''
  | .ok (.row row args) w' => Rows P row args w' K
  | _ => False
/-- One operation, by its operands' values. -/
def opW (P : Program) (ops : Array Oper) (ρ : Operand → Value) (o : Oper) (w : World) (K : Value → World → Prop) : Prop :=
  if wantE ops o ρ = true then uponW P K ((execOp ρ o).run P w) else K undef w

theorem uponW_upon {o : Oper} {a : Act} {K : Value → World → Prop} {N : Act → World → Prop} (h : ∀ v w, K v w → N (a.put o.dst v) w) {r : Result Next} (hr : uponW P K r) : o.upon P a N Q r := by
  cases r with
  | halt x w' => exact hr.elim
  | ok n w' =>
    cases n with
    | value u => exact h _ _ hr
    | skip => exact h _ _ hr
    | enter f args =>
      refine Calls.mono hr fun e w'' ⟨v, he, hk⟩ => ?_
      subst he
      exact h _ _ hk
    | row row args => exact Rows.mono hr fun v w'' hk => h _ _ hk
    | _ => exact hr.elim

/-- What the frame holds at a slot. -/
theorem put_get (a : Act) (d : Option Tmp) (v : Value) (t : Tmp) : (a.put d v).tmps[t]? = if d = some t ∧ t < a.tmps.size then some v else a.tmps[t]? := by
  cases d with
  | none => simp [Act.put]
  | some d =>
    by_cases e : d = t
    · subst e
      by_cases h : d < a.tmps.size
      · simp [Act.put, h]
      · simp [Act.put, h]
    · simp [Act.put, e, Array.getElem?_setIfInBounds_ne e]
theorem put_size (a : Act) (d : Option Tmp) (v : Value) : (a.put d v).tmps.size = a.tmps.size := by cases d <;> simp [Act.put]
theorem putL_size (L : Nat → Bool) (V : Nat → Value) (a : Act) (n : Nat) : (putL ops L V a n).tmps.size = a.tmps.size := by
  induction n with
  | zero => rfl
  | succ n ih => unfold putL; split <;> simp [put_size, ih]
/-- Nobody who has come up writes the slot. -/
theorem putL_no {L : Nat → Bool} {V : Nat → Value} {a : Act} {t : Tmp} : ∀ n, (∀ j, j < n → dstOf ops j = some t → L j = false) → (putL ops L V a n).tmps[t]? = a.tmps[t]?
  | 0, _ => rfl
  | n + 1, h => by
    unfold putL
    split
    · rename_i hl
      rw [put_get, if_neg (fun ⟨e, _⟩ => by rw [h n (Nat.lt_succ_self n) e] at hl; cases hl)]
      exact putL_no n fun j hj => h j (by omega)
    · exact putL_no n fun j hj => h j (by omega)
/-- One who has come up writes it, and he alone. -/
theorem putL_yes {L : Nat → Bool} {V : Nat → Value} {a : Act} {t : Tmp} {j : Nat} (hd : dstOf ops j = some t) (hl : L j = true) (hu : ∀ k, dstOf ops k = some t → k = j) (ht : t < a.tmps.size) : ∀ n, j < n → (putL ops L V a n).tmps[t]? = some (V j)
  | 0, h => absurd h (Nat.not_lt_zero _)
  | n + 1, h => by
    unfold putL
    by_cases e : j = n
    · subst e
      rw [if_pos hl, put_get, if_pos ⟨hd, by rw [putL_size]; exact ht⟩]
    · split
      · rw [put_get, if_neg (fun ⟨x, _⟩ => e (hu n x).symm)]
        exact putL_yes hd hl hu ht n (by omega)
      · exact putL_yes hd hl hu ht n (by omega)
theorem putL_defers (L : Nat → Bool) (V : Nat → Value) (a : Act) (n : Nat) : (putL ops L V a n).defers = a.defers := by
  induction n with
  | zero => rfl
  | succ n ih => unfold putL; split; · rw [← ih]; cases dstOf ops n <;> rfl
                 · exact ih
theorem putL_congr {L L' : Nat → Bool} {V V' : Nat → Value} {a : Act} : ∀ n, (∀ j, j < n → L j = L' j ∧ (L j = true → V j = V' j)) → putL ops L V a n = putL ops L' V' a n
  | 0, _ => rfl
  | n + 1, h => by
    unfold putL
    obtain ⟨h1, h2⟩ := h n (Nat.lt_succ_self n)
    rw [putL_congr n fun j hj => h j (by omega), ← h1]
    split
    · rename_i hl; rw [h2 hl]
    · rfl
theorem putL_step {L : Nat → Bool} {V : Nat → Value} {a : Act} {i : Nat} {v : Value} (hi : L i = false) (hu : ∀ j k t, dstOf ops j = some t → dstOf ops k = some t → j = k) : ∀ n, i < n → putL ops (updB L i) (updV V i v) a n = (putL ops L V a n).put (dstOf ops i) v
  | 0, h => absurd h (Nat.not_lt_zero _)
  | n + 1, h => by
    unfold putL
    by_cases e : n = i
    · subst e
      rw [if_pos updB_same, updV_same, if_neg (by rw [hi]; exact Bool.false_ne_true)]
      rw [putL_congr (V' := V) (L' := L) n fun j hj => ⟨updB_ne (by omega), fun _ => updV_ne (by omega)⟩]
    · rw [putL_step hi hu n (by omega), updB_ne e, updV_ne e]
      split
      · rw [Act.put_comm]
        intro d hd hd'
        exact e (hu _ _ _ hd' hd)
      · rfl

/-- The checks: see okB's parts. M: for each operation the bits of those it waits for; D: for each the operands that others of the region yield. -/
def maskB (M : List Nat) (i j : Nat) : Bool := (M.getD i 0).testBit j
def edgesB (ops : Array Oper) (M : List Nat) (i : Nat) : Bool := match ops[i]? with
  | some o => (o.after.all fun e => !Region.binds .any e || Nat.blt e.on i) && (List.range i).all (fun j => !maskB M i j || o.after.any fun e => Region.binds .any e && (e.on == j || maskB M e.on j)) && Nat.blt (M.getD i 0) (2 ^ i)
  | none => false
def readsB (ops : Array Oper) (M : List Nat) (D : List (List (Nat × Tmp))) (i : Nat) : Bool := match ops[i]? with
  | some o => (o.looksAt ops).all (fun t => (List.range ops.size).all fun j => dstOf ops j != some t || (D.getD i []).contains (j, t) || maskB M j i || j == i) && (D.getD i []).all (fun p => maskB M i p.1 && dstOf ops p.1 == some p.2)
  | none => false
def distinctB (ops : Array Oper) : Bool := (List.range ops.size).all fun i => (List.range i).all fun j => (dstOf ops i).isNone || dstOf ops i != dstOf ops j
def inB (ops : Array Oper) (n : Nat) : Bool := (List.range ops.size).all fun i => match dstOf ops i with | some t => Nat.blt t n | none => true
def okB (ops : Array Oper) (n : Nat) (M : List Nat) (D : List (List (Nat × Tmp))) : Bool :=
  Region.noSelect ops && inB ops n && distinctB ops && (List.range ops.size).all (fun i => edgesB ops M i && readsB ops M D i)

structure Ok (ops : Array Oper) (n : Nat) (M : List Nat) (D : List (List (Nat × Tmp))) : Prop where
  sel : ∀ (j : Nat) (o : Oper) cs b, ops[j]? = some o → o.op ≠ .select cs b
  size : ∀ j t, dstOf ops j = some t → t < n
  uniq : ∀ j k t, dstOf ops j = some t → dstOf ops k = some t → j = k
  low : ∀ i o, ops[i]? = some o → ∀ e ∈ o.after, Region.binds .any e = true → e.on < i
  anc : ∀ i o j, ops[i]? = some o → maskB M i j = true → ∃ e ∈ o.after, Region.binds .any e = true ∧ (e.on = j ∨ maskB M e.on j = true)
  reads : ∀ i o t, ops[i]? = some o → t ∈ o.looksAt ops → ∀ j, j < ops.size → dstOf ops j = some t → (j, t) ∈ D.getD i [] ∨ maskB M j i = true ∨ j = i
  deps : ∀ i o p, ops[i]? = some o → p ∈ D.getD i [] → maskB M i p.1 = true ∧ dstOf ops p.1 = some p.2
theorem dst_lt {j : Nat} {t : Tmp} (h : dstOf ops j = some t) : j < ops.size := by
  rcases Nat.lt_or_ge j ops.size with h' | h'
  · exact h'
  · simp [dstOf, Array.getElem?_eq_none h'] at h
theorem ok_of {n : Nat} {M : List Nat} {D : List (List (Nat × Tmp))} (h : okB ops n M D = true) : Ok ops n M D := by
  unfold okB at h
  simp only [Bool.and_eq_true, List.all_eq_true, List.mem_range] at h
  obtain ⟨⟨⟨h1, h2⟩, h3⟩, h4⟩ := h
  have lt : ∀ {i : Nat} {o : Oper}, ops[i]? = some o → i < ops.size := fun h => (Array.getElem?_eq_some_iff.1 h).1
  refine ⟨Region.noSelect_spec h1, fun j t hj => ?_, fun j k t hj hk => ?_, fun i o hi e he hb => ?_, fun i o j hi hm => ?_, fun i o t hi ht j hj hd => ?_, fun i o p hi hp => ?_⟩
  · unfold inB at h2
    have := List.all_eq_true.1 h2 j (List.mem_range.2 (dst_lt hj))
    simp only [hj] at this
    exact Nat.blt_eq ▸ this
  · unfold distinctB at h3
    have key : ∀ j k, k < j → dstOf ops j = some t → dstOf ops k = some t → False := fun j k hkj hj hk => by
      have := List.all_eq_true.1 (List.all_eq_true.1 h3 j (List.mem_range.2 (dst_lt hj))) k (List.mem_range.2 hkj)
      simp [hj, hk] at this
    rcases Nat.lt_trichotomy j k with h | h | h
    · exact (key k j h hk hj).elim
    · exact h
    · exact (key j k h hj hk).elim
  · have := (h4 i (lt hi)).1
    simp only [edgesB, hi, Bool.and_eq_true] at this
    have h5 := Array.all_eq_true_iff_forall_mem.1 this.1.1 e he
    simp only [hb, Bool.not_true, Bool.false_or] at h5
    exact Nat.blt_eq ▸ h5
  · have := (h4 i (lt hi)).1
    simp only [edgesB, hi, Bool.and_eq_true] at this
    have hji : j < i := by
      rcases Nat.lt_or_ge j i with h | h
      · exact h
      · have h6 : M.getD i 0 < 2 ^ i := Nat.blt_eq ▸ this.2
        have h7 := Nat.testBit_lt_two_pow (Nat.lt_of_lt_of_le h6 (Nat.pow_le_pow_right (by omega) h))
        unfold maskB at hm
        rw [h7] at hm
        cases hm
    have h5 := List.all_eq_true.1 this.1.2 j (List.mem_range.2 hji)
    simp only [hm, Bool.not_true, Bool.false_or] at h5
    obtain ⟨e, he, hb⟩ := Array.any_eq_true'.1 h5
    simp only [Bool.and_eq_true, Bool.or_eq_true, beq_iff_eq] at hb
    exact ⟨e, he, hb.1, hb.2⟩
  · have := (h4 i (lt hi)).2
    simp only [readsB, hi, Bool.and_eq_true] at this
    have h5 := List.all_eq_true.1 (List.all_eq_true.1 this.1 t ht) j (List.mem_range.2 hj)
    simp only [hd, Bool.or_eq_true, bne_self_eq_false, Bool.false_eq_true, false_or, beq_iff_eq] at h5
    rcases h5 with (h5 | h5) | h5
    · exact .inl (by simpa using h5)
    · exact .inr (.inl h5)
    · exact .inr (.inr h5)
  · have := (h4 i (lt hi)).2
    simp only [readsB, hi, Bool.and_eq_true] at this
    have h5 := List.all_eq_true.1 this.2 p hp
    simpa using h5

/-- Whoever has come up, or may come up, all that he waits for has come up. -/
theorem anc_all {n : Nat} {M : List Nat} {D : List (List (Nat × Tmp))} {listed : Array Bool} (ok : Ok ops n M D) (hc : Closed .any ops listed) : ∀ i o, ops[i]? = some o → (∀ e ∈ o.after, Region.binds .any e = true → listed.getD e.on false = true) → ∀ j, maskB M i j = true → listed.getD j false = true := by
  intro i
  induction i using Nat.strongRecOn with
  | _ i ih =>
    intro o hi hd j hm
    obtain ⟨e, he, hb, h⟩ := ok.anc i o j hi hm
    have hl := hd e he hb
    rcases h with h | h
    · exact h ▸ hl
    · have hlt := ok.low i o hi e he hb
      have : i < ops.size := (Array.getElem?_eq_some_iff.1 hi).1
      obtain ⟨o', ho'⟩ : ∃ o', ops[e.on]? = some o' := ⟨ops[e.on]'(by omega), Array.getElem?_eq_getElem (by omega)⟩
      exact ih e.on hlt o' ho' (fun x hx hbx => hc e.on o' ho' hl x hx hbx) j h

/-- The operands' values of number i, in the frame as it stands. -/
theorem extD_get {ρ : Operand → Value} {V : Nat → Value} {t : Tmp} : ∀ l : List (Nat × Tmp), (∀ p ∈ l, p.2 ≠ t) → extD ρ V l (.tmp t) = ρ (.tmp t)
  | [], _ => rfl
  | (j, d) :: l, h => by
    unfold extD ext
    simp only
    rw [if_neg (fun e => h (j, d) (by simp) e.symm)]
    exact extD_get l fun p hp => h p (List.mem_cons_of_mem _ hp)
theorem extD_hit {ρ : Operand → Value} {V : Nat → Value} {t : Tmp} {j : Nat} : ∀ l : List (Nat × Tmp), (j, t) ∈ l → (∀ p ∈ l, p.2 = t → p.1 = j) → extD ρ V l (.tmp t) = V j
  | [], h, _ => absurd h List.not_mem_nil
  | (k, d) :: l, h, hu => by
    unfold extD ext
    simp only
    by_cases e : t = d
    · rw [if_pos e]
      have h1 : k = j := hu (k, d) (by simp) e.symm
      rw [h1]
    · rw [if_neg e]
      refine extD_hit l ?_ fun p hp => hu p (List.mem_cons_of_mem _ hp)
      rcases List.mem_cons.1 h with h | h
      · cases h; exact absurd rfl e
      · exact h
theorem extD_else {ρ : Operand → Value} {V : Nat → Value} {x : Operand} (hx : ∀ t, x ≠ .tmp t) : ∀ l : List (Nat × Tmp), extD ρ V l x = ρ x
  | [] => rfl
  | (k, d) :: l => by
    unfold extD ext
    cases x with
    | tmp t => exact absurd rfl (hx t)
    | _ => exact extD_else hx l

variable {n : Nat} {M : List Nat} {D : List (List (Nat × Tmp))}
theorem eval_same (ok : Ok ops n M D) {L : Nat → Bool} {V : Nat → Value} {a : Act} (hn : a.tmps.size = n) {i : Nat} {o : Oper} (hi : ops[i]? = some o) (hL : L i = false) (hd : ∀ j, maskB M i j = true → L j = true) (hw : ∀ j, j < ops.size → maskB M j i = true → L j = false) {t : Tmp} (ht : t ∈ o.looksAt ops) :
    (putL ops L V a ops.size).eval (.tmp t) = extD a.eval V (D.getD i []) (.tmp t) := by
  by_cases h : ∃ j, (j, t) ∈ D.getD i []
  · obtain ⟨j, hj⟩ := h
    obtain ⟨h1, h2⟩ := ok.deps i o (j, t) hi hj
    rw [extD_hit _ hj fun p hp e => ok.uniq _ _ t (e ▸ (ok.deps i o p hi hp).2) h2]
    simp only [Act.eval]
    rw [Array.getD_eq_getD_getElem?, putL_yes h2 (hd j h1) (fun k hk => ok.uniq _ _ t hk h2) (hn ▸ ok.size j t h2) _ (dst_lt h2)]
    rfl
  · rw [extD_get _ fun p hp e => h ⟨p.1, by rw [← e]; exact hp⟩]
    simp only [Act.eval, Array.getD_eq_getD_getElem?]
    rw [putL_no _ fun j hj hdj => ?_]
    rcases ok.reads i o t hi ht j hj hdj with h' | h' | h'
    · exact absurd ⟨j, h'⟩ h
    · exact hw j hj h'
    · exact h' ▸ hL

theorem want_same (ok : Ok ops n M D) {L : Nat → Bool} {V : Nat → Value} {a : Act} (hn : a.tmps.size = n) {i : Nat} {o : Oper} (hi : ops[i]? = some o) (hL : L i = false) (hd : ∀ j, maskB M i j = true → L j = true) (hw : ∀ j, j < ops.size → maskB M j i = true → L j = false) :
    Region.wanted o (yielded ops (putL ops L V a ops.size).tmps) = wantE ops o (extD a.eval V (D.getD i [])) := by
  unfold Region.wanted wantE
  cases hg : o.guard with
  | none => rfl
  | some gw =>
    obtain ⟨g, want⟩ := gw
    unfold yielded
    simp only
    cases ht : dstOf ops g with
    | none =>
      unfold dstOf at ht
      rw [ht]
      rfl
    | some t =>
      have hl : t ∈ o.looksAt ops := by
        unfold dstOf at ht
        simp [Oper.looksAt, hg, ht]
      simp only
      rw [← eval_same ok hn hi hL hd hw hl (V := V) (a := a)]
      unfold dstOf at ht
      rw [ht]
      simp only [Option.bind_some, Act.eval, Array.getD_eq_getD_getElem?]
      cases hv : (putL ops L V a ops.size).tmps[t]? with
      | none => simp [undef]
      | some u => cases u <;> simp

theorem exec_same (ok : Ok ops n M D) {L : Nat → Bool} {V : Nat → Value} {a : Act} (hn : a.tmps.size = n) {i : Nat} {o : Oper} (hi : ops[i]? = some o) (hL : L i = false) (hd : ∀ j, maskB M i j = true → L j = true) (hw : ∀ j, j < ops.size → maskB M j i = true → L j = false) :
    execOp (putL ops L V a ops.size).eval o = execOp (extD a.eval V (D.getD i [])) o :=
  execOp_congr o (ok.sel i o · · hi) fun x hx => by
    cases x with
    | tmp t => exact eval_same ok hn hi hL hd hw (List.mem_append_left _ (List.mem_filterMap.2 ⟨.tmp t, by simpa using hx, rfl⟩))
    | _ => rw [extD_else (fun t h => by cases h)]; rfl

/-- How many have not come up. -/
def todo (ops : Array Oper) (listed : Array Bool) : Nat := (List.range ops.size).countP fun j => !listed.getD j false
theorem todo_step {listed : Array Bool} {i : Nat} (h : listed.getD i true = false) (hi : i < ops.size) : todo ops (listed.setIfInBounds i true) < todo ops listed := by
  have hlt : i < listed.size := by
    rcases Nat.lt_or_ge i listed.size with h' | h'
    · exact h'
    · simp [Array.getElem?_eq_none h'] at h
  unfold todo
  have key : ∀ l : List Nat, (∀ j ∈ l, True) → l.countP (fun j => !(listed.setIfInBounds i true).getD j false) ≤ l.countP (fun j => !listed.getD j false) ∧ (i ∈ l → l.countP (fun j => !(listed.setIfInBounds i true).getD j false) < l.countP (fun j => !listed.getD j false)) := by
    intro l _
    induction l with
    | nil => simp
    | cons j l ih =>
      obtain ⟨ih1, ih2⟩ := ih (fun _ _ => trivial)
      by_cases e : i = j
      · subst e
        have h1 : (listed.setIfInBounds i true).getD i false = true := by simp [hlt]
        have h2 : listed.getD i false = false := by simp [hlt] at h ⊢; exact h
        rw [List.countP_cons_of_neg (by simp [h1]), List.countP_cons_of_pos (by simp [h2])]
        exact ⟨by omega, fun _ => by omega⟩
      · rw [List.countP_cons, List.countP_cons, getD_set_ne false e]
        exact ⟨by omega, fun hm => by
          rcases List.mem_cons.1 hm with h' | h'
          · exact absurd h' e
          · have := ih2 h'; omega⟩
  exact (key _ (fun _ _ => trivial)).2 (List.mem_range.2 hi)
theorem todo_none {listed : Array Bool} (ok : Ok ops n M D) (hs : listed.size = ops.size) (h : Region.ready .any ops listed = []) : ∀ i, i < ops.size → listed.getD i false = true := by
  intro i
  induction i using Nat.strongRecOn with
  | _ i ih =>
    intro hi
    cases hl : listed.getD i false with
    | true => rfl
    | false =>
      have : i ∈ Region.ready .any ops listed := mem_ready.2 ⟨by
        simp only [Array.getD_eq_getD_getElem?, Array.getElem?_eq_getElem (hs ▸ hi), Option.getD_some] at hl ⊢
        exact hl, ops[i], Array.getElem?_eq_getElem hi, fun e he hb => ih e.on (ok.low i _ (Array.getElem?_eq_getElem hi) e he hb) (by
          have := ok.low i _ (Array.getElem?_eq_getElem hi) e he hb
          omega)⟩
      rw [h] at this
      cases this

theorem inv_any {a : Act} (ok : Ok ops n M D) (hn : a.tmps.size = n) (I : (Nat → Bool) → (Nat → Value) → World → Prop)
    (hcong : ∀ L L' V w, (∀ j, L j = L' j) → I L V w → I L' V w)
    (hstep : ∀ i o, ops[i]? = some o → ∀ L V w, L i = false → (∀ j, maskB M i j = true → L j = true) → (∀ j, maskB M j i = true → j < ops.size → L j = false) → I L V w →
      opW P ops (extD a.eval V (D.getD i [])) o w fun v w' => I (updB L i) (updV V i v) w')
    (hend : ∀ L V w, (∀ j, j < ops.size → L j = true) → I L V w → Q .normal (putL ops (fun _ => true) V a ops.size) w) :
    ∀ (fuel : Nat) (listed : Array Bool) (V : Nat → Value) (w : World), listed.size = ops.size → Closed .any ops listed → todo ops listed ≤ fuel → I (fun j => listed.getD j false) V w →
      wpAny P .any ops Q fuel listed (putL ops (fun j => listed.getD j false) V a ops.size) w := by
  intro fuel
  induction fuel with
  | zero =>
    intro listed V w hs hc ht hI
    have hall : ∀ i, i < ops.size → listed.getD i false = true := fun i hi => by
      cases hl : listed.getD i false with
      | true => rfl
      | false =>
        have := todo_step (ops := ops) (listed := listed) (i := i) (by
          simp only [Array.getD_eq_getD_getElem?, Array.getElem?_eq_getElem (hs ▸ hi), Option.getD_some] at hl ⊢
          exact hl) hi
        omega
    refine ⟨?_, ?_⟩
    · cases hr : Region.ready .any ops listed with
      | nil => rfl
      | cons i l =>
        have hi : i ∈ Region.ready .any ops listed := hr ▸ List.mem_cons_self
        obtain ⟨h1, o, ho, -⟩ := mem_ready.1 hi
        have h2 := hall i (Array.getElem?_eq_some_iff.1 ho).1
        have hlt : i < listed.size := hs ▸ (Array.getElem?_eq_some_iff.1 ho).1
        simp only [Array.getD_eq_getD_getElem?, Array.getElem?_eq_getElem hlt, Option.getD_some] at h1 h2
        rw [h1] at h2
        cases h2
    · rw [putL_congr (L' := fun _ => true) (V' := V) _ fun j hj => ⟨hall j hj, fun _ => rfl⟩]
      exact hend _ V w hall hI
  | succ fuel ih =>
    intro listed V w hs hc ht hI
    refine ⟨fun hr => ?_, fun i hi => ?_⟩
    · have hall := todo_none ok hs hr
      rw [putL_congr (L' := fun _ => true) (V' := V) _ fun j hj => ⟨hall j hj, fun _ => rfl⟩]
      exact hend _ V w hall hI
    · obtain ⟨h1, o, ho, hdeps⟩ := mem_ready.1 hi
      have hio : i < ops.size := (Array.getElem?_eq_some_iff.1 ho).1
      have hlt : i < listed.size := hs ▸ hio
      have hLi : listed.getD i false = false := by
        simp only [Array.getD_eq_getD_getElem?, Array.getElem?_eq_getElem hlt, Option.getD_some] at h1 ⊢
        exact h1
      have hd := anc_all ok hc i o ho hdeps
      have hw : ∀ j, maskB M j i = true → j < ops.size → listed.getD j false = false := fun j hm hj => by
        cases hl : listed.getD j false with
        | false => rfl
        | true =>
          obtain ⟨oj, hoj⟩ : ∃ oj, ops[j]? = some oj := ⟨ops[j], Array.getElem?_eq_getElem hj⟩
          have := anc_all ok hc j oj hoj (fun e he hb => hc j oj hoj hl e he hb) i hm
          rw [hLi] at this
          cases this
      have hst := hstep i o ho (fun j => listed.getD j false) V w hLi hd hw hI
      have hnext : ∀ v w', I (updB (fun j => listed.getD j false) i) (updV V i v) w' → wpAny P .any ops Q fuel (listed.setIfInBounds i true) ((putL ops (fun j => listed.getD j false) V a ops.size).put o.dst v) w' := fun v w' hI' => by
        have hLL : ∀ j, updB (fun j => listed.getD j false) i j = (listed.setIfInBounds i true).getD j false := fun j => by
          by_cases e : j = i
          · subst e; rw [updB_same]; simp [hlt]
          · rw [updB_ne e, getD_set_ne false (Ne.symm e)]
        have h2 := ih (listed.setIfInBounds i true) (updV V i v) w' (by simpa using hs) (closed_set hc hi) (by have := todo_step h1 hio; omega) (hcong _ _ _ _ hLL hI')
        rw [putL_congr (L' := updB (fun j => listed.getD j false) i) (V' := updV V i v) _ fun j _ => ⟨(hLL j).symm, fun _ => rfl⟩, putL_step hLi ok.uniq _ hio] at h2
        have : dstOf ops i = o.dst := by simp [dstOf, ho]
        rwa [this] at h2
      have hw' := want_same ok hn ho hLi hd (fun j h1 h2 => hw j h2 h1) (V := V)
      have he' := exec_same ok hn ho hLi hd (fun j h1 h2 => hw j h2 h1) (V := V)
      unfold wpOp
      rw [ho]
      simp only
      rw [hw']
      unfold opW at hst
      split
      · rename_i hwt
        rw [if_pos hwt] at hst
        left
        unfold Oper.wp
        rw [he']
        exact uponW_upon hnext hst
      · rename_i hwt
        rw [if_neg hwt] at hst
        exact hnext _ _ hst

theorem wp_region_inv {id : Nat} {a : Act} {w : World} (n : Nat) (M : List Nat) (D : List (List (Nat × Tmp))) (I : (Nat → Bool) → (Nat → Value) → World → Prop) (hm : P.follows .mixedOrders = true) (hok : okB ops n M D = true) (hn : a.tmps.size = n)
    (hcong : ∀ L L' V w, (∀ j, L j = L' j) → I L V w → I L' V w) (h0 : ∀ L V, (∀ j, L j = false) → I L V w.drew)
    (hstep : ∀ i o, ops[i]? = some o → ∀ L V w, L i = false → (∀ j, maskB M i j = true → L j = true) → (∀ j, maskB M j i = true → j < ops.size → L j = false) → I L V w →
      opW P ops (extD a.eval V (D.getD i [])) o w fun v w' => I (updB L i) (updV V i v) w')
    (hend : ∀ L V w, (∀ j, j < ops.size → L j = true) → I L V w → Q .normal (putL ops (fun _ => true) V a ops.size) w) : (Code.region id ops true).wp P Q a w := by
  refine wp_region_any hm ?_
  have h := inv_any (P := P) (Q := Q) (ok_of hok) hn I hcong hstep hend ops.size (Array.replicate ops.size false) (fun _ => undef) w.drew (by simp) (fun j o hj hl => by simp [Array.getElem?_replicate] at hl; split at hl <;> simp at hl) (by
    unfold todo
    exact Nat.le_trans List.countP_le_length (by simp)) (h0 _ _ fun j => by simp [Array.getElem?_replicate]; split <;> simp)
  have he : ∀ k, putL ops (fun j => (Array.replicate ops.size false).getD j false) (fun _ => undef) a k = a := fun k => by
    induction k with
    | zero => rfl
    | succ k ih =>
      unfold putL
      rw [if_neg (by simp [Array.getElem?_replicate]; split <;> simp)]
      exact ih
  rw [he] at h
  exact h
end
end Go.Proofs.Ytfpkibfofainaaa
/- The state of a walk: the blocks of the call's own with what they hold, and what is known of memory apart from them. Over whatever program. -/
namespace Go.Proofs.Ytfpkibfofainaaa
open Go.RowKit

def inL (L : List Nat) : Nat → Bool := fun k => decide (k ∈ L)
theorem inL_iff {L : List Nat} {k : Nat} : inL L k = true ↔ k ∈ L := by simp [inL]
theorem inL_no {L : List Nat} {k : Nat} : inL L k = false ↔ k ∉ L := by simp [inL]
abbrev keys (os : List (Nat × Obj)) : List Nat := os.map (·.1)
/-- The world without the blocks of the call's own. -/
abbrev sm (os : List (Nat × Obj)) (W : World) : World := mask (inL (keys os)) W
/-- A fact that stays where more reads. -/
def Mono (P : World → Prop) : Prop := ∀ a b, Sub a b → P a → P b

structure St (w0 W : World) (os : List (Nat × Obj)) (fs : List (World → Prop)) : Prop where
  below : Below w0.heap.size w0 W
  nodup : (keys os).Nodup
  blk : ∀ p ∈ os, w0.heap.size ≤ p.1 ∧ W.heap[p.1]? = some p.2
  mono : ∀ P ∈ fs, Mono P
  fact : ∀ P ∈ fs, P (sm os W)

theorem Mono.bytes (v : Value) (l : List UInt8) : Mono (IsBytes · v l) := fun _ _ h p => p.sub h
theorem Mono.lists (v : Value) (l : List (List UInt8)) : Mono (IsLists · v l) := fun _ _ h p => p.sub h
theorem Mono.row (sz : Nat) (v : Value) (n : Nat) (l : List Value) : Mono (IsRow sz · v n l) := fun _ _ h p => p.sub h

section
variable {w0 W W' : World} {os : List (Nat × Obj)} {fs : List (World → Prop)}

theorem St.start (w : World) : St w w [] [] := ⟨Below.refl _ _, by simp, fun p h => by simp at h, fun _ h => by simp at h, fun _ h => by simp at h⟩
theorem St.size (h : St w0 W os fs) : w0.heap.size ≤ W.heap.size := h.below.size
theorem St.get (h : St w0 W os fs) (i : Nat) {P : World → Prop} (hi : fs[i]? = some P) : P (sm os W) := h.fact P (List.mem_of_getElem? hi)
theorem St.is (h : St w0 W os fs) (i : Nat) {P : World → Prop} (hi : fs[i]? = some P) : P W := h.mono P (List.mem_of_getElem? hi) _ _ (mask_is _ _) (h.get i hi)
theorem St.at_ (h : St w0 W os fs) (i : Nat) {g : Nat} {o : Obj} (hi : os[i]? = some (g, o)) : W.heap[g]? = some o := (h.blk (g, o) (List.mem_of_getElem? hi)).2
theorem St.new (h : St w0 W os fs) (i : Nat) {g : Nat} {o : Obj} (hi : os[i]? = some (g, o)) : w0.heap.size ≤ g := (h.blk (g, o) (List.mem_of_getElem? hi)).1
theorem St.lt (h : St w0 W os fs) : ∀ k ∈ keys os, k < W.heap.size := fun k hk => by
  obtain ⟨p, hp, rfl⟩ := List.mem_map.1 hk
  exact (Array.getElem?_eq_some_iff.1 (h.blk p hp).2).1
theorem St.ge (h : St w0 W os fs) : ∀ k ∈ keys os, w0.heap.size ≤ k := fun k hk => by
  obtain ⟨p, hp, rfl⟩ := List.mem_map.1 hk
  exact (h.blk p hp).1
theorem St.ltS (h : St w0 W os fs) : ∀ k, inL (keys os) k = true → k < W.heap.size := fun k hk => h.lt k (inL_iff.1 hk)
theorem St.put (h : St w0 W os fs) {P : World → Prop} (hm : Mono P) (hP : P (sm os W)) : St w0 W os (P :: fs) :=
  ⟨h.below, h.nodup, h.blk, fun Q hQ => (List.mem_cons.1 hQ).elim (fun e => e ▸ hm) (h.mono Q), fun Q hQ => (List.mem_cons.1 hQ).elim (fun e => e ▸ hP) (h.fact Q)⟩
/-- What was known at the entry. -/
theorem St.putOld (h : St w0 W os fs) {P : World → Prop} (hm : Mono P) (hP : P w0) : St w0 W os (P :: fs) :=
  h.put hm (hm _ _ (mask_old h.below rfl fun k hk => h.ge k (inL_iff.1 hk)) hP)
/-- What holds of a slice that the call has just made. -/
theorem St.putOwn (h : St w0 W os fs) {E B : Nat} {v : Value} {l : List UInt8} (ho : OwnBytes E B W v l) (hB : ∀ k ∈ keys os, k < B) : St w0 W os ((IsBytes · v l) :: fs) :=
  h.put (Mono.bytes v l) (ho.mask fun k hk => hB k (inL_iff.1 hk))
theorem St.facts (h : St w0 W os fs) {fs' : List (World → Prop)} (hf : ∀ P ∈ fs', P ∈ fs) : St w0 W os fs' := ⟨h.below, h.nodup, h.blk, fun P hP => h.mono P (hf P hP), fun P hP => h.fact P (hf P hP)⟩
/-- The last fact is let go. -/
theorem St.pop {P : World → Prop} (h : St w0 W os (P :: fs)) : St w0 W os fs := h.facts fun _ hP => List.mem_cons_of_mem _ hP
/-- A block is no longer looked after. -/
theorem St.loose {p : Nat × Obj} {os1 os2 : List (Nat × Obj)} (h : St w0 W (os1 ++ p :: os2) fs) : St w0 W (os1 ++ os2) fs := by
  refine ⟨h.below, ?_, fun q hq => h.blk q ?_, h.mono, fun P hP => h.mono P hP _ _ (mask_less fun k hk => ?_) (h.fact P hP)⟩
  · have := h.nodup
    simp only [keys, List.map_append, List.map_cons] at this ⊢
    exact this.sublist (List.Sublist.append_left (List.sublist_cons_self _ _) _)
  · rcases List.mem_append.1 hq with hq | hq
    · exact List.mem_append_left _ hq
    · exact List.mem_append_right _ (List.mem_cons_of_mem _ hq)
  · rw [inL_iff] at hk ⊢
    simp only [keys, List.map_append, List.map_cons, List.mem_append, List.mem_cons] at hk ⊢
    rcases hk with hk | hk
    · exact .inl hk
    · exact .inr (.inr hk)

/-- A callee, or whatever leaves what there was. -/
theorem St.call (h : St w0 W os fs) (hb : Below W.heap.size W W') : St w0 W' os fs :=
  ⟨h.below.trans (hb.mono h.size), h.nodup, fun p hp => ⟨(h.blk p hp).1, (hb.block _ (h.lt _ (List.mem_map_of_mem hp))).trans (h.blk p hp).2⟩, h.mono, fun P hP => h.mono P hP _ _ (mask_below hb rfl) (h.fact P hP)⟩
theorem St.drew (h : St w0 W os fs) : St w0 W.drew os fs := h.call (Below.refl _ _).drew
theorem St.drewN (h : St w0 W os fs) (n : Nat) : St w0 (W.drewN n) os fs := h.call ⟨rfl, rfl, rfl, Nat.le_refl _, fun _ _ => rfl⟩
theorem St.box (h : St w0 W os fs) (o : Obj) : St w0 (W.alloc o) os fs := h.call ((Below.refl _ _).alloc (Nat.le_refl _) o)
/-- A new block is looked after from now on. -/
theorem St.grow (h : St w0 W os fs) (hb : Below W.heap.size W W') {g : Nat} {o : Obj} (hg : W.heap.size ≤ g) (ho : W'.heap[g]? = some o) : St w0 W' ((g, o) :: os) fs := by
  have hc := h.call hb
  refine ⟨hc.below, ?_, fun p hp => ?_, h.mono, fun P hP => h.mono P hP _ _ (mask_more hb rfl fun k hk => ?_) (h.fact P hP)⟩
  · simp only [keys, List.map_cons, List.nodup_cons]
    exact ⟨fun hm => by have := h.lt g hm; omega, h.nodup⟩
  · rcases List.mem_cons.1 hp with rfl | hp
    · exact ⟨Nat.le_trans h.size hg, ho⟩
    · exact hc.blk p hp
  · rw [inL_iff] at hk ⊢
    rcases List.mem_cons.1 hk with rfl | hk
    · exact .inr hg
    · exact .inl hk
theorem St.alloc (h : St w0 W os fs) (o : Obj) : St w0 (W.alloc o) ((W.heap.size, o) :: os) fs := h.grow ((Below.refl _ _).alloc (Nat.le_refl _) o) (Nat.le_refl _) (heap_alloc_new W o)

/-- A block of the call's own is turned, and nothing else of what there was. -/
theorem St.turn {g : Nat} {o o' : Obj} {os1 os2 : List (Nat × Obj)} (h : St w0 W (os1 ++ (g, o) :: os2) fs) (hb : Below w0.heap.size w0 W') (hk : ∀ k, k < W.heap.size → k ≠ g → W'.heap[k]? = W.heap[k]?) (ho : W'.heap[g]? = some o') : St w0 W' (os1 ++ (g, o') :: os2) fs := by
  have hkeys : keys (os1 ++ (g, o') :: os2) = keys (os1 ++ (g, o) :: os2) := by simp [keys]
  have hn := h.nodup
  have hgo := h.blk (g, o) (by simp)
  refine ⟨hb, hkeys ▸ hn, fun p hp => ?_, h.mono, fun P hP => ?_⟩
  · have hp' : p ∈ os1 ∨ p = (g, o') ∨ p ∈ os2 := by simpa using hp
    have hne : ∀ q ∈ os1 ++ os2, q.1 ≠ g := fun q hq e => by
      simp only [keys, List.map_append, List.map_cons] at hn
      have := List.nodup_append.1 hn
      rcases List.mem_append.1 hq with hq | hq
      · exact this.2.2 q.1 (List.mem_map_of_mem hq) g (by simp) e
      · have h2 := (List.nodup_cons.1 this.2.1).1
        exact h2 (e ▸ List.mem_map_of_mem hq)
    have old : ∀ q ∈ os1 ++ os2, w0.heap.size ≤ q.1 ∧ W'.heap[q.1]? = some q.2 := fun q hq => by
      have hq' : q ∈ os1 ++ (g, o) :: os2 := by
        rcases List.mem_append.1 hq with hq | hq
        · exact List.mem_append_left _ hq
        · exact List.mem_append_right _ (List.mem_cons_of_mem _ hq)
      exact ⟨(h.blk q hq').1, (hk _ (h.lt _ (List.mem_map_of_mem hq')) (hne q hq)).trans (h.blk q hq').2⟩
    rcases hp' with hp' | rfl | hp'
    · exact old p (List.mem_append_left _ hp')
    · exact ⟨hgo.1, ho⟩
    · exact old p (List.mem_append_right _ hp')
  · have : sm (os1 ++ (g, o') :: os2) W' = mask (inL (keys (os1 ++ (g, o) :: os2))) W' := by unfold sm; rw [hkeys]
    rw [this]
    refine h.mono P hP _ _ (mask_sub fun k hkk hs => ⟨hs, hk k hkk ?_⟩) (h.fact P hP)
    rintro rfl
    rw [inL_no] at hs
    exact hs (by simp [keys])
theorem St.setRow {g : Nat} {cs cs' : Array Value} {t : TypeId} {os1 os2 : List (Nat × Obj)} (h : St w0 W (os1 ++ (g, .cells cs t (0, 0)) :: os2) fs) : St w0 (W.setRow g cs') (os1 ++ (g, .cells cs' t (0, 0)) :: os2) fs :=
  h.turn (below_setRow h.below (h.blk (g, .cells cs t (0, 0)) (by simp)).1 _) (fun k _ hk => setRow_other _ _ _ _ hk) (setRow_heap _ _ _ _ _ _ (h.blk (g, .cells cs t (0, 0)) (by simp)).2)
theorem St.setCell {g i : Nat} {cs : Array Value} {t : TypeId} {v : Value} {os1 os2 : List (Nat × Obj)} (h : St w0 W (os1 ++ (g, .cells cs t (0, 0)) :: os2) fs) : St w0 (W.setCell ⟨g, i, none⟩ v) (os1 ++ (g, .cells (cs.setIfInBounds i v) t (0, 0)) :: os2) fs :=
  h.turn (h.below.setCell (p := ⟨g, i, none⟩) (h.blk (g, .cells cs t (0, 0)) (by simp)).1 _) (fun k _ hk => heap_setCell_other _ _ _ _ hk) (heap_setCell_same _ _ _ _ _ _ (h.blk (g, .cells cs t (0, 0)) (by simp)).2)
/-- A row that an append has turned: it lies where it lay, or in a new block. -/
theorem St.regrow {g g' : Nat} {o o' : Obj} {os1 os2 : List (Nat × Obj)} (h : St w0 W (os1 ++ (g, o) :: os2) fs) (hg : W.grownBy W' (some g)) (hg' : g' = g ∨ W.heap.size ≤ g') (ho : W'.heap[g']? = some o') : St w0 W' (os1 ++ (g', o') :: os2) fs := by
  have hlo := (h.blk (g, o) (by simp)).1
  have hb : Below w0.heap.size w0 W' := Below.grown h.below hg h.size (fun k hk => by cases hk; exact hlo)
  rcases hg' with rfl | hg'
  · exact h.turn hb (fun k hk hne => hg.block k hk (fun e => hne (Option.some.inj e))) ho
  · have hgl : g < W.heap.size := h.lt g (by simp [keys])
    have h1 := h.turn (W' := W') (o' := (W'.heap[g]?).getD o) hb (fun k hk hne => hg.block k hk (fun e => hne (Option.some.inj e))) (by
      have : g < W'.heap.size := Nat.lt_of_lt_of_le hgl hg.size
      rw [Array.getElem?_eq_getElem this]
      rfl)
    have hn := h.nodup
    refine ⟨hb, ?_, fun p hp => ?_, h.mono, fun P hP => ?_⟩
    · simp only [keys, List.map_append, List.map_cons] at hn ⊢
      have hno : ∀ k ∈ List.map (·.1) os1 ++ g :: List.map (·.1) os2, k ≠ g' := fun k hk e => by
        have := h.lt k (by simpa [keys] using hk)
        omega
      obtain ⟨n1, n2, n3⟩ := List.nodup_append.1 hn
      refine List.nodup_append.2 ⟨n1, List.nodup_cons.2 ⟨fun hm => hno g' (by simp only [List.mem_append, List.mem_cons]; exact .inr (.inr hm)) rfl, (List.nodup_cons.1 n2).2⟩, fun a ha b hb => ?_⟩
      rcases List.mem_cons.1 hb with rfl | hb
      · exact hno a (List.mem_append_left _ ha)
      · exact n3 a ha b (List.mem_cons_of_mem _ hb)
    · have hp' : p ∈ os1 ∨ p = (g', o') ∨ p ∈ os2 := by simpa using hp
      rcases hp' with hp' | rfl | hp'
      · exact h1.blk p (List.mem_append_left _ hp')
      · exact ⟨Nat.le_trans h.size hg', ho⟩
      · exact h1.blk p (List.mem_append_right _ (List.mem_cons_of_mem _ hp'))
    · refine h.mono P hP _ _ (mask_sub fun k hkk hs => ?_) (h.fact P hP)
      rw [inL_no] at hs
      simp only [keys, List.map_append, List.map_cons, List.mem_append, List.mem_cons, not_or] at hs
      refine ⟨?_, hg.block k hkk (fun e => hs.2.1 (Option.some.inj e))⟩
      rw [inL_no]
      simp only [keys, List.map_append, List.map_cons, List.mem_append, List.mem_cons, not_or]
      exact ⟨hs.1, by omega, hs.2.2⟩
theorem St.find (h : St w0 W os fs) {g : Nat} {o : Obj} (hm : (g, o) ∈ os) : W.heap[g]? = some o := (h.blk (g, o) hm).2
/-- Four cells of a block are stored one after the other. -/
theorem St.store4 {g : Nat} {a b c d v0 v1 v2 v3 : Value} {t : TypeId} {os1 os2 : List (Nat × Obj)} (h : St w0 W (os1 ++ (g, .cells #[a, b, c, d] t (0, 0)) :: os2) fs) :
    St w0 ((((W.setCell ⟨g, 0, none⟩ v0).setCell ⟨g, 1, none⟩ v1).setCell ⟨g, 2, none⟩ v2).setCell ⟨g, 3, none⟩ v3) (os1 ++ (g, .cells #[v0, v1, v2, v3] t (0, 0)) :: os2) fs :=
  (((h.setCell (i := 0) (v := v0)).setCell (i := 1) (v := v1)).setCell (i := 2) (v := v2)).setCell (i := 3) (v := v3)
theorem cells4 {g : Nat} {a b c d : Value} {t : TypeId} (h : W.heap[g]? = some (.cells #[a, b, c, d] t (0, 0))) :
    W.cell? ⟨g, 0, none⟩ = some a ∧ W.cell? ⟨g, 1, none⟩ = some b ∧ W.cell? ⟨g, 2, none⟩ = some c ∧ W.cell? ⟨g, 3, none⟩ = some d ∧ W.frozen? ⟨g, 0, none⟩ = false ∧ W.frozen? ⟨g, 1, none⟩ = false ∧ W.frozen? ⟨g, 2, none⟩ = false ∧ W.frozen? ⟨g, 3, none⟩ = false := by
  refine ⟨?_, ?_, ?_, ?_, frozen_of_row _ _ _ _ _ h, frozen_of_row _ _ _ _ _ h, frozen_of_row _ _ _ _ _ h, frozen_of_row _ _ _ _ _ h⟩ <;> rw [cell_of_row _ _ _ _ _ _ h] <;> rfl
theorem St.ne01 {p q : Nat × Obj} (h : St w0 W (p :: q :: os) fs) : p.1 ≠ q.1 ∧ q.1 ≠ p.1 := by
  have := h.nodup
  simp only [keys, List.map_cons, List.nodup_cons, List.mem_cons, not_or] at this
  exact ⟨this.1.1, fun e => this.1.1 e.symm⟩
end

end Go.Proofs.Ytfpkibfofainaaa
/- A region that draws its order, walked by an invariant, in the words of a walk's state: what each operation yields, and the blocks of the call's own. Over whatever program. -/
namespace Go.Proofs.Ytfpkibfofainaaa
open Go Go.RowKit

/-- What an operation yields: a fact of a value that stays where more reads. -/
structure Pd where
  p : Value → World → Prop
  mono : ∀ v, Mono (p v)
def pAny : Pd := ⟨fun _ _ => True, fun _ _ _ _ _ => trivial⟩
def pVal (c : Value) : Pd := ⟨fun v _ => v = c, fun _ _ _ _ h => h⟩
def pBytes (l : List UInt8) : Pd := ⟨fun v w => ∃ b q, v = .slice b l.length q ∧ IsBytes w v l, fun _ _ _ h ⟨b, q, e, k⟩ => ⟨b, q, e, k.sub h⟩⟩
def pPtr : Pd := ⟨fun v _ => ∃ g, v = .pointer (some ⟨g, 0, none⟩), fun _ _ _ _ h => h⟩
def pAnd (a b : Pd) : Pd := ⟨fun v w => a.p v w ∧ b.p v w, fun v x y h k => ⟨a.mono v x y h k.1, b.mono v x y h k.2⟩⟩

def ptr : Value → Nat
  | .pointer (some a) => a.block
  | _ => 0
def boxed (T : TypeId) : Value → Obj
  | .agg cs => .cells cs T (0, 0)
  | v => .cells #[v] T (0, 0)
/-- The call's own blocks: as they were; with a new variable that is laid (ia) and stored (is) with what k yields; with a variable that is stored. -/
abbrev Osf := (Nat → Bool) → (Nat → Value) → List (Nat × Obj)
def osC (os0 : List (Nat × Obj)) : Osf := fun _ _ => os0
def osN (ia is k : Nat) (T : TypeId) (Z : Obj) (os0 : List (Nat × Obj)) : Osf := fun L V => if L ia = true then (ptr (V ia), if L is = true then boxed T (V k) else Z) :: os0 else os0
def osS (is k : Nat) (T : TypeId) (g : Nat) (old : Obj) (os1 os2 : List (Nat × Obj)) : Osf := fun L V => os1 ++ (g, if L is = true then boxed T (V k) else old) :: os2

section
variable {P : Program} {ops : Array Oper} {Q : Exit → Act → World → Prop}
def FL (Φ : List Pd) (n : Nat) (L : Nat → Bool) (V : Nat → Value) : List (World → Prop) := ((List.range n).filter L).map fun j => (Φ.getD j pAny).p (V j)
def DepAll (Φ : List Pd) (V : Nat → Value) (m : World) (ρ : Operand → Value) : List (Nat × Tmp) → ((Operand → Value) → Prop) → Prop
  | [], G => G ρ
  | (j, d) :: l, G => DepAll Φ V m ρ l fun ρ' => ∀ u, V j = u → (Φ.getD j pAny).p u m → G (ext ρ' d u)
def EndAll (Φ : List Pd) (V : Nat → Value) (m : World) : List (Nat × Tmp) → Act → (Act → Prop) → Prop
  | [], b, G => G b
  | (j, t) :: l, b, G => ∀ u, V j = u → (Φ.getD j pAny).p u m → EndAll Φ V m l (b.put (some t) u) G
theorem depAll_of {Φ : List Pd} {V : Nat → Value} {m : World} {ρ : Operand → Value} : ∀ (l : List (Nat × Tmp)) {G : (Operand → Value) → Prop}, (∀ p ∈ l, (Φ.getD p.1 pAny).p (V p.1) m) → DepAll Φ V m ρ l G → G (extD ρ V l)
  | [], _, _, h => h
  | (j, d) :: l, _, hf, h => depAll_of l (fun p hp => hf p (List.mem_cons_of_mem _ hp)) h (V j) rfl (hf (j, d) List.mem_cons_self)
theorem endAll_of {Φ : List Pd} {V : Nat → Value} {m : World} : ∀ (l : List (Nat × Tmp)) {b : Act} {G : Act → Prop}, (∀ p ∈ l, (Φ.getD p.1 pAny).p (V p.1) m) → EndAll Φ V m l b G → G (l.foldl (fun b p => b.put (some p.2) (V p.1)) b)
  | [], _, _, _, h => h
  | (j, d) :: l, _, _, hf, h => endAll_of l (fun p hp => hf p (List.mem_cons_of_mem _ hp)) (h (V j) rfl (hf (j, d) List.mem_cons_self))
/-- The slots that the region writes. -/
def slotsOf (ops : Array Oper) : Nat → List (Nat × Tmp)
  | 0 => []
  | n + 1 => slotsOf ops n ++ (match dstOf ops n with | some t => [(n, t)] | none => [])
theorem putL_end {V : Nat → Value} {a : Act} : ∀ n, putL ops (fun _ => true) V a n = (slotsOf ops n).foldl (fun b p => b.put (some p.2) (V p.1)) a
  | 0 => rfl
  | n + 1 => by
    unfold putL slotsOf
    rw [if_pos rfl, putL_end n, List.foldl_append]
    cases dstOf ops n <;> rfl
theorem slots_lt : ∀ n, ∀ p ∈ slotsOf ops n, p.1 < n
  | 0, _, h => absurd h List.not_mem_nil
  | n + 1, p, h => by
    unfold slotsOf at h
    rcases List.mem_append.1 h with h | h
    · exact Nat.lt_succ_of_lt (slots_lt n p h)
    · cases hd : dstOf ops n <;> rw [hd] at h <;> simp at h
      subst h; exact Nat.lt_succ_self _

section
variable (ops) (P) (M : List Nat) (D : List (List (Nat × Tmp))) (Φ : List Pd) (w0 : World) (os : Osf) (fs : List (World → Prop)) (a : Act)
/-- What is to be shown of one operation. -/
def Oblig (i : Nat) (o : Oper) : Prop :=
  (∀ ρ d u t, ext ρ d u (.tmp t) = if t = d then u else ρ (.tmp t)) → (∀ ρ d u v, ext ρ d u (.const v) = ρ (.const v)) → (∀ ρ d u f, ext ρ d u (.func f) = ρ (.func f)) → (∀ ρ d u g, ext ρ d u (.global g) = ρ (.global g)) →
  ∀ (L : Nat → Bool) (V : Nat → Value) (W : World), L i = false → (∀ j, maskB M i j = true → L j = true) → (∀ j, maskB M j i = true → j < ops.size → L j = false) → St w0 W (os L V) (FL Φ ops.size L V ++ fs) →
    DepAll Φ V (sm (os L V) W) a.eval (D.getD i []) fun ρ => opW P ops ρ o W fun v W' => St w0 W' (os (updB L i) (updV V i v)) ((Φ.getD i pAny).p v :: (FL Φ ops.size L V ++ fs))
def Obligs : List Oper → Nat → Prop
  | [], _ => True
  | o :: l, i => Oblig P ops M D Φ w0 os fs a i o ∧ Obligs l (i + 1)
end
variable {M : List Nat} {D : List (List (Nat × Tmp))} {Φ : List Pd} {w0 : World} {os : Osf} {fs : List (World → Prop)} {a : Act}
theorem obligs_get : ∀ (l : List Oper) (k : Nat), Obligs P ops M D Φ w0 os fs a l k → ∀ i o, l[i]? = some o → Oblig P ops M D Φ w0 os fs a (k + i) o
  | [], _, _, i, o, h => by simp at h
  | x :: l, k, h, i, o, hi => by
    cases i with
    | zero => simp at hi; subst hi; exact h.1
    | succ i =>
      have := obligs_get l (k + 1) h.2 i o (by simpa using hi)
      rwa [show k + 1 + i = k + (i + 1) by omega] at this
theorem fl_mem {n : Nat} {L : Nat → Bool} {V : Nat → Value} {j : Nat} (hj : j < n) (hl : L j = true) : (Φ.getD j pAny).p (V j) ∈ FL Φ n L V := List.mem_map.2 ⟨j, List.mem_filter.2 ⟨List.mem_range.2 hj, hl⟩, rfl⟩
theorem fl_step {n : Nat} {L : Nat → Bool} {V : Nat → Value} {i : Nat} {v : Value} {X : World → Prop} (h : X ∈ FL Φ n (updB L i) (updV V i v)) : X = (Φ.getD i pAny).p v ∨ X ∈ FL Φ n L V := by
  obtain ⟨j, hj, rfl⟩ := List.mem_map.1 h
  obtain ⟨h1, h2⟩ := List.mem_filter.1 hj
  by_cases e : j = i
  · subst e; left; rw [updV_same]
  · right; rw [updV_ne e]; rw [updB_ne e] at h2; exact fl_mem (List.mem_range.1 h1) h2

theorem wp_region_st {id : Nat} {w : World} {os0 : List (Nat × Obj)} (Φ : List Pd) (os : Osf) (n : Nat) (M : List Nat) (D : List (List (Nat × Tmp))) (E : List (Nat × Tmp)) (hm : P.follows .mixedOrders = true) (hok : okB ops n M D = true) (hE : slotsOf ops ops.size = E) (hn : a.tmps.size = n)
    (h : St w0 w os0 fs) (hos0 : ∀ L V, (∀ j, L j = false) → os L V = os0) (hos1 : ∀ L V, (∀ j, j < ops.size → L j = true) → os L V = os (fun _ => true) V)
    (hob : Obligs P ops M D Φ w0 os fs a ops.toList 0)
    (hend : ∀ V W, St w0 W (os (fun _ => true) V) fs → EndAll Φ V (sm (os (fun _ => true) V) W) E a fun b => Q .normal b W) : (Code.region id ops true).wp P Q a w := by
  have ok := ok_of hok
  refine wp_region_inv n M D (fun L V W => St w0 W (os L V) (FL Φ ops.size L V ++ fs)) hm hok hn (fun L L' V w hL hI => ?_) (fun L V hL => ?_) (fun i o hi L V W hLi hd hw hI => ?_) (fun L V W hL hI => ?_)
  · have : L = L' := funext hL
    subst this
    exact hI
  · rw [hos0 L V hL]
    have : FL Φ ops.size L V = [] := by
      unfold FL
      rw [List.map_eq_nil_iff, List.filter_eq_nil_iff]
      intro j _
      rw [hL j]
      exact Bool.false_ne_true
    rw [this]
    exact h.drew
  · have hO := obligs_get ops.toList 0 hob i o (by simpa using hi)
    rw [Nat.zero_add] at hO
    have hO' := hO (fun _ _ _ _ => rfl) (fun _ _ _ _ => rfl) (fun _ _ _ _ => rfl) (fun _ _ _ _ => rfl) L V W hLi hd hw hI
    have h2 := depAll_of (D.getD i []) (fun p hp => hI.fact _ (List.mem_append_left _ (fl_mem (dst_lt (ok.deps i o p hi hp).2) (hd _ (ok.deps i o p hi hp).1)))) hO'
    unfold opW at h2 ⊢
    have keep : ∀ v W', St w0 W' (os (updB L i) (updV V i v)) ((Φ.getD i pAny).p v :: (FL Φ ops.size L V ++ fs)) → St w0 W' (os (updB L i) (updV V i v)) (FL Φ ops.size (updB L i) (updV V i v) ++ fs) := fun v W' hs => hs.facts fun X hX => by
      rcases List.mem_append.1 hX with hX | hX
      · rcases fl_step hX with rfl | hX
        · exact List.mem_cons_self
        · exact List.mem_cons_of_mem _ (List.mem_append_left _ hX)
      · exact List.mem_cons_of_mem _ (List.mem_append_right _ hX)
    split at h2
    · rename_i hwt
      rw [if_pos hwt]
      generalize (execOp (extD a.eval V (D.getD i [])) o).run P W = r at *
      cases r with
      | halt x w' => exact h2.elim
      | ok nx w' =>
        cases nx with
        | value u => exact keep _ _ h2
        | skip => exact keep _ _ h2
        | enter f args => exact Calls.mono h2 fun e w'' ⟨v, he, hk⟩ => ⟨v, he, keep _ _ hk⟩
        | row row args => exact Rows.mono h2 fun v w'' hk => keep _ _ hk
        | _ => exact h2.elim
    · rename_i hwt
      rw [if_neg hwt]
      exact keep _ _ h2
  · rw [putL_end]
    rw [hos1 L V hL] at hI
    have hall : ∀ p ∈ slotsOf ops ops.size, (Φ.getD p.1 pAny).p (V p.1) (sm (os (fun _ => true) V) W) := fun p hp => hI.fact _ (List.mem_append_left _ (fl_mem (slots_lt _ p hp) (hL _ (slots_lt _ p hp))))
    rw [hE] at hall ⊢
    exact endAll_of E hall (hend V W (hI.facts fun X hX => List.mem_append_right _ hX))

theorem osC0 {os0 : List (Nat × Obj)} : ∀ L V, (∀ j, L j = false) → osC os0 L V = os0 := fun _ _ _ => rfl
theorem osN0 {ia is k : Nat} {T : TypeId} {Z : Obj} {os0 : List (Nat × Obj)} : ∀ L V, (∀ j, L j = false) → osN ia is k T Z os0 L V = os0 := fun L V h => by unfold osN; rw [if_neg (by rw [h]; exact Bool.false_ne_true)]
theorem osS0 {is k : Nat} {T : TypeId} {g : Nat} {old : Obj} {os1 os2 : List (Nat × Obj)} : ∀ L V, (∀ j, L j = false) → osS is k T g old os1 os2 L V = os1 ++ (g, old) :: os2 := fun L V h => by unfold osS; rw [if_neg (by rw [h]; exact Bool.false_ne_true)]
theorem osC1 {n : Nat} {os0 : List (Nat × Obj)} : ∀ L V, (∀ j, j < n → L j = true) → osC os0 L V = osC os0 (fun _ => true) V := fun _ _ _ => rfl
theorem osN1 {n ia is k : Nat} {T : TypeId} {Z : Obj} {os0 : List (Nat × Obj)} (h1 : ia < n) (h2 : is < n) : ∀ L V, (∀ j, j < n → L j = true) → osN ia is k T Z os0 L V = osN ia is k T Z os0 (fun _ => true) V := fun L V h => by unfold osN; rw [h _ h1, h _ h2]
theorem osS1 {n is k : Nat} {T : TypeId} {g : Nat} {old : Obj} {os1 os2 : List (Nat × Obj)} (h2 : is < n) : ∀ L V, (∀ j, j < n → L j = true) → osS is k T g old os1 os2 L V = osS is k T g old os1 os2 (fun _ => true) V := fun L V h => by unfold osS; rw [h _ h2]

theorem osN_mem {ia is k : Nat} {T : TypeId} {Z : Obj} {os0 : List (Nat × Obj)} {x : Nat × Obj} (h : x ∈ os0) (L : Nat → Bool) (V : Nat → Value) : x ∈ osN ia is k T Z os0 L V := by
  unfold osN
  split
  · exact List.mem_cons_of_mem _ h
  · exact h
theorem osN_end {ia is k : Nat} {T : TypeId} {Z : Obj} {os0 : List (Nat × Obj)} {V : Nat → Value} {g : Nat} {cs : Array Value} (h1 : V ia = .pointer (some ⟨g, 0, none⟩)) (h2 : V k = .agg cs) : osN ia is k T Z os0 (fun _ => true) V = (g, .cells cs T (0, 0)) :: os0 := by
  unfold osN
  rw [if_pos rfl, if_pos rfl, h1, h2]
  rfl
/-- What the store waits for may still change. -/
theorem osN_keep {ia is k i : Nat} {T : TypeId} {Z : Obj} {os0 : List (Nat × Obj)} {L : Nat → Bool} {V : Nat → Value} {v : Value} (hs : L is = false) (h1 : ia ≠ i) (h2 : is ≠ i) : osN ia is k T Z os0 (updB L i) (updV V i v) = osN ia is k T Z os0 L V := by
  unfold osN
  rw [updB_ne h1, updB_ne h2, hs, updV_ne h1, if_neg Bool.false_ne_true]
  rfl
theorem osS_keep {is k i : Nat} {T : TypeId} {g : Nat} {old : Obj} {os1 os2 : List (Nat × Obj)} {L : Nat → Bool} {V : Nat → Value} {v : Value} (hs : L is = false) (h2 : is ≠ i) : osS is k T g old os1 os2 (updB L i) (updV V i v) = osS is k T g old os1 os2 L V := by
  unfold osS
  rw [updB_ne h2, hs, if_neg Bool.false_ne_true]
  rfl
theorem osS_old {is k : Nat} {T : TypeId} {g : Nat} {old : Obj} {os1 os2 : List (Nat × Obj)} {L : Nat → Bool} {V : Nat → Value} (h : L is = false) : osS is k T g old os1 os2 L V = os1 ++ (g, old) :: os2 := by
  unfold osS
  rw [if_neg (by rw [h]; exact Bool.false_ne_true)]
theorem osS_mem {is k : Nat} {T : TypeId} {g : Nat} {old : Obj} {os1 os2 : List (Nat × Obj)} {x : Nat × Obj} (h : x ∈ os1 ++ os2) (L : Nat → Bool) (V : Nat → Value) : x ∈ osS is k T g old os1 os2 L V := by
  unfold osS
  rcases List.mem_append.1 h with h | h
  · exact List.mem_append_left _ h
  · exact List.mem_append_right _ (List.mem_cons_of_mem _ h)
theorem osS_end {is k : Nat} {T : TypeId} {g : Nat} {old : Obj} {os1 os2 : List (Nat × Obj)} {V : Nat → Value} {cs : Array Value} (h2 : V k = .agg cs) : osS is k T g old os1 os2 (fun _ => true) V = os1 ++ (g, .cells cs T (0, 0)) :: os2 := by
  unfold osS
  rw [if_pos rfl, h2]
  rfl

/-! ### One operation -/
section
variable {ρ : Operand → Value} {o : Oper} {W : World} {K : Value → World → Prop} {OS OS' : List (Nat × Obj)} {F : List (World → Prop)}
theorem ob_val {v : Value} (hg : wantE ops o ρ = true) (hr : (execOp ρ o).run P W = .ok (.value v) W) (hK : K v W) : opW P ops ρ o W K := by
  unfold opW
  rw [if_pos hg, hr]
  exact hK
theorem ob_off (hg : wantE ops o ρ = false) (hK : K undef W) : opW P ops ρ o W K := by
  unfold opW
  rw [if_neg (by rw [hg]; exact Bool.false_ne_true)]
  exact hK
theorem ob_call {f : FuncId} {args : Array Value} (hg : wantE ops o ρ = true) (hr : (execOp ρ o).run P W = .ok (.enter f args) W) (hc : Calls P f args W fun e w' => ∃ v, e = .returned v ∧ K v w') : opW P ops ρ o W K := by
  unfold opW
  rw [if_pos hg, hr]
  exact hc
theorem ob_run {n : Next} {W' : World} (hg : wantE ops o ρ = true) (hr : (execOp ρ o).run P W = .ok n W') (hK : uponW P K (.ok n W')) : opW P ops ρ o W K := by
  unfold opW
  rw [if_pos hg, hr]
  exact hK
theorem St.val (h : St w0 W OS F) (p : Pd) (v : Value) (hp : p.p v (sm OS W)) : St w0 W OS (p.p v :: F) := h.put (p.mono v) hp
theorem St.head {X : World → Prop} (p : Pd) (v : Value) (h : St w0 W OS (X :: F)) (hp : X (sm OS W) → p.p v (sm OS W)) : St w0 W OS (p.p v :: F) := h.pop.put (p.mono v) (hp (h.get 0 rfl))
/-- A value that hangs on nothing that the region's calls give. -/
theorem ob_c {c : Value} {OSv : Value → List (Nat × Obj)} (hg : wantE ops o ρ = true) (hr : (execOp ρ o).run P W = .ok (.value c) W) (h : St w0 W OS F) (hos : OSv c = OS) : opW P ops ρ o W fun v W' => St w0 W' (OSv v) ((pVal c).p v :: F) :=
  ob_val hg hr (hos ▸ h.put ((pVal c).mono c) rfl)
theorem ob_v (v : Value) {p : Pd} {OSv : Value → List (Nat × Obj)} (hg : wantE ops o ρ = true) (hr : (execOp ρ o).run P W = .ok (.value v) W) (h : St w0 W OS F) (hos : OSv v = OS) (hp : p.p v (sm OS W)) : opW P ops ρ o W fun v W' => St w0 W' (OSv v) (p.p v :: F) :=
  ob_val hg hr (hos ▸ h.put (p.mono v) hp)
theorem ob_o {OSv : Value → List (Nat × Obj)} (hg : wantE ops o ρ = false) (h : St w0 W OS F) (hos : OSv undef = OS) : opW P ops ρ o W fun v W' => St w0 W' (OSv v) ((pVal undef).p v :: F) :=
  ob_off hg (hos ▸ h.put ((pVal _).mono _) rfl)
theorem run_load_own {ty : TypeId} {x : Operand} {g : Nat} {t : TypeId} {cs : Array Value} {fr : Nat × Nat} {d : TypeDesc} (ho : o.op = .load ty x) (hx : ρ x = .pointer (some ⟨g, 0, none⟩)) (hg : W.heap[g]? = some (.cells cs t fr))
    (hu : P.underlying ty = some d) (hd : (match d with | .struct _ | .array _ _ => true | _ => false) = true) (hi : (P.info? ty).map (·.size) = some cs.size) : (execOp ρ o).run P W = .ok (.value (.agg cs)) W := by
  unfold execOp
  simp only [ho, hx, Instr.loadAt, Instr.sureAddr, Sem.run_bind, Sem.run_pure, Result.andThen_ok, run_loadVar_row W g t ty cs fr d hg hu hd hi]
theorem run_alloc_var {ty : TypeId} {z : Value} (ho : o.op = .alloc ty) (hz : (P.info? ty).bind (·.zero) = some z) : (execOp ρ o).run P W = .ok (.value (.pointer (some ⟨W.heap.size, 0, none⟩))) (W.alloc (.cells z.cells ty)) := by
  cases hq : P.info? ty with
  | none => simp [hq] at hz
  | some i =>
    have hz' : i.zero = some z := by simpa [hq] using hz
    unfold execOp
    simp only [ho, Instr.alloc, zeroValue, typeInfo, Sem.run_bind, run_program, hq, hz', Sem.run_pure, Result.andThen_ok, newVar, newRow, run_newObj_alloc]
theorem run_store_var {ty : TypeId} {x y : Operand} {g : Nat} {cells : Array Value} {t : TypeId} {old : Array Value} (ho : o.op = .store ty x y) (hx : ρ x = .pointer (some ⟨g, 0, none⟩)) (hy : ρ y = .agg cells)
    (hg : W.heap[g]? = some (.cells old t (0, 0))) (hi : (P.info? ty).map (·.size) = some cells.size) (hold : old.size = cells.size) (h1 : cells.all (·.oneCell') = true) : (execOp ρ o).run P W = .ok .skip (W.setRow g cells) := by
  unfold execOp
  simp only [ho, hx, hy, Instr.storeAt, Instr.sureAddr, Sem.run_bind, Sem.run_pure, Result.andThen_ok, run_storeVar_row W g t ty old cells hg hi hold h1]
/-- The new variable is laid. -/
theorem ob_new {i ia is k : Nat} {T : TypeId} {z : Value} {os0 : List (Nat × Obj)} {L : Nat → Bool} {V : Nat → Value} (p : Pd) (hg : wantE ops o ρ = true) (ho : o.op = .alloc T) (hz : (P.info? T).bind (·.zero) = some z) (hi : i = ia) (hne : is ≠ ia) (hL : L ia = false) (hs : L is = false)
    (hp : p = pPtr) (h : St w0 W (osN ia is k T (.cells z.cells T (0, 0)) os0 L V) F) :
    opW P ops ρ o W fun v W' => St w0 W' (osN ia is k T (.cells z.cells T (0, 0)) os0 (updB L i) (updV V i v)) (p.p v :: F) := by
  subst hi hp
  refine ob_run hg (run_alloc_var ho hz) ?_
  unfold osN at h
  rw [if_neg (by rw [hL]; exact Bool.false_ne_true)] at h
  show St w0 _ (osN i is k T _ os0 (updB L i) (updV V i (.pointer (some ⟨W.heap.size, 0, none⟩)))) _
  unfold osN
  rw [if_pos updB_same, updV_same, updB_ne hne, if_neg (by rw [hs]; exact Bool.false_ne_true)]
  exact (h.alloc _).put (pPtr.mono _) ⟨_, rfl⟩
/-- The new variable is stored. -/
theorem ob_put {i ia is k : Nat} {T : TypeId} {z : Value} {x y : Operand} {g : Nat} {cells : Array Value} {os0 : List (Nat × Obj)} {L : Nat → Bool} {V : Nat → Value} (hg : wantE ops o ρ = true) (ho : o.op = .store T x y) (hx : ρ x = .pointer (some ⟨g, 0, none⟩)) (hy : ρ y = .agg cells)
    (hVa : V ia = .pointer (some ⟨g, 0, none⟩)) (hVk : V k = .agg cells) (hi : i = is) (hne : ia ≠ is) (hnk : k ≠ is) (hL : L ia = true) (hs : L is = false) (hz : z.cells.size = cells.size) (hsz : (P.info? T).map (·.size) = some cells.size) (h1 : cells.all (·.oneCell') = true)
    (h : St w0 W (osN ia is k T (.cells z.cells T (0, 0)) os0 L V) F) :
    opW P ops ρ o W fun v W' => St w0 W' (osN ia is k T (.cells z.cells T (0, 0)) os0 (updB L i) (updV V i v)) (pAny.p v :: F) := by
  subst hi
  unfold osN at h
  rw [if_pos hL, if_neg (by rw [hs]; exact Bool.false_ne_true), hVa] at h
  refine ob_run hg (run_store_var (g := g) (t := T) (old := z.cells) ho hx hy (h.at_ 0 rfl) hsz hz h1) ?_
  show St w0 _ (osN ia i k T _ os0 (updB L i) (updV V i undef)) _
  unfold osN
  rw [updB_ne hne, if_pos hL, if_pos updB_same, updV_ne hne, updV_ne hnk, hVa, hVk]
  exact (h.setRow (os1 := [])).put (pAny.mono _) trivial
/-- A variable that stands is stored. -/
theorem ob_set {i is k : Nat} {T : TypeId} {old : Array Value} {x y : Operand} {g : Nat} {cells : Array Value} {os1 os2 : List (Nat × Obj)} {L : Nat → Bool} {V : Nat → Value} (hg : wantE ops o ρ = true) (ho : o.op = .store T x y) (hx : ρ x = .pointer (some ⟨g, 0, none⟩)) (hy : ρ y = .agg cells)
    (hVk : V k = .agg cells) (hi : i = is) (hnk : k ≠ is) (hs : L is = false) (hz : old.size = cells.size) (hsz : (P.info? T).map (·.size) = some cells.size) (h1 : cells.all (·.oneCell') = true)
    (h : St w0 W (osS is k T g (.cells old T (0, 0)) os1 os2 L V) F) :
    opW P ops ρ o W fun v W' => St w0 W' (osS is k T g (.cells old T (0, 0)) os1 os2 (updB L i) (updV V i v)) (pAny.p v :: F) := by
  subst hi
  unfold osS at h
  rw [if_neg (by rw [hs]; exact Bool.false_ne_true)] at h
  refine ob_run hg (run_store_var (g := g) (t := T) (old := old) ho hx hy (h.find (g := g) (o := .cells old T (0, 0)) (by simp)) hsz hz h1) ?_
  show St w0 _ (osS i k T g _ os1 os2 (updB L i) (updV V i undef)) _
  unfold osS
  rw [if_pos updB_same, updV_ne hnk, hVk]
  exact h.setRow.put (pAny.mono _) trivial
end
end
end Go.Proofs.Ytfpkibfofainaaa
/- Contracts in the form that a drawn region wants. -/
set_option linter.unusedVariables false
set_option linter.unusedSimpArgs false
namespace Go.Proofs.Ytfpkibfofainaaa
open Go.RowKit
section
variable {P : Program} {w0 W : World} {f : FuncId} {args : Array Value} {os : List (Nat × Obj)} {fs : List (World → Prop)} {x : List UInt8}
/-- New bytes. -/
theorem Calls.pB {E : TypeId} (h : St w0 W os fs) (hc : Calls P f args W fun e w' => ∃ v, e = .returned v ∧ OwnBytes E W.heap.size w' v x ∧ Below W.heap.size W w') :
    Calls P f args W fun e w' => ∃ v, e = .returned v ∧ St w0 w' os ((pBytes x).p v :: fs) :=
  hc.mono fun _ w' ⟨v, h1, h2, h3⟩ => by
    refine ⟨v, h1, ?_⟩
    have hs := (h.call h3).putOwn h2 h.lt
    refine hs.pop.put ((pBytes x).mono v) ?_
    have hk := hs.get 0 rfl
    obtain ⟨b, q, rfl, -⟩ := IsBytes.out hk
    exact ⟨b, q, rfl, hk⟩
theorem mask_nil (w : World) : Sub w (mask (inL (keys [])) w) := fun a v hx => by
  rw [← hx]
  exact World.cell?_of_block (mask_block _ w _ rfl)
/-- Bytes, where the caller has no blocks of its own. -/
theorem Calls.pI (h : St w0 W [] fs) (hc : Calls P f args W fun e w' => ∃ v, e = .returned v ∧ IsBytes w' v x ∧ Below W.heap.size W w') :
    Calls P f args W fun e w' => ∃ v, e = .returned v ∧ St w0 w' [] ((pBytes x).p v :: fs) :=
  hc.mono fun _ w' ⟨v, h1, h2, h3⟩ => by
    refine ⟨v, h1, (h.call h3).put ((pBytes x).mono v) ?_⟩
    obtain ⟨b, q, rfl, -⟩ := IsBytes.out h2
    exact ⟨b, q, rfl, h2.sub (mask_nil _)⟩
/-- A value. -/
theorem Calls.pV {c : Value} (h : St w0 W os fs) (hc : Calls P f args W fun e w' => e = .returned c ∧ Below W.heap.size W w') :
    Calls P f args W fun e w' => ∃ v, e = .returned v ∧ St w0 w' os ((pVal c).p v :: fs) :=
  hc.mono fun _ w' ⟨h1, h3⟩ => ⟨c, h1, (h.call h3).put ((pVal c).mono c) rfl⟩
theorem Calls.pV' {c : Value} (h : St w0 W os fs) (hc : Calls P f args W fun e w' => e = .returned c ∧ w' = W) :
    Calls P f args W fun e w' => ∃ v, e = .returned v ∧ St w0 w' os ((pVal c).p v :: fs) :=
  Calls.pV h (hc.mono fun _ _ ⟨h1, h2⟩ => ⟨h1, h2 ▸ Below.refl _ _⟩)
/-- New bytes, in a plain walk. -/
theorem Calls.sB {E : TypeId} (h : St w0 W os fs) (hc : Calls P f args W fun e w' => ∃ v, e = .returned v ∧ OwnBytes E W.heap.size w' v x ∧ Below W.heap.size W w') :
    Calls P f args W fun e w' => ∃ v, e = .returned v ∧ St w0 w' os ((IsBytes · v x) :: fs) :=
  hc.mono fun _ _ ⟨v, h1, h2, h3⟩ => ⟨v, h1, (h.call h3).putOwn h2 h.lt⟩
theorem Calls.sS {E : TypeId} {m : Nat} (h : St w0 W os fs) (hm : x.length = m) (hc : Calls P f args W fun e w' => ∃ v, e = .returned v ∧ OwnBytes E W.heap.size w' v x ∧ Below W.heap.size W w') :
    Calls P f args W fun e w' => ∃ b c, e = .returned (.slice b m c) ∧ m ≤ c ∧ St w0 w' os ((IsBytes · (.slice b m c) x) :: fs) :=
  (Calls.sB h hc).mono fun _ _ ⟨v, h1, h2⟩ => by
    obtain ⟨b, c, rfl, h3, -⟩ := (h2.is 0 rfl : IsBytes _ _ _).out
    subst hm
    exact ⟨b, c, h1, h3, h2⟩
theorem Calls.sI (h : St w0 W [] fs) (hc : Calls P f args W fun e w' => ∃ v, e = .returned v ∧ IsBytes w' v x ∧ Below W.heap.size W w') :
    Calls P f args W fun e w' => ∃ v, e = .returned v ∧ St w0 w' [] ((IsBytes · v x) :: fs) :=
  hc.mono fun _ _ ⟨v, h1, h2, h3⟩ => ⟨v, h1, (h.call h3).put (Mono.bytes _ _) (h2.sub (mask_nil _))⟩
theorem Calls.sV {c : Value} (h : St w0 W os fs) (hc : Calls P f args W fun e w' => e = .returned c ∧ Below W.heap.size W w') :
    Calls P f args W fun e w' => e = .returned c ∧ St w0 w' os fs :=
  hc.mono fun _ _ ⟨h1, h3⟩ => ⟨h1, h.call h3⟩
theorem Calls.sV' {c : Value} (h : St w0 W os fs) (hc : Calls P f args W fun e w' => e = .returned c ∧ w' = W) :
    Calls P f args W fun e w' => e = .returned c ∧ St w0 w' os fs :=
  hc.mono fun _ _ ⟨h1, h3⟩ => ⟨h1, h3 ▸ h⟩
end
end Go.Proofs.Ytfpkibfofainaaa
/- Small words for drawn regions (in seat s04 they stand in the text WOne). -/
namespace Go.Proofs.Ytfpkibfofainaaa
open Go.RowKit
theorem run_conv {P : Program} {ρ : Operand → Value} {o : Oper} {W : World} {src dst : TypeId} {x : Operand} {v r : Value} (ho : o.op = .convert src dst x) (hx : ρ x = v) (h : (convert src dst v).run P W = .ok r W) : (execOp ρ o).run P W = .ok (.value r) W := by
  unfold execOp
  simp only [ho, hx, Sem.run_bind, h, Result.andThen_ok, Sem.run_pure]
theorem St.base {w0 W : World} {os : List (Nat × Obj)} {fs F : List (World → Prop)} (h : St w0 W os (F ++ fs)) (i : Nat) {P : World → Prop} (hi : fs[i]? = some P) : P (sm os W) := h.fact P (List.mem_append_right _ (List.mem_of_getElem? hi))
theorem Mono.cell (a : Addr) (v : Value) : Mono (fun x => x.cell? a = some v) := fun _ _ h p => h _ _ p
end Go.Proofs.Ytfpkibfofainaaa
/- A region that draws its order and appends to a slice of its own making. Over whatever program. -/
set_option linter.unusedVariables false
namespace Go.Proofs.Ytfpkibfofainaaa
open Go Go.RowKit

theorem St.perm {w0 W : World} {os os' : List (Nat × Obj)} {fs : List (World → Prop)} (h : St w0 W os fs) (hp : os.Perm os') : St w0 W os' fs := by
  have hk : (keys os).Perm (keys os') := hp.map _
  have hS : inL (keys os) = inL (keys os') := funext fun k => by
    unfold inL
    rw [decide_eq_decide]
    exact hk.mem_iff
  refine ⟨h.below, hk.nodup_iff.1 h.nodup, fun p hm => h.blk p (hp.mem_iff.2 hm), h.mono, fun P hP => ?_⟩
  have := h.fact P hP
  unfold sm at this ⊢
  rwa [← hS]
/-- A slice that the call owns, and its block, apart from the world. -/
def OwnP (E sz : Nat) (v : Value) (n : Nat) (xs : List Value) (oo : List (Nat × Obj)) : Prop :=
  xs.length = n * sz ∧ ((v = .slice none 0 0 ∧ n = 0 ∧ oo = []) ∨ ∃ g cap cur, v = .slice (some ⟨g, 0, none⟩) n cap ∧ oo = [(g, .cells cur E (0, 0))] ∧ n ≤ cap ∧ cap ≤ maxLen ∧ cur.size = cap * sz ∧ cur.toList.take (n * sz) = xs)
theorem OwnP.owns {E sz n : Nat} {v : Value} {xs : List Value} {oo os : List (Nat × Obj)} {w0 W : World} {fs : List (World → Prop)} (h : OwnP E sz v n xs oo) (hs : St w0 W (oo ++ os) fs) : W.ownsRow w0.heap.size E sz v n xs := by
  obtain ⟨h1, h2⟩ := h
  refine ⟨h1, ?_⟩
  rcases h2 with ⟨a, b, _⟩ | ⟨g, cap, cur, a, rfl, b, c, d, e⟩
  · exact .inl ⟨a, b⟩
  · have := hs.blk (g, .cells cur E (0, 0)) (by simp)
    exact .inr ⟨g, cap, cur, a, this.1, this.2, b, c, d, e⟩
theorem OwnP.append {E sz n m : Nat} {v v' : Value} {xs ys : List Value} {oo os : List (Nat × Obj)} {w0 W W' : World} {fs : List (World → Prop)} (h : OwnP E sz v n xs oo) (hs : St w0 W (oo ++ os) fs) (hr : W'.ownsRow w0.heap.size E sz v' m ys) (hg : W.grownBy W' v.ownBlock) (hb : v'.ownBlock = v.ownBlock ∨ ∃ k, W.heap.size ≤ k ∧ v'.ownBlock = some k) :
    ∃ oo', OwnP E sz v' m ys oo' ∧ St w0 W' (oo' ++ os) fs := by
  obtain ⟨h1, h2⟩ := h
  obtain ⟨r1, r2⟩ := hr
  rcases h2 with ⟨rfl, rfl, rfl⟩ | ⟨g, cap, cur, rfl, rfl, -⟩
  · have hB : Below W.heap.size W W' := ⟨hg.os, hg.tape, hg.output, hg.size, fun k hk => hg.block k hk (fun e => by cases e)⟩
    rcases r2 with ⟨a, b⟩ | ⟨g, cap, cur, rfl, c, d, e⟩
    · exact ⟨[], ⟨r1, .inl ⟨a, b, rfl⟩⟩, hs.call hB⟩
    · rcases hb with hb | ⟨k, hk, hb⟩
      · cases hb
      · have : g = k := by cases hb; rfl
        subst this
        exact ⟨[(g, .cells cur E (0, 0))], ⟨r1, .inr ⟨g, cap, cur, rfl, rfl, e⟩⟩, hs.grow hB hk d⟩
  · rcases r2 with ⟨a, b⟩ | ⟨g', cap', cur', rfl, c, d, e⟩
    · subst a
      rcases hb with hb | ⟨k, hk, hb⟩ <;> cases hb
    · refine ⟨[(g', .cells cur' E (0, 0))], ⟨r1, .inr ⟨g', cap', cur', rfl, rfl, e⟩⟩, St.regrow (os1 := []) hs hg ?_ d⟩
      rcases hb with hb | ⟨k, hk, hb⟩
      · left; cases hb; rfl
      · right; cases hb; exact hk
/-- It is let go: a slice that reads. -/
theorem OwnP.done {E sz n : Nat} {v : Value} {xs : List Value} {oo os : List (Nat × Obj)} {w0 W : World} {fs : List (World → Prop)} (h : OwnP E sz v n xs oo) (hs : St w0 W (oo ++ os) fs) : St w0 W os ((IsRow sz · v n xs) :: fs) := by
  have ho := h.owns hs
  have h' := h
  obtain ⟨-, h2⟩ := h'
  have hrow := ownsRow_isRow ho
  rcases h2 with ⟨rfl, rfl, rfl⟩ | ⟨g, cap, cur, rfl, rfl, -⟩
  · exact hs.put (Mono.row sz _ _ _) (mask_row hrow fun k hk => by cases hk)
  · refine (St.loose (os1 := []) hs).put (Mono.row sz _ _ _) (mask_row hrow fun k hk => ?_)
    have : g = k := by cases hk; rfl
    subst this
    rw [inL_no]
    have := hs.nodup
    simp only [keys, List.map_cons, List.singleton_append, List.nodup_cons] at this
    exact this.1
theorem OwnP.fresh {E sz : Nat} {os : List (Nat × Obj)} {w0 W : World} {fs : List (World → Prop)} (hs : St w0 W os fs) : OwnP E sz (.slice (some ⟨W.heap.size, 0, none⟩) 0 0) 0 [] [(W.heap.size, .cells #[] E (0, 0))] ∧ St w0 (W.alloc (.cells #[] E (0, 0))) ([(W.heap.size, .cells #[] E (0, 0))] ++ os) fs :=
  ⟨⟨by simp, .inr ⟨_, 0, #[], rfl, rfl, Nat.le_refl _, Nat.zero_le _, by simp, by simp⟩⟩, hs.alloc _⟩

theorem osN_perm {ia is k : Nat} {T : TypeId} {Z : Obj} {os0 : List (Nat × Obj)} (oo : List (Nat × Obj)) (L : Nat → Bool) (V : Nat → Value) : (osN ia is k T Z (os0 ++ oo) L V).Perm (oo ++ osN ia is k T Z (os0 ++ []) L V) := by
  unfold osN
  rw [List.append_nil]
  split
  · exact (List.Perm.cons _ List.perm_append_comm).trans List.perm_middle.symm
  · exact List.perm_append_comm
theorem osC_perm {os0 : List (Nat × Obj)} (oo : List (Nat × Obj)) (L : Nat → Bool) (V : Nat → Value) : (osC (os0 ++ oo) L V).Perm (oo ++ osC (os0 ++ []) L V) := by
  unfold osC
  rw [List.append_nil]
  exact List.perm_append_comm

section
variable {P : Program} {ops : Array Oper} {Q : Exit → Act → World → Prop}
theorem opW_mono {ρ : Operand → Value} {o : Oper} {W : World} {K K' : Value → World → Prop} (h : opW P ops ρ o W K) (hk : ∀ v W', K v W' → K' v W') : opW P ops ρ o W K' := by
  unfold opW at h ⊢
  split
  · rename_i hw
    rw [if_pos hw] at h
    generalize (execOp ρ o).run P W = r at *
    cases r with
    | halt x w' => exact h.elim
    | ok nx w' =>
      cases nx with
      | value u => exact hk _ _ h
      | skip => exact hk _ _ h
      | enter f args => exact Calls.mono h fun e w'' ⟨v, he, h⟩ => ⟨v, he, hk _ _ h⟩
      | row row args => exact Rows.mono h fun v w'' h => hk _ _ h
      | _ => exact h.elim
  · rename_i hw
    rw [if_neg hw] at h
    exact hk _ _ h
/-- The slice that is being made. -/
abbrev Ownf := (Nat → Bool) → (Nat → Value) → List (Nat × Obj) → Prop
section
variable (ops) (P) (M : List Nat) (D : List (List (Nat × Tmp))) (Φ : List Pd) (w0 : World) (os : List (Nat × Obj) → Osf) (ow : Ownf) (fs : List (World → Prop)) (a : Act)
def ObligO (i : Nat) (o : Oper) : Prop :=
  (∀ ρ d u t, ext ρ d u (.tmp t) = if t = d then u else ρ (.tmp t)) → (∀ ρ d u v, ext ρ d u (.const v) = ρ (.const v)) → (∀ ρ d u f, ext ρ d u (.func f) = ρ (.func f)) → (∀ ρ d u g, ext ρ d u (.global g) = ρ (.global g)) →
  ∀ (L : Nat → Bool) (V : Nat → Value) (W : World), L i = false → (∀ j, maskB M i j = true → L j = true) → (∀ j, maskB M j i = true → j < ops.size → L j = false) → ∀ oo, ow L V oo → St w0 W (os oo L V) (FL Φ ops.size L V ++ fs) →
    DepAll Φ V (sm (os oo L V) W) a.eval (D.getD i []) fun ρ => opW P ops ρ o W fun v W' => ∃ oo', ow (updB L i) (updV V i v) oo' ∧ St w0 W' (os oo' (updB L i) (updV V i v)) ((Φ.getD i pAny).p v :: (FL Φ ops.size L V ++ fs))
def ObligsO : List Oper → Nat → Prop
  | [], _ => True
  | o :: l, i => ObligO P ops M D Φ w0 os ow fs a i o ∧ ObligsO l (i + 1)
end
variable {M : List Nat} {D : List (List (Nat × Tmp))} {Φ : List Pd} {w0 : World} {os : List (Nat × Obj) → Osf} {ow : Ownf} {fs : List (World → Prop)} {a : Act}
theorem obligsO_get : ∀ (l : List Oper) (k : Nat), ObligsO P ops M D Φ w0 os ow fs a l k → ∀ i o, l[i]? = some o → ObligO P ops M D Φ w0 os ow fs a (k + i) o
  | [], _, _, i, o, h => by simp at h
  | x :: l, k, h, i, o, hi => by
    cases i with
    | zero => simp at hi; subst hi; exact h.1
    | succ i =>
      have := obligsO_get l (k + 1) h.2 i o (by simpa using hi)
      rwa [show k + 1 + i = k + (i + 1) by omega] at this

theorem wp_region_sto {id : Nat} {w : World} {os0 : List (Nat × Obj)} (Φ : List Pd) (os : List (Nat × Obj) → Osf) (ow : Ownf) (n : Nat) (M : List Nat) (D : List (List (Nat × Tmp))) (E : List (Nat × Tmp)) (hm : P.follows .mixedOrders = true) (hok : okB ops n M D = true) (hE : slotsOf ops ops.size = E) (hn : a.tmps.size = n)
    (h : St w0 w os0 fs) (how0 : ∀ L V, (∀ j, L j = false) → ow L V []) (hos0 : ∀ L V, (∀ j, L j = false) → os [] L V = os0) (how1 : ∀ L V oo, (∀ j, j < ops.size → L j = true) → ow L V oo → oo = []) (hos1 : ∀ L V, (∀ j, j < ops.size → L j = true) → os [] L V = os [] (fun _ => true) V)
    (hob : ObligsO P ops M D Φ w0 os ow fs a ops.toList 0)
    (hend : ∀ V W, St w0 W (os [] (fun _ => true) V) fs → EndAll Φ V (sm (os [] (fun _ => true) V) W) E a fun b => Q .normal b W) : (Code.region id ops true).wp P Q a w := by
  have ok := ok_of hok
  refine wp_region_inv n M D (fun L V W => ∃ oo, ow L V oo ∧ St w0 W (os oo L V) (FL Φ ops.size L V ++ fs)) hm hok hn (fun L L' V w hL hI => ?_) (fun L V hL => ?_) (fun i o hi L V W hLi hd hw hI => ?_) (fun L V W hL hI => ?_)
  · have : L = L' := funext hL
    subst this
    exact hI
  · refine ⟨[], how0 L V hL, ?_⟩
    rw [hos0 L V hL]
    have : FL Φ ops.size L V = [] := by
      unfold FL
      rw [List.map_eq_nil_iff, List.filter_eq_nil_iff]
      intro j _
      rw [hL j]
      exact Bool.false_ne_true
    rw [this]
    exact h.drew
  · obtain ⟨oo, hoo, hI⟩ := hI
    have hO := obligsO_get ops.toList 0 hob i o (by simpa using hi)
    rw [Nat.zero_add] at hO
    have hO' := hO (fun _ _ _ _ => rfl) (fun _ _ _ _ => rfl) (fun _ _ _ _ => rfl) (fun _ _ _ _ => rfl) L V W hLi hd hw oo hoo hI
    have h2 := depAll_of (D.getD i []) (fun p hp => hI.fact _ (List.mem_append_left _ (fl_mem (dst_lt (ok.deps i o p hi hp).2) (hd _ (ok.deps i o p hi hp).1)))) hO'
    refine opW_mono h2 fun v W' ⟨oo', h3, hs⟩ => ⟨oo', h3, hs.facts fun X hX => ?_⟩
    rcases List.mem_append.1 hX with hX | hX
    · rcases fl_step hX with rfl | hX
      · exact List.mem_cons_self
      · exact List.mem_cons_of_mem _ (List.mem_append_left _ hX)
    · exact List.mem_cons_of_mem _ (List.mem_append_right _ hX)
  · obtain ⟨oo, hoo, hI⟩ := hI
    obtain rfl := how1 L V oo hL hoo
    rw [putL_end]
    rw [hos1 L V hL] at hI
    have hall : ∀ p ∈ slotsOf ops ops.size, (Φ.getD p.1 pAny).p (V p.1) (sm (os [] (fun _ => true) V) W) := fun p hp => hI.fact _ (List.mem_append_left _ (fl_mem (slots_lt _ p hp) (hL _ (slots_lt _ p hp))))
    rw [hE] at hall ⊢
    exact endAll_of E hall (hend V W (hI.facts fun X hX => List.mem_append_right _ hX))

variable {ρ : Operand → Value} {o : Oper} {W : World}
/-- []T{}. -/
theorem run_build_none {t e : TypeId} (ho : o.op = .buildSlice t 0 #[]) (hu : P.underlying t = some (.slice e)) (hz : ((P.info? e).bind (·.zero)).isSome = true) : (execOp ρ o).run P W = .ok (.value (.slice (some ⟨W.heap.size, 0, none⟩) 0 0)) (W.alloc (.cells #[] e (0, 0))) := by
  cases hq : P.info? e with
  | none => simp [hq] at hz
  | some i =>
    cases hz' : i.zero with
    | none => simp [hq, hz'] at hz
    | some z => simp [execOp, ho, Instr.buildSlice, run_underlying hu, sizeOf, typeInfo, hq, newRow, Instr.fill, show Array.range 0 = #[] from by simp [Array.range]]
/-- append, to a slice of the region's making. -/
theorem run_append_op (s x : Operand) (t t2 : TypeId) (ho : o.op = .call { callee := .builtin .append, args := #[s, x], argTypes := #[t, t2] })
    (base : Nat) (e : TypeId) (z : Value) (size bytes : Nat) (ht : P.underlying t = some (.slice e)) (hinfo : (P.info? e).map (fun i => (i.zero, i.size, i.bytes)) = some (some z, size, bytes)) (hzs : z.cells.size = size)
    (v : Value) (n : Nat) (xs : List Value) (hs : ρ s = v) (hown : W.ownsRow base e size v n xs) (u : Value) (m : Nat) (news : List Value) (hx : ρ x = u) (hsrc : Src P size W t2 u m news)
    (hbytes : (n + m) * bytes ≤ 140737488355328) (h63 : n + m ≤ maxLen) (hbase : base ≤ W.heap.size) :
    ∃ v' w', (execOp ρ o).run P W = .ok (.value v') w' ∧ w'.ownsRow base e size v' (n + m) (xs ++ news) ∧ W.grownBy w' v.ownBlock ∧ (v'.ownBlock = v.ownBlock ∨ ∃ k, W.heap.size ≤ k ∧ v'.ownBlock = some k) := by
  obtain ⟨v', w', hr, h2, h3, h4⟩ := run_append_any' (w := W) base t o.type t2 e z size bytes ht hinfo hzs v n xs hown u m news hsrc hbytes h63 hbase
  refine ⟨v', w', ?_, h2, h3, h4⟩
  unfold execOp
  simp only [ho, resolve, invoke, builtin, Sem.run_bind, Sem.run_pure, Result.andThen_ok, List.map_toArray, List.map_cons, List.map_nil, hs, hx, hr]

/-- []byte{}, append, append: what is made, and its block, as far as it has come. -/
def ow3 (i0 i1 i2 : Nat) (E : TypeId) (l1 : List UInt8) : Ownf := fun L V oo => (L i2 = true → oo = []) ∧ (L i2 = false → L i1 = true → OwnP E 1 (V i1) l1.length (l1.map u8v) oo) ∧ (L i1 = false → L i0 = true → OwnP E 1 (V i0) 0 [] oo) ∧ (L i0 = false → oo = [])
section
variable {i i0 i1 i2 : Nat} {E : TypeId} {l1 : List UInt8} {L : Nat → Bool} {V : Nat → Value} {K : Value → World → Prop} {oo : List (Nat × Obj)} {F : List (World → Prop)}
theorem ow3_none : ∀ L V, (∀ j, L j = false) → ow3 i0 i1 i2 E l1 L V [] := fun L V h => ⟨fun _ => rfl, fun _ hh => absurd hh (by rw [h]; exact Bool.false_ne_true), fun _ hh => absurd hh (by rw [h]; exact Bool.false_ne_true), fun _ => rfl⟩
theorem ow3_all {n : Nat} (h2 : i2 < n) : ∀ L V oo, (∀ j, j < n → L j = true) → ow3 i0 i1 i2 E l1 L V oo → oo = [] := fun L V oo h ho => ho.1 (h _ h2)
theorem ob3_build (hi : i = i0) (n01 : i1 ≠ i0) (n02 : i2 ≠ i0) (hperm : ∀ oo L V, (os oo L V).Perm (oo ++ os [] L V)) (hkeep : ∀ oo v, os oo (updB L i) (updV V i v) = os oo L V) {t : TypeId} (hg : wantE ops o ρ = true) (ho : o.op = .buildSlice t 0 #[]) (hu : P.underlying t = some (.slice E)) (hz : ((P.info? E).bind (·.zero)).isSome = true)
    (h0 : L i0 = false) (h1 : L i1 = false) (h2 : L i2 = false) (hoo : ow3 i0 i1 i2 E l1 L V oo) (hst : St w0 W (os oo L V) F) :
    opW P ops ρ o W fun v W' => ∃ oo', ow3 i0 i1 i2 E l1 (updB L i) (updV V i v) oo' ∧ St w0 W' (os oo' (updB L i) (updV V i v)) (pAny.p v :: F) := by
  subst hi
  obtain rfl := hoo.2.2.2 h0
  refine ob_run hg (run_build_none ho hu hz) ?_
  obtain ⟨k1, k2⟩ := OwnP.fresh (E := E) (sz := 1) hst
  refine ⟨[(W.heap.size, .cells #[] E (0, 0))], ⟨fun h => ?_, fun _ h => ?_, fun _ _ => ?_, fun h => ?_⟩, ?_⟩
  · rw [updB_ne n02, h2] at h; cases h
  · rw [updB_ne n01, h1] at h; cases h
  · rw [updV_same]; exact k1
  · rw [updB_same] at h; cases h
  · rw [hkeep]
    exact (k2.perm (hperm _ L V).symm).put (pAny.mono _) trivial
theorem ob3_app1 (hi : i = i1) (n10 : i0 ≠ i1) (n12 : i2 ≠ i1) (hperm : ∀ oo L V, (os oo L V).Perm (oo ++ os [] L V)) (hkeep : ∀ oo v, os oo (updB L i) (updV V i v) = os oo L V) {s x : Operand} {t t2 : TypeId} (hg : wantE ops o ρ = true)
    (ho : o.op = .call { callee := .builtin .append, args := #[s, x], argTypes := #[t, t2] }) (hu : P.underlying t = some (.slice E)) (hu2 : P.underlying t2 = some (.slice E)) (hinfo : (P.info? E).map (fun i => (i.zero, i.size, i.bytes)) = some (some (.int .u8 0), 1, 1))
    (hs : ρ s = V i0) {src : Value} (hx : ρ x = src) (hsrc : IsBytes (sm (os oo L V) W) src l1) (hlen : l1.length ≤ 1048576) (h0 : L i0 = true) (h1 : L i1 = false) (h2 : L i2 = false) (hoo : ow3 i0 i1 i2 E l1 L V oo) (hst : St w0 W (os oo L V) F) :
    opW P ops ρ o W fun v W' => ∃ oo', ow3 i0 i1 i2 E l1 (updB L i) (updV V i v) oo' ∧ St w0 W' (os oo' (updB L i) (updV V i v)) (pAny.p v :: F) := by
  subst hi
  have k1 := hoo.2.2.1 h1 h0
  have hp := hst.perm (hperm oo L V)
  obtain ⟨v', w', hr, r1, r2, r3⟩ := run_append_op (P := P) (W := W) s x t t2 ho w0.heap.size E (.int .u8 0) 1 1 hu hinfo rfl _ 0 [] hs (k1.owns hp) _ l1.length (l1.map u8v) hx ((hsrc.sub (mask_is _ _)).src hu2) (by omega) (by simp only [maxLen]; omega) hst.size
  obtain ⟨oo', k2, k3⟩ := k1.append hp r1 r2 r3
  refine ob_run hg hr ⟨oo', ⟨fun h => ?_, fun _ _ => ?_, fun h => ?_, fun h => ?_⟩, ?_⟩
  · rw [updB_ne n12, h2] at h; cases h
  · rw [updV_same]; simpa using k2
  · rw [updB_same] at h; cases h
  · rw [updB_ne n10, h0] at h; cases h
  · rw [hkeep]
    exact (k3.perm (hperm _ L V).symm).put (pAny.mono _) trivial
theorem ob3_app2 (hi : i = i2) (n20 : i0 ≠ i2) (n21 : i1 ≠ i2) (hperm : ∀ oo L V, (os oo L V).Perm (oo ++ os [] L V)) (hkeep : ∀ oo v, os oo (updB L i) (updV V i v) = os oo L V) {s x : Operand} {t t2 : TypeId} (hg : wantE ops o ρ = true)
    (ho : o.op = .call { callee := .builtin .append, args := #[s, x], argTypes := #[t, t2] }) (hu : P.underlying t = some (.slice E)) (hu2 : P.underlying t2 = some (.slice E)) (hinfo : (P.info? E).map (fun i => (i.zero, i.size, i.bytes)) = some (some (.int .u8 0), 1, 1))
    (hs : ρ s = V i1) {src : Value} {l2 : List UInt8} (hx : ρ x = src) (hsrc : IsBytes (sm (os oo L V) W) src l2) (hlen : l1.length + l2.length ≤ 1048576) (h0 : L i0 = true) (h1 : L i1 = true) (h2 : L i2 = false) (hoo : ow3 i0 i1 i2 E l1 L V oo) (hst : St w0 W (os oo L V) F) :
    opW P ops ρ o W fun v W' => ∃ oo', ow3 i0 i1 i2 E l1 (updB L i) (updV V i v) oo' ∧ St w0 W' (os oo' (updB L i) (updV V i v)) ((pBytes (l1 ++ l2)).p v :: F) := by
  subst hi
  have k1 := hoo.2.1 h2 h1
  have hp := hst.perm (hperm oo L V)
  obtain ⟨v', w', hr, r1, r2, r3⟩ := run_append_op (P := P) (W := W) s x t t2 ho w0.heap.size E (.int .u8 0) 1 1 hu hinfo rfl _ l1.length (l1.map u8v) hs (k1.owns hp) _ l2.length (l2.map u8v) hx ((hsrc.sub (mask_is _ _)).src hu2) (by omega) (by simp only [maxLen]; omega) hst.size
  obtain ⟨oo', k2, k3⟩ := k1.append hp r1 r2 r3
  have k4 := (k2.done k3).perm (show (os [] L V).Perm (os [] L V) from List.Perm.refl _)
  refine ob_run hg hr ⟨[], ⟨fun _ => rfl, fun h => ?_, fun h => ?_, fun _ => rfl⟩, ?_⟩
  · rw [updB_same] at h; cases h
  · rw [updB_ne n21, h1] at h; cases h
  · rw [hkeep]
    refine k4.head (pBytes (l1 ++ l2)) v' fun hrow => ?_
    have hb : IsBytes (sm (os [] L V) w') v' (l1 ++ l2) := by
      unfold IsBytes
      rw [List.length_append, List.map_append]
      exact hrow
    obtain ⟨b, q, rfl, -⟩ := hb.out
    exact ⟨b, q, rfl, hb⟩
end
end
end Go.Proofs.Ytfpkibfofainaaa
/- Cells of a block as facts of a walk's state. Over whatever program. -/
set_option linter.unusedVariables false
namespace Go.Proofs.Ytfpkibfofainaaa
open Go.RowKit

/-- A block's cells, as they read. -/
def IsCells (g : Nat) (cs : Array Value) (x : World) : Prop := ∀ j v, cs[j]? = some v → x.cell? ⟨g, j, none⟩ = some v
theorem Mono.cells (g : Nat) (cs : Array Value) : Mono (IsCells g cs) := fun _ _ h p j v hj => h _ _ (p j v hj)
theorem isCells_of {W : World} {g : Nat} {cs : Array Value} {t : TypeId} (h : W.heap[g]? = some (.cells cs t (0, 0))) : IsCells g cs W := fun j v hj => by rw [cell_of_row _ _ _ _ _ _ h]; exact hj
theorem IsCells.c8 {W : World} {g : Nat} {a b c d e f h i : Value} (hh : IsCells g #[a, b, c, d, e, f, h, i] W) :
    W.cell? ⟨g, 0, none⟩ = some a ∧ W.cell? ⟨g, 1, none⟩ = some b ∧ W.cell? ⟨g, 2, none⟩ = some c ∧ W.cell? ⟨g, 3, none⟩ = some d ∧ W.cell? ⟨g, 4, none⟩ = some e ∧ W.cell? ⟨g, 5, none⟩ = some f ∧ W.cell? ⟨g, 6, none⟩ = some h ∧ W.cell? ⟨g, 7, none⟩ = some i :=
  ⟨hh 0 _ rfl, hh 1 _ rfl, hh 2 _ rfl, hh 3 _ rfl, hh 4 _ rfl, hh 5 _ rfl, hh 6 _ rfl, hh 7 _ rfl⟩
theorem IsCells.c3 {W : World} {g : Nat} {a b c : Value} (hh : IsCells g #[a, b, c] W) : W.cell? ⟨g, 0, none⟩ = some a ∧ W.cell? ⟨g, 1, none⟩ = some b ∧ W.cell? ⟨g, 2, none⟩ = some c := ⟨hh 0 _ rfl, hh 1 _ rfl, hh 2 _ rfl⟩
theorem IsCells.c4 {W : World} {g : Nat} {a b c d : Value} (hh : IsCells g #[a, b, c, d] W) : W.cell? ⟨g, 0, none⟩ = some a ∧ W.cell? ⟨g, 1, none⟩ = some b ∧ W.cell? ⟨g, 2, none⟩ = some c ∧ W.cell? ⟨g, 3, none⟩ = some d := ⟨hh 0 _ rfl, hh 1 _ rfl, hh 2 _ rfl, hh 3 _ rfl⟩
section
variable {w0 W : World} {fs : List (World → Prop)}
theorem St.keep (h : St w0 W [] fs) {P : World → Prop} (hm : Mono P) (hP : P W) : St w0 W [] (P :: fs) := h.put hm (hm _ _ (mask_nil _) hP)
theorem St.boxC (h : St w0 W [] fs) (cs : Array Value) (t : TypeId) : St w0 (W.alloc (.cells cs t (0, 0))) [] (IsCells W.heap.size cs :: fs) := (h.box _).keep (Mono.cells _ _) (isCells_of (heap_alloc_new _ _))
theorem St.newC (h : St w0 W [] fs) (cs0 cs : Array Value) (t : TypeId) : St w0 ((W.alloc (.cells cs0 t (0, 0))).setRow W.heap.size cs) [] (IsCells W.heap.size cs :: fs) := by
  have h1 := (h.alloc (.cells cs0 t (0, 0))).setRow (os1 := []) (cs' := cs)
  exact (h1.loose (os1 := [])).keep (Mono.cells _ _) (isCells_of (h1.at_ 0 rfl))
end
end Go.Proofs.Ytfpkibfofainaaa
