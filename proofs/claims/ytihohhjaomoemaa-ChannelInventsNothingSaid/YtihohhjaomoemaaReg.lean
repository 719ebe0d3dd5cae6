/- A region that draws its order, walked by an invariant: each operation once, whatever else has come up by then. Over whatever program. -/
import Derived.Test.YtihohhjaomoemaaTake
namespace Go.Proofs.Ytihohhjaomoemaa
open Go

section
variable {P : Program} {ops : Array Oper} {Q : Exit → Act → World → Prop} {md : Region.Mode}

def dstOf (ops : Array Oper) (i : Nat) : Option Tmp := (ops[i]?).bind (·.dst)
def updB (L : Nat → Bool) (i : Nat) : Nat → Bool := fun j => if j = i then true else L j
def updV (V : Nat → Value) (i : Nat) (v : Value) : Nat → Value := fun j => if j = i then v else V j
theorem updB_ne {L : Nat → Bool} {i j : Nat} (h : j ≠ i) : updB L i j = L j := if_neg h
theorem updB_same {L : Nat → Bool} {i : Nat} : updB L i i = true := if_pos rfl
theorem updV_ne {V : Nat → Value} {i j : Nat} {v : Value} (h : j ≠ i) : updV V i v j = V j := if_neg h
theorem updV_same {V : Nat → Value} {i : Nat} {v : Value} : updV V i v i = v := if_pos rfl

/-- The frame with what has come up. -/
def putL (ops : Array Oper) (L : Nat → Bool) (V : Nat → Value) (a : Act) : Nat → Act
  | 0 => a
  | n + 1 => if L n = true then (putL ops L V a n).put (dstOf ops n) (V n) else putL ops L V a n
/-- An operand's value where slot d holds u. -/
def ext (ρ : Operand → Value) (d : Tmp) (u : Value) : Operand → Value
  | .tmp t => if t = d then u else ρ (.tmp t)
  | x => ρ x
def extD (ρ : Operand → Value) (V : Nat → Value) : List (Nat × Tmp) → Operand → Value
  | [] => ρ
  | (j, d) :: l => ext (extD ρ V l) d (V j)

/-- The guard's word, by an operand's values. -/
def wantE (ops : Array Oper) (o : Oper) (ρ : Operand → Value) : Bool :=
  match o.guard with
  | none => true
  | some (g, want) => match dstOf ops g with
    | some t => (match ρ (.tmp t) with | .bool b => b == want | _ => false)
    | none => false

def uponW (P : Program) (K : Value → World → Prop) : Result Next → Prop
  | .ok (.value v) w' => K v w'
  | .ok .skip w' => K undef w'
  | .ok (.enter f args) w' => Calls P f args w' fun e w'' => ∃ v, e = .returned v ∧ K v w''
  | .ok (.row row args) w' => Rows P row args w' K
  | _ => False
/-- One operation, by its operands' values. -/
def opW (P : Program) (ops : Array Oper) (ρ : Operand → Value) (o : Oper) (w : World) (K : Value → World → Prop) : Prop :=
  if wantE ops o ρ = true then uponW P K ((execOp ρ o).run P w) else K undef w

theorem uponW_upon {o : Oper} {a : Act} {K : Value → World → Prop} {N : Act → World → Prop} (h : ∀ v w, K v w → N (a.put o.dst v) w) {r : Result Next} (hr : uponW P K r) : o.upon P a N Q r := by
  cases r with
  | halt x w' => exact hr.elim
  | ok n w' =>
    cases n with
    | value u => exact h _ _ hr
    | skip => exact h _ _ hr
    | enter f args =>
      refine Calls.mono hr fun e w'' ⟨v, he, hk⟩ => ?_
      subst he
      exact h _ _ hk
    | row row args => exact Rows.mono hr fun v w'' hk => h _ _ hk
    | _ => exact hr.elim

/-- What the frame holds at a slot. -/
theorem put_get (a : Act) (d : Option Tmp) (v : Value) (t : Tmp) : (a.put d v).tmps[t]? = if d = some t ∧ t < a.tmps.size then some v else a.tmps[t]? := by
  cases d with
  | none => simp [Act.put]
  | some d =>
    by_cases e : d = t
    · subst e
      by_cases h : d < a.tmps.size
      · simp [Act.put, h]
      · simp [Act.put, h]
    · simp [Act.put, e, Array.getElem?_setIfInBounds_ne e]
theorem put_size (a : Act) (d : Option Tmp) (v : Value) : (a.put d v).tmps.size = a.tmps.size := by cases d <;> simp [Act.put]
theorem putL_size (L : Nat → Bool) (V : Nat → Value) (a : Act) (n : Nat) : (putL ops L V a n).tmps.size = a.tmps.size := by
  induction n with
  | zero => rfl
  | succ n ih => unfold putL; split <;> simp [put_size, ih]
/-- Nobody who has come up writes the slot. -/
theorem putL_no {L : Nat → Bool} {V : Nat → Value} {a : Act} {t : Tmp} : ∀ n, (∀ j, j < n → dstOf ops j = some t → L j = false) → (putL ops L V a n).tmps[t]? = a.tmps[t]?
  | 0, _ => rfl
  | n + 1, h => by
    unfold putL
    split
    · rename_i hl
      rw [put_get, if_neg (fun ⟨e, _⟩ => by rw [h n (Nat.lt_succ_self n) e] at hl; cases hl)]
      exact putL_no n fun j hj => h j (by omega)
    · exact putL_no n fun j hj => h j (by omega)
/-- One who has come up writes it, and he alone. -/
theorem putL_yes {L : Nat → Bool} {V : Nat → Value} {a : Act} {t : Tmp} {j : Nat} (hd : dstOf ops j = some t) (hl : L j = true) (hu : ∀ k, dstOf ops k = some t → k = j) (ht : t < a.tmps.size) : ∀ n, j < n → (putL ops L V a n).tmps[t]? = some (V j)
  | 0, h => absurd h (Nat.not_lt_zero _)
  | n + 1, h => by
    unfold putL
    by_cases e : j = n
    · subst e
      rw [if_pos hl, put_get, if_pos ⟨hd, by rw [putL_size]; exact ht⟩]
    · split
      · rw [put_get, if_neg (fun ⟨x, _⟩ => e (hu n x).symm)]
        exact putL_yes hd hl hu ht n (by omega)
      · exact putL_yes hd hl hu ht n (by omega)
theorem putL_defers (L : Nat → Bool) (V : Nat → Value) (a : Act) (n : Nat) : (putL ops L V a n).defers = a.defers := by
  induction n with
  | zero => rfl
  | succ n ih => unfold putL; split; · rw [← ih]; cases dstOf ops n <;> rfl
                 · exact ih
theorem putL_congr {L L' : Nat → Bool} {V V' : Nat → Value} {a : Act} : ∀ n, (∀ j, j < n → L j = L' j ∧ (L j = true → V j = V' j)) → putL ops L V a n = putL ops L' V' a n
  | 0, _ => rfl
  | n + 1, h => by
    unfold putL
    obtain ⟨h1, h2⟩ := h n (Nat.lt_succ_self n)
    rw [putL_congr n fun j hj => h j (by omega), ← h1]
    split
    · rename_i hl; rw [h2 hl]
    · rfl
theorem putL_step {L : Nat → Bool} {V : Nat → Value} {a : Act} {i : Nat} {v : Value} (hi : L i = false) (hu : ∀ j k t, dstOf ops j = some t → dstOf ops k = some t → j = k) : ∀ n, i < n → putL ops (updB L i) (updV V i v) a n = (putL ops L V a n).put (dstOf ops i) v
  | 0, h => absurd h (Nat.not_lt_zero _)
  | n + 1, h => by
    unfold putL
    by_cases e : n = i
    · subst e
      rw [if_pos updB_same, updV_same, if_neg (by rw [hi]; exact Bool.false_ne_true)]
      rw [putL_congr (V' := V) (L' := L) n fun j hj => ⟨updB_ne (by omega), fun _ => updV_ne (by omega)⟩]
    · rw [putL_step hi hu n (by omega), updB_ne e, updV_ne e]
      split
      · rw [Act.put_comm]
        intro d hd hd'
        exact e (hu _ _ _ hd' hd)
      · rfl

/-- The checks: see okB's parts. M: for each operation the bits of those it waits for; D: for each the operands that others of the region yield. -/
def maskB (M : List Nat) (i j : Nat) : Bool := (M.getD i 0).testBit j
def edgesB (ops : Array Oper) (M : List Nat) (i : Nat) : Bool := match ops[i]? with
  | some o => (o.after.all fun e => !Region.binds .any e || Nat.blt e.on i) && (List.range i).all (fun j => !maskB M i j || o.after.any fun e => Region.binds .any e && (e.on == j || maskB M e.on j)) && Nat.blt (M.getD i 0) (2 ^ i)
  | none => false
def readsB (ops : Array Oper) (M : List Nat) (D : List (List (Nat × Tmp))) (i : Nat) : Bool := match ops[i]? with
  | some o => (o.looksAt ops).all (fun t => (List.range ops.size).all fun j => dstOf ops j != some t || (D.getD i []).contains (j, t) || maskB M j i || j == i) && (D.getD i []).all (fun p => maskB M i p.1 && dstOf ops p.1 == some p.2)
  | none => false
def distinctB (ops : Array Oper) : Bool := (List.range ops.size).all fun i => (List.range i).all fun j => (dstOf ops i).isNone || dstOf ops i != dstOf ops j
def inB (ops : Array Oper) (n : Nat) : Bool := (List.range ops.size).all fun i => match dstOf ops i with | some t => Nat.blt t n | none => true
def okB (ops : Array Oper) (n : Nat) (M : List Nat) (D : List (List (Nat × Tmp))) : Bool :=
  Region.noSelect ops && inB ops n && distinctB ops && (List.range ops.size).all (fun i => edgesB ops M i && readsB ops M D i)

structure Ok (ops : Array Oper) (n : Nat) (M : List Nat) (D : List (List (Nat × Tmp))) : Prop where
  sel : ∀ (j : Nat) (o : Oper) cs b, ops[j]? = some o → o.op ≠ .select cs b
  size : ∀ j t, dstOf ops j = some t → t < n
  uniq : ∀ j k t, dstOf ops j = some t → dstOf ops k = some t → j = k
  low : ∀ i o, ops[i]? = some o → ∀ e ∈ o.after, Region.binds .any e = true → e.on < i
  anc : ∀ i o j, ops[i]? = some o → maskB M i j = true → ∃ e ∈ o.after, Region.binds .any e = true ∧ (e.on = j ∨ maskB M e.on j = true)
  reads : ∀ i o t, ops[i]? = some o → t ∈ o.looksAt ops → ∀ j, j < ops.size → dstOf ops j = some t → (j, t) ∈ D.getD i [] ∨ maskB M j i = true ∨ j = i
  deps : ∀ i o p, ops[i]? = some o → p ∈ D.getD i [] → maskB M i p.1 = true ∧ dstOf ops p.1 = some p.2
theorem dst_lt {j : Nat} {t : Tmp} (h : dstOf ops j = some t) : j < ops.size := by
  rcases Nat.lt_or_ge j ops.size with h' | h'
  · exact h'
  · simp [dstOf, Array.getElem?_eq_none h'] at h
theorem ok_of {n : Nat} {M : List Nat} {D : List (List (Nat × Tmp))} (h : okB ops n M D = true) : Ok ops n M D := by
  unfold okB at h
  simp only [Bool.and_eq_true, List.all_eq_true, List.mem_range] at h
  obtain ⟨⟨⟨h1, h2⟩, h3⟩, h4⟩ := h
  have lt : ∀ {i : Nat} {o : Oper}, ops[i]? = some o → i < ops.size := fun h => (Array.getElem?_eq_some_iff.1 h).1
  refine ⟨Region.noSelect_spec h1, fun j t hj => ?_, fun j k t hj hk => ?_, fun i o hi e he hb => ?_, fun i o j hi hm => ?_, fun i o t hi ht j hj hd => ?_, fun i o p hi hp => ?_⟩
  · unfold inB at h2
    have := List.all_eq_true.1 h2 j (List.mem_range.2 (dst_lt hj))
    simp only [hj] at this
    exact Nat.blt_eq ▸ this
  · unfold distinctB at h3
    have key : ∀ j k, k < j → dstOf ops j = some t → dstOf ops k = some t → False := fun j k hkj hj hk => by
      have := List.all_eq_true.1 (List.all_eq_true.1 h3 j (List.mem_range.2 (dst_lt hj))) k (List.mem_range.2 hkj)
      simp [hj, hk] at this
    rcases Nat.lt_trichotomy j k with h | h | h
    · exact (key k j h hk hj).elim
    · exact h
    · exact (key j k h hj hk).elim
  · have := (h4 i (lt hi)).1
    simp only [edgesB, hi, Bool.and_eq_true] at this
    have h5 := Array.all_eq_true_iff_forall_mem.1 this.1.1 e he
    simp only [hb, Bool.not_true, Bool.false_or] at h5
    exact Nat.blt_eq ▸ h5
  · have := (h4 i (lt hi)).1
    simp only [edgesB, hi, Bool.and_eq_true] at this
    have hji : j < i := by
      rcases Nat.lt_or_ge j i with h | h
      · exact h
      · have h6 : M.getD i 0 < 2 ^ i := Nat.blt_eq ▸ this.2
        have h7 := Nat.testBit_lt_two_pow (Nat.lt_of_lt_of_le h6 (Nat.pow_le_pow_right (by omega) h))
        unfold maskB at hm
        rw [h7] at hm
        cases hm
    have h5 := List.all_eq_true.1 this.1.2 j (List.mem_range.2 hji)
    simp only [hm, Bool.not_true, Bool.false_or] at h5
    obtain ⟨e, he, hb⟩ := Array.any_eq_true'.1 h5
    simp only [Bool.and_eq_true, Bool.or_eq_true, beq_iff_eq] at hb
    exact ⟨e, he, hb.1, hb.2⟩
  · have := (h4 i (lt hi)).2
    simp only [readsB, hi, Bool.and_eq_true] at this
    have h5 := List.all_eq_true.1 (List.all_eq_true.1 this.1 t ht) j (List.mem_range.2 hj)
    simp only [hd, Bool.or_eq_true, bne_self_eq_false, Bool.false_eq_true, false_or, beq_iff_eq] at h5
    rcases h5 with (h5 | h5) | h5
    · exact .inl (by simpa using h5)
    · exact .inr (.inl h5)
    · exact .inr (.inr h5)
  · have := (h4 i (lt hi)).2
    simp only [readsB, hi, Bool.and_eq_true] at this
    have h5 := List.all_eq_true.1 this.2 p hp
    simpa using h5

/-- Whoever has come up, or may come up, all that he waits for has come up. -/
theorem anc_all {n : Nat} {M : List Nat} {D : List (List (Nat × Tmp))} {listed : Array Bool} (ok : Ok ops n M D) (hc : Closed .any ops listed) : ∀ i o, ops[i]? = some o → (∀ e ∈ o.after, Region.binds .any e = true → listed.getD e.on false = true) → ∀ j, maskB M i j = true → listed.getD j false = true := by
  intro i
  induction i using Nat.strongRecOn with
  | _ i ih =>
    intro o hi hd j hm
    obtain ⟨e, he, hb, h⟩ := ok.anc i o j hi hm
    have hl := hd e he hb
    rcases h with h | h
    · exact h ▸ hl
    · have hlt := ok.low i o hi e he hb
      have : i < ops.size := (Array.getElem?_eq_some_iff.1 hi).1
      obtain ⟨o', ho'⟩ : ∃ o', ops[e.on]? = some o' := ⟨ops[e.on]'(by omega), Array.getElem?_eq_getElem (by omega)⟩
      exact ih e.on hlt o' ho' (fun x hx hbx => hc e.on o' ho' hl x hx hbx) j h

/-- The operands' values of number i, in the frame as it stands. -/
theorem extD_get {ρ : Operand → Value} {V : Nat → Value} {t : Tmp} : ∀ l : List (Nat × Tmp), (∀ p ∈ l, p.2 ≠ t) → extD ρ V l (.tmp t) = ρ (.tmp t)
  | [], _ => rfl
  | (j, d) :: l, h => by
    unfold extD ext
    simp only
    rw [if_neg (fun e => h (j, d) (by simp) e.symm)]
    exact extD_get l fun p hp => h p (List.mem_cons_of_mem _ hp)
theorem extD_hit {ρ : Operand → Value} {V : Nat → Value} {t : Tmp} {j : Nat} : ∀ l : List (Nat × Tmp), (j, t) ∈ l → (∀ p ∈ l, p.2 = t → p.1 = j) → extD ρ V l (.tmp t) = V j
  | [], h, _ => absurd h List.not_mem_nil
  | (k, d) :: l, h, hu => by
    unfold extD ext
    simp only
    by_cases e : t = d
    · rw [if_pos e]
      have h1 : k = j := hu (k, d) (by simp) e.symm
      rw [h1]
    · rw [if_neg e]
      refine extD_hit l ?_ fun p hp => hu p (List.mem_cons_of_mem _ hp)
      rcases List.mem_cons.1 h with h | h
      · cases h; exact absurd rfl e
      · exact h
theorem extD_else {ρ : Operand → Value} {V : Nat → Value} {x : Operand} (hx : ∀ t, x ≠ .tmp t) : ∀ l : List (Nat × Tmp), extD ρ V l x = ρ x
  | [] => rfl
  | (k, d) :: l => by
    unfold extD ext
    cases x with
    | tmp t => exact absurd rfl (hx t)
    | _ => exact extD_else hx l

variable {n : Nat} {M : List Nat} {D : List (List (Nat × Tmp))}
theorem eval_same (ok : Ok ops n M D) {L : Nat → Bool} {V : Nat → Value} {a : Act} (hn : a.tmps.size = n) {i : Nat} {o : Oper} (hi : ops[i]? = some o) (hL : L i = false) (hd : ∀ j, maskB M i j = true → L j = true) (hw : ∀ j, j < ops.size → maskB M j i = true → L j = false) {t : Tmp} (ht : t ∈ o.looksAt ops) :
    (putL ops L V a ops.size).eval (.tmp t) = extD a.eval V (D.getD i []) (.tmp t) := by
  by_cases h : ∃ j, (j, t) ∈ D.getD i []
  · obtain ⟨j, hj⟩ := h
    obtain ⟨h1, h2⟩ := ok.deps i o (j, t) hi hj
    rw [extD_hit _ hj fun p hp e => ok.uniq _ _ t (e ▸ (ok.deps i o p hi hp).2) h2]
    simp only [Act.eval]
    rw [Array.getD_eq_getD_getElem?, putL_yes h2 (hd j h1) (fun k hk => ok.uniq _ _ t hk h2) (hn ▸ ok.size j t h2) _ (dst_lt h2)]
    rfl
  · rw [extD_get _ fun p hp e => h ⟨p.1, by rw [← e]; exact hp⟩]
    simp only [Act.eval, Array.getD_eq_getD_getElem?]
    rw [putL_no _ fun j hj hdj => ?_]
    rcases ok.reads i o t hi ht j hj hdj with h' | h' | h'
    · exact absurd ⟨j, h'⟩ h
    · exact hw j hj h'
    · exact h' ▸ hL

theorem want_same (ok : Ok ops n M D) {L : Nat → Bool} {V : Nat → Value} {a : Act} (hn : a.tmps.size = n) {i : Nat} {o : Oper} (hi : ops[i]? = some o) (hL : L i = false) (hd : ∀ j, maskB M i j = true → L j = true) (hw : ∀ j, j < ops.size → maskB M j i = true → L j = false) :
    Region.wanted o (yielded ops (putL ops L V a ops.size).tmps) = wantE ops o (extD a.eval V (D.getD i [])) := by
  unfold Region.wanted wantE
  cases hg : o.guard with
  | none => rfl
  | some gw =>
    obtain ⟨g, want⟩ := gw
    unfold yielded
    simp only
    cases ht : dstOf ops g with
    | none =>
      unfold dstOf at ht
      rw [ht]
      rfl
    | some t =>
      have hl : t ∈ o.looksAt ops := by
        unfold dstOf at ht
        simp [Oper.looksAt, hg, ht]
      simp only
      rw [← eval_same ok hn hi hL hd hw hl (V := V) (a := a)]
      unfold dstOf at ht
      rw [ht]
      simp only [Option.bind_some, Act.eval, Array.getD_eq_getD_getElem?]
      cases hv : (putL ops L V a ops.size).tmps[t]? with
      | none => simp [undef]
      | some u => cases u <;> simp

theorem exec_same (ok : Ok ops n M D) {L : Nat → Bool} {V : Nat → Value} {a : Act} (hn : a.tmps.size = n) {i : Nat} {o : Oper} (hi : ops[i]? = some o) (hL : L i = false) (hd : ∀ j, maskB M i j = true → L j = true) (hw : ∀ j, j < ops.size → maskB M j i = true → L j = false) :
    execOp (putL ops L V a ops.size).eval o = execOp (extD a.eval V (D.getD i [])) o :=
  execOp_congr o (ok.sel i o · · hi) fun x hx => by
    cases x with
    | tmp t => exact eval_same ok hn hi hL hd hw (List.mem_append_left _ (List.mem_filterMap.2 ⟨.tmp t, by simpa using hx, rfl⟩))
    | _ => rw [extD_else (fun t h => by cases h)]; rfl

/-- How many have not come up. -/
def todo (ops : Array Oper) (listed : Array Bool) : Nat := (List.range ops.size).countP fun j => !listed.getD j false
theorem todo_step {listed : Array Bool} {i : Nat} (h : listed.getD i true = false) (hi : i < ops.size) : todo ops (listed.setIfInBounds i true) < todo ops listed := by
  have hlt : i < listed.size := by
    rcases Nat.lt_or_ge i listed.size with h' | h'
    · exact h'
    · simp [Array.getElem?_eq_none h'] at h
  unfold todo
  have key : ∀ l : List Nat, (∀ j ∈ l, True) → l.countP (fun j => !(listed.setIfInBounds i true).getD j false) ≤ l.countP (fun j => !listed.getD j false) ∧ (i ∈ l → l.countP (fun j => !(listed.setIfInBounds i true).getD j false) < l.countP (fun j => !listed.getD j false)) := by
    intro l _
    induction l with
    | nil => simp
    | cons j l ih =>
      obtain ⟨ih1, ih2⟩ := ih (fun _ _ => trivial)
      by_cases e : i = j
      · subst e
        have h1 : (listed.setIfInBounds i true).getD i false = true := by simp [hlt]
        have h2 : listed.getD i false = false := by simp [hlt] at h ⊢; exact h
        rw [List.countP_cons_of_neg (by simp [h1]), List.countP_cons_of_pos (by simp [h2])]
        exact ⟨by omega, fun _ => by omega⟩
      · rw [List.countP_cons, List.countP_cons, getD_set_ne false e]
        exact ⟨by omega, fun hm => by
          rcases List.mem_cons.1 hm with h' | h'
          · exact absurd h' e
          · have := ih2 h'; omega⟩
  exact (key _ (fun _ _ => trivial)).2 (List.mem_range.2 hi)
theorem todo_none {listed : Array Bool} (ok : Ok ops n M D) (hs : listed.size = ops.size) (h : Region.ready .any ops listed = []) : ∀ i, i < ops.size → listed.getD i false = true := by
  intro i
  induction i using Nat.strongRecOn with
  | _ i ih =>
    intro hi
    cases hl : listed.getD i false with
    | true => rfl
    | false =>
      have : i ∈ Region.ready .any ops listed := mem_ready.2 ⟨by
        simp only [Array.getD_eq_getD_getElem?, Array.getElem?_eq_getElem (hs ▸ hi), Option.getD_some] at hl ⊢
        exact hl, ops[i], Array.getElem?_eq_getElem hi, fun e he hb => ih e.on (ok.low i _ (Array.getElem?_eq_getElem hi) e he hb) (by
          have := ok.low i _ (Array.getElem?_eq_getElem hi) e he hb
          omega)⟩
      rw [h] at this
      cases this

theorem inv_any {a : Act} (ok : Ok ops n M D) (hn : a.tmps.size = n) (I : (Nat → Bool) → (Nat → Value) → World → Prop)
    (hcong : ∀ L L' V w, (∀ j, L j = L' j) → I L V w → I L' V w)
    (hstep : ∀ i o, ops[i]? = some o → ∀ L V w, L i = false → (∀ j, maskB M i j = true → L j = true) → (∀ j, maskB M j i = true → j < ops.size → L j = false) → I L V w →
      opW P ops (extD a.eval V (D.getD i [])) o w fun v w' => I (updB L i) (updV V i v) w')
    (hend : ∀ L V w, (∀ j, j < ops.size → L j = true) → I L V w → Q .normal (putL ops (fun _ => true) V a ops.size) w) :
    ∀ (fuel : Nat) (listed : Array Bool) (V : Nat → Value) (w : World), listed.size = ops.size → Closed .any ops listed → todo ops listed ≤ fuel → I (fun j => listed.getD j false) V w →
      wpAny P .any ops Q fuel listed (putL ops (fun j => listed.getD j false) V a ops.size) w := by
  intro fuel
  induction fuel with
  | zero =>
    intro listed V w hs hc ht hI
    have hall : ∀ i, i < ops.size → listed.getD i false = true := fun i hi => by
      cases hl : listed.getD i false with
      | true => rfl
      | false =>
        have := todo_step (ops := ops) (listed := listed) (i := i) (by
          simp only [Array.getD_eq_getD_getElem?, Array.getElem?_eq_getElem (hs ▸ hi), Option.getD_some] at hl ⊢
          exact hl) hi
        omega
    refine ⟨?_, ?_⟩
    · cases hr : Region.ready .any ops listed with
      | nil => rfl
      | cons i l =>
        have hi : i ∈ Region.ready .any ops listed := hr ▸ List.mem_cons_self
        obtain ⟨h1, o, ho, -⟩ := mem_ready.1 hi
        have h2 := hall i (Array.getElem?_eq_some_iff.1 ho).1
        have hlt : i < listed.size := hs ▸ (Array.getElem?_eq_some_iff.1 ho).1
        simp only [Array.getD_eq_getD_getElem?, Array.getElem?_eq_getElem hlt, Option.getD_some] at h1 h2
        rw [h1] at h2
        cases h2
    · rw [putL_congr (L' := fun _ => true) (V' := V) _ fun j hj => ⟨hall j hj, fun _ => rfl⟩]
      exact hend _ V w hall hI
  | succ fuel ih =>
    intro listed V w hs hc ht hI
    refine ⟨fun hr => ?_, fun i hi => ?_⟩
    · have hall := todo_none ok hs hr
      rw [putL_congr (L' := fun _ => true) (V' := V) _ fun j hj => ⟨hall j hj, fun _ => rfl⟩]
      exact hend _ V w hall hI
    · obtain ⟨h1, o, ho, hdeps⟩ := mem_ready.1 hi
      have hio : i < ops.size := (Array.getElem?_eq_some_iff.1 ho).1
      have hlt : i < listed.size := hs ▸ hio
      have hLi : listed.getD i false = false := by
        simp only [Array.getD_eq_getD_getElem?, Array.getElem?_eq_getElem hlt, Option.getD_some] at h1 ⊢
        exact h1
      have hd := anc_all ok hc i o ho hdeps
      have hw : ∀ j, maskB M j i = true → j < ops.size → listed.getD j false = false := fun j hm hj => by
        cases hl : listed.getD j false with
        | false => rfl
        | true =>
          obtain ⟨oj, hoj⟩ : ∃ oj, ops[j]? = some oj := ⟨ops[j], Array.getElem?_eq_getElem hj⟩
          have := anc_all ok hc j oj hoj (fun e he hb => hc j oj hoj hl e he hb) i hm
          rw [hLi] at this
          cases this
      have hst := hstep i o ho (fun j => listed.getD j false) V w hLi hd hw hI
      have hnext : ∀ v w', I (updB (fun j => listed.getD j false) i) (updV V i v) w' → wpAny P .any ops Q fuel (listed.setIfInBounds i true) ((putL ops (fun j => listed.getD j false) V a ops.size).put o.dst v) w' := fun v w' hI' => by
        have hLL : ∀ j, updB (fun j => listed.getD j false) i j = (listed.setIfInBounds i true).getD j false := fun j => by
          by_cases e : j = i
          · subst e; rw [updB_same]; simp [hlt]
          · rw [updB_ne e, getD_set_ne false (Ne.symm e)]
        have h2 := ih (listed.setIfInBounds i true) (updV V i v) w' (by simpa using hs) (closed_set hc hi) (by have := todo_step h1 hio; omega) (hcong _ _ _ _ hLL hI')
        rw [putL_congr (L' := updB (fun j => listed.getD j false) i) (V' := updV V i v) _ fun j _ => ⟨(hLL j).symm, fun _ => rfl⟩, putL_step hLi ok.uniq _ hio] at h2
        have : dstOf ops i = o.dst := by simp [dstOf, ho]
        rwa [this] at h2
      have hw' := want_same ok hn ho hLi hd (fun j h1 h2 => hw j h2 h1) (V := V)
      have he' := exec_same ok hn ho hLi hd (fun j h1 h2 => hw j h2 h1) (V := V)
      unfold wpOp
      rw [ho]
      simp only
      rw [hw']
      unfold opW at hst
      split
      · rename_i hwt
        rw [if_pos hwt] at hst
        left
        unfold Oper.wp
        rw [he']
        exact uponW_upon hnext hst
      · rename_i hwt
        rw [if_neg hwt] at hst
        exact hnext _ _ hst

theorem wp_region_inv {id : Nat} {a : Act} {w : World} (n : Nat) (M : List Nat) (D : List (List (Nat × Tmp))) (I : (Nat → Bool) → (Nat → Value) → World → Prop) (hm : P.follows .mixedOrders = true) (hok : okB ops n M D = true) (hn : a.tmps.size = n)
    (hcong : ∀ L L' V w, (∀ j, L j = L' j) → I L V w → I L' V w) (h0 : ∀ L V, (∀ j, L j = false) → I L V w.drew)
    (hstep : ∀ i o, ops[i]? = some o → ∀ L V w, L i = false → (∀ j, maskB M i j = true → L j = true) → (∀ j, maskB M j i = true → j < ops.size → L j = false) → I L V w →
      opW P ops (extD a.eval V (D.getD i [])) o w fun v w' => I (updB L i) (updV V i v) w')
    (hend : ∀ L V w, (∀ j, j < ops.size → L j = true) → I L V w → Q .normal (putL ops (fun _ => true) V a ops.size) w) : (Code.region id ops true).wp P Q a w := by
  refine wp_region_any hm ?_
  have h := inv_any (P := P) (Q := Q) (ok_of hok) hn I hcong hstep hend ops.size (Array.replicate ops.size false) (fun _ => undef) w.drew (by simp) (fun j o hj hl => by simp [Array.getElem?_replicate] at hl; split at hl <;> simp at hl) (by
    unfold todo
    exact Nat.le_trans List.countP_le_length (by simp)) (h0 _ _ fun j => by simp [Array.getElem?_replicate]; split <;> simp)
  have he : ∀ k, putL ops (fun j => (Array.replicate ops.size false).getD j false) (fun _ => undef) a k = a := fun k => by
    induction k with
    | zero => rfl
    | succ k ih =>
      unfold putL
      rw [if_neg (by simp [Array.getElem?_replicate]; split <;> simp)]
      exact ih
  rw [he] at h
  exact h
end
end Go.Proofs.Ytihohhjaomoemaa
