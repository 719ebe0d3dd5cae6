/- A region in the written order, walked by the same obligations as one that draws: each operation once, its guard a word that need not be known. Over whatever program. -/
import Derived.Test.YtihohhjaomoemaaRegS
import Derived.Test.YtihohhjaomoemaaRegO
set_option linter.unusedVariables false
namespace Go.Proofs.Ytihohhjaomoemaa
open Go

section
variable {P : Program} {ops : Array Oper} {Q : Exit → Act → World → Prop} {n : Nat} {M : List Nat} {D : List (List (Nat × Tmp))}
theorem mask_lt {i j : Nat} (ok : okB ops n M D = true) (hi : i < ops.size) (h : maskB M i j = true) : j < i := by
  unfold okB at ok
  simp only [Bool.and_eq_true, List.all_eq_true, List.mem_range] at ok
  have := (ok.2 i hi).1
  simp only [edgesB, Array.getElem?_eq_getElem hi, Bool.and_eq_true] at this
  rcases Nat.lt_or_ge j i with h' | h'
  · exact h'
  · have h6 : M.getD i 0 < 2 ^ i := Nat.blt_eq ▸ this.2
    have h7 := Nat.testBit_lt_two_pow (Nat.lt_of_lt_of_le h6 (Nat.pow_le_pow_right (by omega) h'))
    unfold maskB at h
    rw [h7] at h
    cases h
theorem inv_list {a : Act} (hok : okB ops n M D = true) (hn : a.tmps.size = n) (I : (Nat → Bool) → (Nat → Value) → World → Prop)
    (hcong : ∀ L L' V w, (∀ j, L j = L' j) → I L V w → I L' V w)
    (hstep : ∀ i o, ops[i]? = some o → ∀ L V w, L i = false → (∀ j, maskB M i j = true → L j = true) → (∀ j, maskB M j i = true → j < ops.size → L j = false) → I L V w →
      opW P ops (extD a.eval V (D.getD i [])) o w fun v w' => I (updB L i) (updV V i v) w')
    (hend : ∀ L V w, (∀ j, j < ops.size → L j = true) → I L V w → Q .normal (putL ops (fun _ => true) V a ops.size) w) :
    ∀ (m k : Nat), k + m = ops.size → ∀ (V : Nat → Value) (w : World), I (fun j => decide (j < k)) V w → wpOps P ops Q (List.range' k m) (putL ops (fun j => decide (j < k)) V a ops.size) w := by
  have ok := ok_of hok
  intro m
  induction m with
  | zero =>
    intro k hk V w hI
    have hall : ∀ j, j < ops.size → decide (j < k) = true := fun j hj => by simp; omega
    rw [List.range'_zero]
    simp only [wpOps]
    rw [putL_congr (L' := fun _ => true) (V' := V) _ fun j hj => ⟨hall j hj, fun _ => rfl⟩]
    exact hend _ V w hall hI
  | succ m ih =>
    intro k hk V w hI
    have hio : k < ops.size := by omega
    obtain ⟨o, ho⟩ : ∃ o, ops[k]? = some o := ⟨ops[k], Array.getElem?_eq_getElem hio⟩
    have hLi : (fun j => decide (j < k)) k = false := by simp
    have hd : ∀ j, maskB M k j = true → (fun j => decide (j < k)) j = true := fun j hj => by
      have := mask_lt hok hio hj
      simpa using this
    have hw : ∀ j, maskB M j k = true → j < ops.size → (fun j => decide (j < k)) j = false := fun j hm hj => by
      have := mask_lt hok hj hm
      simp; omega
    have hst := hstep k o ho (fun j => decide (j < k)) V w hLi hd hw hI
    have hnext : ∀ v w', I (updB (fun j => decide (j < k)) k) (updV V k v) w' → wpOps P ops Q (List.range' (k + 1) m) ((putL ops (fun j => decide (j < k)) V a ops.size).put o.dst v) w' := fun v w' hI' => by
      have hLL : ∀ j, updB (fun j => decide (j < k)) k j = (fun j => decide (j < k + 1)) j := fun j => by
        by_cases e : j = k
        · subst e; rw [updB_same]; simp
        · rw [updB_ne e]; simp; omega
      have h2 := ih (k + 1) (by omega) (updV V k v) w' (hcong _ _ _ _ hLL hI')
      rw [putL_congr (L' := updB (fun j => decide (j < k)) k) (V' := updV V k v) _ fun j _ => ⟨(hLL j).symm, fun _ => rfl⟩, putL_step hLi ok.uniq _ hio] at h2
      have : dstOf ops k = o.dst := by simp [dstOf, ho]
      rwa [this] at h2
    have hw' := want_same ok hn ho hLi hd (fun j h1 h2 => hw j h2 h1) (V := V)
    have he' := exec_same ok hn ho hLi hd (fun j h1 h2 => hw j h2 h1) (V := V)
    rw [List.range'_succ, wpOps_cons]
    unfold wpOp
    rw [ho]
    simp only
    rw [hw']
    unfold opW at hst
    split
    · rename_i hwt
      rw [if_pos hwt] at hst
      left
      unfold Oper.wp
      rw [he']
      exact uponW_upon hnext hst
    · rename_i hwt
      rw [if_neg hwt] at hst
      exact hnext _ _ hst

theorem wp_region_inv0 {id : Nat} {a : Act} {w : World} (n : Nat) (M : List Nat) (D : List (List (Nat × Tmp))) (I : (Nat → Bool) → (Nat → Value) → World → Prop) (hok : okB ops n M D = true) (hn : a.tmps.size = n)
    (hcong : ∀ L L' V w, (∀ j, L j = L' j) → I L V w → I L' V w) (h0 : ∀ L V, (∀ j, L j = false) → I L V w)
    (hstep : ∀ i o, ops[i]? = some o → ∀ L V w, L i = false → (∀ j, maskB M i j = true → L j = true) → (∀ j, maskB M j i = true → j < ops.size → L j = false) → I L V w →
      opW P ops (extD a.eval V (D.getD i [])) o w fun v w' => I (updB L i) (updV V i v) w')
    (hend : ∀ L V w, (∀ j, j < ops.size → L j = true) → I L V w → Q .normal (putL ops (fun _ => true) V a ops.size) w) : (Code.region id ops false).wp P Q a w := by
  refine wp_region ?_
  have h := inv_list (P := P) (Q := Q) hok hn I hcong hstep hend ops.size 0 (by omega) (fun _ => undef) w (h0 _ _ fun j => by simp)
  have he : ∀ k, putL ops (fun j => decide (j < 0)) (fun _ => undef) a k = a := fun k => by
    induction k with
    | zero => rfl
    | succ k ih =>
      unfold putL
      rw [if_neg (by simp)]
      exact ih
  rw [he, ← List.range_eq_range'] at h
  exact h

theorem wp_region_st0 {id : Nat} {a : Act} {w0 w : World} {fs : List (World → Prop)} {os0 : List (Nat × Obj)} (Φ : List Pd) (os : Osf) (n : Nat) (M : List Nat) (D : List (List (Nat × Tmp))) (E : List (Nat × Tmp)) (hok : okB ops n M D = true) (hE : slotsOf ops ops.size = E) (hn : a.tmps.size = n)
    (h : St w0 w os0 fs) (hos0 : ∀ L V, (∀ j, L j = false) → os L V = os0) (hos1 : ∀ L V, (∀ j, j < ops.size → L j = true) → os L V = os (fun _ => true) V)
    (hob : Obligs P ops M D Φ w0 os fs a ops.toList 0)
    (hend : ∀ V W, St w0 W (os (fun _ => true) V) fs → EndAll Φ V (sm (os (fun _ => true) V) W) E a fun b => Q .normal b W) : (Code.region id ops false).wp P Q a w := by
  have ok := ok_of hok
  refine wp_region_inv0 n M D (fun L V W => St w0 W (os L V) (FL Φ ops.size L V ++ fs)) hok hn (fun L L' V w hL hI => ?_) (fun L V hL => ?_) (fun i o hi L V W hLi hd hw hI => ?_) (fun L V W hL hI => ?_)
  · have : L = L' := funext hL
    subst this
    exact hI
  · rw [hos0 L V hL]
    have : FL Φ ops.size L V = [] := by
      unfold FL
      rw [List.map_eq_nil_iff, List.filter_eq_nil_iff]
      intro j _
      rw [hL j]
      exact Bool.false_ne_true
    rw [this]
    exact h
  · have hO := obligs_get ops.toList 0 hob i o (by simpa using hi)
    rw [Nat.zero_add] at hO
    have hO' := hO (fun _ _ _ _ => rfl) (fun _ _ _ _ => rfl) (fun _ _ _ _ => rfl) (fun _ _ _ _ => rfl) L V W hLi hd hw hI
    have h2 := depAll_of (D.getD i []) (fun p hp => hI.fact _ (List.mem_append_left _ (fl_mem (dst_lt (ok.deps i o p hi hp).2) (hd _ (ok.deps i o p hi hp).1)))) hO'
    refine opW_mono h2 fun v W' hs => hs.facts fun X hX => ?_
    rcases List.mem_append.1 hX with hX | hX
    · rcases fl_step hX with rfl | hX
      · exact List.mem_cons_self
      · exact List.mem_cons_of_mem _ (List.mem_append_left _ hX)
    · exact List.mem_cons_of_mem _ (List.mem_append_right _ hX)
  · rw [putL_end]
    rw [hos1 L V hL] at hI
    have hall : ∀ p ∈ slotsOf ops ops.size, (Φ.getD p.1 pAny).p (V p.1) (sm (os (fun _ => true) V) W) := fun p hp => hI.fact _ (List.mem_append_left _ (fl_mem (slots_lt _ p hp) (hL _ (slots_lt _ p hp))))
    rw [hE] at hall ⊢
    exact endAll_of E hall (hend V W (hI.facts fun X hX => List.mem_append_right _ hX))

/-- What holds where a word is true. -/
def pIf (g : Bool) (p : Pd) : Pd := ⟨fun v w => g = true → p.p v w, fun v _ _ h k hg => p.mono v _ _ h (k hg)⟩
theorem ob_if {ρ : Operand → Value} {o : Oper} {W w0 : World} {OS : List (Nat × Obj)} {F : List (World → Prop)} {OSv : Value → List (Nat × Obj)} {g : Bool} {p : Pd} (hoff : g = false → wantE ops o ρ = false) (h : St w0 W OS F) (hos : OSv undef = OS)
    (hon : g = true → opW P ops ρ o W fun v W' => St w0 W' (OSv v) (p.p v :: F)) : opW P ops ρ o W fun v W' => St w0 W' (OSv v) ((pIf g p).p v :: F) := by
  cases g with
  | false => exact ob_off (hoff rfl) (hos ▸ h.put ((pIf false p).mono undef) (fun h => by cases h))
  | true => exact opW_mono (hon rfl) fun v W' hs => St.head (pIf true p) v hs fun hp _ => hp
end
end Go.Proofs.Ytihohhjaomoemaa
