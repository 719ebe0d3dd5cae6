/- The orders, plain: what the comparisons obey. -/
import Derived.Test.YtfpkibfofainaaaCid
set_option linter.unusedVariables false
namespace Go.Proofs.Ytfpkibfofainaaa
open Go.RowKit

theorem bl_cons (a b : UInt8) (x y : List UInt8) : Op.bytesLess (a :: x) (b :: y) = (decide (a < b) || (a == b && Op.bytesLess x y)) := by rw [Op.bytesLess]
theorem bl_irrefl : ∀ a, Op.bytesLess a a = false
  | [] => rfl
  | x :: t => by rw [bl_cons, bl_irrefl t]; simp
theorem bl_total : ∀ a b, Op.bytesLess a b = false → a ≠ b → Op.bytesLess b a = true
  | [], [], _, h => absurd rfl h
  | [], _ :: _, h, _ => by simp [Op.bytesLess] at h
  | _ :: _, [], _, _ => rfl
  | x :: a, y :: b, h, hne => by
    rw [bl_cons] at h ⊢
    simp only [Bool.or_eq_false_iff, decide_eq_false_iff_not, Bool.and_eq_false_iff, beq_eq_false_iff_ne] at h
    obtain ⟨h1, h2⟩ := h
    by_cases hxy : x = y
    · subst hxy
      have := bl_total a b (by simpa using h2) (fun e => hne (by rw [e]))
      simp [this]
    · have : y < x := by
        rw [UInt8.lt_iff_toNat_lt] at h1 ⊢
        have : x.toNat ≠ y.toNat := fun e => hxy (UInt8.toNat_inj.1 e)
        omega
      simp [this]
theorem bl_asymm : ∀ a b, Op.bytesLess a b = true → Op.bytesLess b a = false
  | _, [], h => by simp [Op.bytesLess] at h
  | [], _ :: _, _ => rfl
  | x :: a, y :: b, h => by
    rw [bl_cons] at h ⊢
    simp only [Bool.or_eq_true, decide_eq_true_eq, Bool.and_eq_true, beq_iff_eq] at h
    rcases h with h | ⟨rfl, h⟩
    · rw [UInt8.lt_iff_toNat_lt] at h
      have h1 : ¬ y < x := by rw [UInt8.lt_iff_toNat_lt]; omega
      have h2 : y ≠ x := fun e => by subst e; omega
      simp [h1, h2]
    · have := bl_asymm a b h
      simp [this]
theorem bl_trans : ∀ a b c, Op.bytesLess a b = true → Op.bytesLess b c = true → Op.bytesLess a c = true
  | _, [], _, h, _ => by simp [Op.bytesLess] at h
  | _, _ :: _, [], _, h => by simp [Op.bytesLess] at h
  | [], _ :: _, _ :: _, _, _ => rfl
  | x :: a, y :: b, z :: c, h, k => by
    rw [bl_cons] at h k ⊢
    simp only [Bool.or_eq_true, decide_eq_true_eq, Bool.and_eq_true, beq_iff_eq] at h k ⊢
    rcases h with h | ⟨rfl, h⟩
    · rcases k with k | ⟨rfl, k⟩
      · left; rw [UInt8.lt_iff_toNat_lt] at *; omega
      · left; exact h
    · rcases k with k | ⟨rfl, k⟩
      · left; exact k
      · right; exact ⟨rfl, bl_trans a b c h k⟩

/-- What a comparison's results at (a, b), (b, c), (a, c) obey. -/
def T3 (x y z : Int) : Prop := (x = -1 ∨ x = 0 ∨ x = 1) ∧ (y = -1 ∨ y = 0 ∨ y = 1) ∧ (z = -1 ∨ z = 0 ∨ z = 1) ∧ (x ≤ 0 → y ≤ 0 → z ≤ 0) ∧ (x ≤ 0 → y ≤ 0 → z = 0 → x = 0 ∧ y = 0) ∧ (x = 0 → y = 0 → z = 0)
theorem T3_I (a b c : Int) : T3 (cmpI a b) (cmpI b c) (cmpI a c) := by
  unfold T3 cmpI
  refine ⟨?_, ?_, ?_, ?_, ?_, ?_⟩ <;> (repeat' split) <;> omega
theorem cmpI_neg (a b : Int) : cmpI b a = - cmpI a b := by unfold cmpI; (repeat' split) <;> omega
theorem cmpI_zero (a b : Int) : cmpI a b = 0 ↔ a = b := by unfold cmpI; (repeat' split) <;> omega
theorem cmpL_or (a b : List UInt8) : (Op.bytesLess a b = true ∧ cmpL a b = -1) ∨ (a = b ∧ cmpL a b = 0) ∨ (Op.bytesLess b a = true ∧ cmpL a b = 1) := by
  unfold cmpL
  cases h : Op.bytesLess a b with
  | true => left; exact ⟨rfl, if_pos rfl⟩
  | false =>
    right
    rw [if_neg (by decide)]
    by_cases e : a = b
    · left; exact ⟨e, if_pos e⟩
    · right; exact ⟨bl_total _ _ h e, if_neg e⟩
theorem cmpL_neg (a b : List UInt8) : cmpL b a = - cmpL a b := by
  rcases cmpL_or a b with ⟨h, e⟩ | ⟨rfl, e⟩ | ⟨h, e⟩
  · rw [e]
    rcases cmpL_or b a with ⟨h', e'⟩ | ⟨rfl, e'⟩ | ⟨h', e'⟩
    · rw [bl_asymm _ _ h] at h'; cases h'
    · rw [bl_irrefl] at h; cases h
    · rw [e']; rfl
  · rw [e]; rfl
  · rw [e]
    unfold cmpL
    rw [if_pos h]
theorem cmpL_zero (a b : List UInt8) : cmpL a b = 0 ↔ a = b := by
  constructor
  · intro h
    rcases cmpL_or a b with ⟨_, e⟩ | ⟨e, _⟩ | ⟨_, e⟩
    · rw [e] at h; cases h
    · exact e
    · rw [e] at h; cases h
  · rintro rfl; exact cmpL_same a
theorem T3_L (a b c : List UInt8) : T3 (cmpL a b) (cmpL b c) (cmpL a c) := by
  rcases cmpL_or a b with ⟨h1, e1⟩ | ⟨rfl, e1⟩ | ⟨h1, e1⟩
  · rcases cmpL_or b c with ⟨h2, e2⟩ | ⟨rfl, e2⟩ | ⟨h2, e2⟩
    · have : cmpL a c = -1 := if_pos (bl_trans _ _ _ h1 h2)
      rw [e1, e2, this]; unfold T3; omega
    · rw [e1, e2]; unfold T3; omega
    · rw [e1, e2]
      rcases cmpL_or a c with ⟨_, e3⟩ | ⟨_, e3⟩ | ⟨_, e3⟩ <;> (rw [e3]; unfold T3; omega)
  · rw [e1]
    rcases cmpL_or a c with ⟨_, e3⟩ | ⟨_, e3⟩ | ⟨_, e3⟩ <;> (rw [e3]; unfold T3; omega)
  · rw [e1]
    rcases cmpL_or b c with ⟨h2, e2⟩ | ⟨rfl, e2⟩ | ⟨h2, e2⟩
    · rw [e2]
      rcases cmpL_or a c with ⟨_, e3⟩ | ⟨_, e3⟩ | ⟨_, e3⟩ <;> (rw [e3]; unfold T3; omega)
    · rw [e1, e2]; unfold T3; omega
    · rw [e2]
      rcases cmpL_or a c with ⟨_, e3⟩ | ⟨_, e3⟩ | ⟨_, e3⟩ <;> (rw [e3]; unfold T3; omega)
theorem lexM (t : Int) : lexI (-1) t = -1 := rfl
theorem lex0 (t : Int) : lexI 0 t = t := rfl
theorem lex1 (t : Int) : lexI 1 t = 1 := rfl
theorem T3_lex {x1 y1 z1 x2 y2 z2 : Int} (h : T3 x1 y1 z1) (k : T3 x2 y2 z2) : T3 (lexI x1 x2) (lexI y1 y2) (lexI z1 z2) := by
  obtain ⟨hx, hy, hz, h1, h2, h3⟩ := h
  obtain ⟨k1, k2, k3, k4, k5, k6⟩ := k
  rcases hx with rfl | rfl | rfl <;> rcases hy with rfl | rfl | rfl <;> rcases hz with rfl | rfl | rfl <;> (simp only [lexM, lex0, lex1]) <;> first | (exfalso; omega) | (unfold T3; omega)
theorem lex_neg {x1 x2 : Int} : lexI (-x1) (-x2) = - lexI x1 x2 := by unfold lexI; (repeat' split) <;> omega
theorem lex_zero {x1 x2 : Int} : lexI x1 x2 = 0 ↔ x1 = 0 ∧ x2 = 0 := by unfold lexI; (repeat' split) <;> omega
theorem cmpID_neg (sa : ByteArray) (qa : Int) (sb : ByteArray) (qb : Int) : cmpID sb qb sa qa = - cmpID sa qa sb qb := by
  unfold cmpID cmpS
  rw [cmpL_neg, cmpI_neg, lex_neg]
theorem cmpID_zero (sa : ByteArray) (qa : Int) (sb : ByteArray) (qb : Int) : cmpID sa qa sb qb = 0 ↔ sa = sb ∧ qa = qb := by
  unfold cmpID cmpS
  rw [lex_zero, cmpL_zero, cmpI_zero, toList_inj]
theorem T3_ID (sa sb sc : ByteArray) (qa qb qc : Int) : T3 (cmpID sa qa sb qb) (cmpID sb qb sc qc) (cmpID sa qa sc qc) := T3_lex (T3_L _ _ _) (T3_I _ _ _)
end Go.Proofs.Ytfpkibfofainaaa
