/- The walk over facts.Same. -/
import Derived.Test.YtfpkibfofainaaaZFcs
set_option linter.unusedVariables false
namespace Go.Proofs.Ytfpkibfofainaaa
open Go.RowKit

theorem fc_eq (a b : Fc) : a = b ↔ (a.src = b.src ∧ a.seq = b.seq ∧ a.kind = b.kind ∧ a.ref = b.ref ∧ a.table = b.table ∧ a.key = b.key ∧ a.event = b.event ∧ a.fields = b.fields) := by
  cases a; cases b; simp
instance : DecidableEq Fc := fun a b => decidable_of_iff _ (fc_eq a b).symm
theorem seq_of {a b : ByteArray} (h : ¬ a = b) : (a.toList == b.toList) = false := by
  have : ¬ a.toList = b.toList := fun e => h (toList_inj.1 e)
  simpa using this

set_option maxRecDepth 8000 in
set_option maxHeartbeats 4000000 in
theorem same_any (w : World) (a b : Fc) (ab bb : Option Addr) (aq bq : Nat) (ha : IsVals w (.slice ab a.fields.length aq) a.fields) (hb : IsVals w (.slice bb b.fields.length bq) b.fields) :
    Calls Try.prog 17 #[a.val (.slice ab a.fields.length aq), b.val (.slice bb b.fields.length bq)] w fun e w' => e = .returned (.bool (decide (a = b))) ∧ Below w.heap.size w w' := by
  obtain ⟨r, hr⟩ : ∃ r, decide (a = b) = r := ⟨_, rfl⟩
  have HR := Lib.hid hr
  rw [hr]
  clear hr
  have heq := fun w ha hb => equal_any w ab bb aq bq a.fields b.fields ha hb
  obtain ⟨n, hn⟩ : ∃ n, a.fields.length = n := ⟨_, rfl⟩
  obtain ⟨m, hm⟩ : ∃ n, b.fields.length = n := ⟨_, rfl⟩
  rw [hn] at ha heq ⊢
  rw [hm] at hb heq ⊢
  have h0 := ((St.start w).putOld (P := (IsVals · (.slice bb m bq) b.fields)) (Mono.seq rdVal_up _ _) hb).putOld (P := (IsVals · (.slice ab n aq) a.fields)) (Mono.seq rdVal_up _ _) ha
  clear hn hm ha hb
  obtain ⟨a1, a2, a3, a4, a5, a6, a7, a8⟩ := a
  obtain ⟨b1, b2, b3, b4, b5, b6, b7, b8⟩ := b
  simp only [Fc.val, Fc.cellsA] at *
  have h1 := (h0.box (.cells #[.string a1, .int .i64 a2, .int .i64 a3, .int .i64 a4, .string a5, .string a6, .int .i64 a7, .slice ab n aq] 27)).box (.cells #[.string b1, .int .i64 b2, .int .i64 b3, .int .i64 b4, .string b5, .string b6, .int .i64 b7, .slice bb m bq] 27)
  clear h0
  go_enter Try.func17, Try.ntmps17
  by_cases e1 : a1 = b1
  case neg =>
    have hr : r = false := by rw [← HR.out, decide_eq_false]; intro h; exact e1 ((fc_eq _ _).1 h).1
    have HR2 := Lib.hid hr
    have x1 := seq_of e1
    have x2 : ¬ a1.toList = b1.toList := fun e => e1 (toList_inj.1 e)
    clear hr
    go_wp2_with fail
    all_goals
      go_ret
      exact ⟨by rw [HR2.out]; rfl, h1.below⟩
  subst e1
  by_cases e2 : a2 = b2
  case neg =>
    have hr : r = false := by rw [← HR.out, decide_eq_false]; intro h; exact e2 ((fc_eq _ _).1 h).2.1
    have HR2 := Lib.hid hr
    have x1 := beq_of e2
    clear hr
    go_wp2_with fail
    all_goals
      go_ret
      exact ⟨by rw [HR2.out]; rfl, h1.below⟩
  subst e2
  by_cases e3 : a3 = b3
  case neg =>
    have hr : r = false := by rw [← HR.out, decide_eq_false]; intro h; exact e3 ((fc_eq _ _).1 h).2.2.1
    have HR2 := Lib.hid hr
    have x1 := beq_of e3
    clear hr
    go_wp2_with fail
    all_goals
      go_ret
      exact ⟨by rw [HR2.out]; rfl, h1.below⟩
  subst e3
  by_cases e4 : a4 = b4
  case neg =>
    have hr : r = false := by rw [← HR.out, decide_eq_false]; intro h; exact e4 ((fc_eq _ _).1 h).2.2.2.1
    have HR2 := Lib.hid hr
    have x1 := beq_of e4
    clear hr
    go_wp2_with fail
    all_goals
      go_ret
      exact ⟨by rw [HR2.out]; rfl, h1.below⟩
  subst e4
  by_cases e5 : a5 = b5
  case neg =>
    have hr : r = false := by rw [← HR.out, decide_eq_false]; intro h; exact e5 ((fc_eq _ _).1 h).2.2.2.2.1
    have HR2 := Lib.hid hr
    have x1 := seq_of e5
    have x2 : ¬ a5.toList = b5.toList := fun e => e5 (toList_inj.1 e)
    clear hr
    go_wp2_with fail
    all_goals
      go_ret
      exact ⟨by rw [HR2.out]; rfl, h1.below⟩
  subst e5
  by_cases e6 : a6 = b6
  case neg =>
    have hr : r = false := by rw [← HR.out, decide_eq_false]; intro h; exact e6 ((fc_eq _ _).1 h).2.2.2.2.2.1
    have HR2 := Lib.hid hr
    have x1 := seq_of e6
    have x2 : ¬ a6.toList = b6.toList := fun e => e6 (toList_inj.1 e)
    clear hr
    go_wp2_with fail
    all_goals
      go_ret
      exact ⟨by rw [HR2.out]; rfl, h1.below⟩
  subst e6
  by_cases e7 : a7 = b7
  case neg =>
    have hr : r = false := by rw [← HR.out, decide_eq_false]; intro h; exact e7 ((fc_eq _ _).1 h).2.2.2.2.2.2.1
    have HR2 := Lib.hid hr
    have x1 := beq_of e7
    clear hr
    go_wp2_with fail
    all_goals
      go_ret
      exact ⟨by rw [HR2.out]; rfl, h1.below⟩
  subst e7
  go_wp2_with fail
  refine (Calls.sV h1 (heq _ (h1.is 0 rfl) (h1.is 1 rfl))).mono ?_
  rintro e w2 ⟨rfl, h2⟩
  have hr : r = decide (a8 = b8) := by rw [← HR.out]; simp only [fc_eq, true_and]
  rw [← hr]
  clear hr heq
  cases r with
  | false =>
    go_wp2_with fail
    go_ret
    exact ⟨rfl, h2.below⟩
  | true =>
    go_wp2_with fail
    go_ret
    exact ⟨rfl, h2.below⟩
end Go.Proofs.Ytfpkibfofainaaa
