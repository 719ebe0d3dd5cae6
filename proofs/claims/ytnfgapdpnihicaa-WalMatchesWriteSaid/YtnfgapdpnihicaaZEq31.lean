/- Two arrays of four bytes are compared. -/
import Derived.Test.YtnfgapdpnihicaaChecked
import Derived.Test.YtnfgapdpnihicaaZR4A
import Derived.ChangeKeysEq
set_option linter.unusedVariables false
set_option linter.unusedSimpArgs false
namespace Go.Proofs.Ytnfgapdpnihicaa
open Go Go.RowKit

theorem run_arr4 (w : World) (a b c d a' b' c' d' : Int) : (Op.equal 115 (.agg #[.int .u8 a, .int .u8 b, .int .u8 c, .int .u8 d]) (.agg #[.int .u8 a', .int .u8 b', .int .u8 c', .int .u8 d'])).run Try.prog w = .ok (a == a' && (b == b' && (c == c' && d == d'))) w := by
  show (Op.equalIn (9998 + 1 + 1) _ _ _).run Try.prog w = _
  obtain ⟨i, hi, -⟩ := Option.map_eq_some_iff.1 byte_info
  rw [run_equalIn_array w (9998 + 1) _ _ Try.underlying115 hi]
  have hc : Try.prog.cellsOf 5 = 1 := by kernel_rfl
  rw [hc]
  have hp : ∀ (xs : Array Value) (off : Nat) (z : Int), xs[off]? = some (.int .u8 z) → ∀ w', (part 5 xs off).run Try.prog w' = .ok (.int .u8 z) w' := by
    intro xs off z h w'
    exact run_part_plain w' (by kernel_rfl) h
  have he : ∀ (x y : Int) (w' : World), (Op.equalIn 9999 5 (.int .u8 x) (.int .u8 y)).run Try.prog w' = .ok (x == y) w' := by
    intro x y w'
    show (Op.equalIn (9998 + 1) _ _ _).run Try.prog w' = _
    unfold Op.equalIn
    simp only [Sem.run_bind, run_underlying Try.underlying5, Result.andThen_ok, if_true, Sem.run_pure]
  simp only [List.range, List.range.loop, Op.eqItems, Sem.run_bind]
  cases h0 : a == a' <;> cases h1 : b == b' <;> cases h2 : c == c' <;> cases h3 : d == d' <;> simp [Nat.mul_one, Nat.zero_mul, Result.andThen_ok, Bool.not_eq_true', hp #[.int .u8 a, .int .u8 b, .int .u8 c, .int .u8 d] 0 a rfl, hp #[.int .u8 a', .int .u8 b', .int .u8 c', .int .u8 d'] 0 a' rfl, hp #[.int .u8 a, .int .u8 b, .int .u8 c, .int .u8 d] 1 b rfl, hp #[.int .u8 a', .int .u8 b', .int .u8 c', .int .u8 d'] 1 b' rfl, hp #[.int .u8 a, .int .u8 b, .int .u8 c, .int .u8 d] 2 c rfl, hp #[.int .u8 a', .int .u8 b', .int .u8 c', .int .u8 d'] 2 c' rfl, hp #[.int .u8 a, .int .u8 b, .int .u8 c, .int .u8 d] 3 d rfl, hp #[.int .u8 a', .int .u8 b', .int .u8 c', .int .u8 d'] 3 d' rfl, he, h0, h1, h2, h3]
/-- Arrays of four bytes: they differ. -/
theorem wpList_neq4 {ops : Array Oper} {rest : List Oper} {o : Oper} {a : Act} {w : World} {Q : Exit → Act → World → Prop} (hgd : o.guard = none) (x y : Operand) {ty : TypeId} (ho : o.op = .binOp .neq 115 x y ty)
    {p q r s p' q' r' s' : Int} (hx : a.eval x = .agg #[.int .u8 p, .int .u8 q, .int .u8 r, .int .u8 s]) (hy : a.eval y = .agg #[.int .u8 p', .int .u8 q', .int .u8 r', .int .u8 s']) (b : Bool) (hb : (!(p == p' && (q == q' && (r == r' && s == s')))) = b)
    (h : wpList Try.prog ops Q rest (a.put o.dst (.bool b)) w) : wpList Try.prog ops Q (o :: rest) a w := by
  refine wpList_plain hgd fun K hK => ?_
  unfold Oper.wp execOp
  have hg : Try.prog.eqGuardType Try.prog.depth 115 = false := by kernel_rfl
  have hgd' : (eqGuard .neq 115 x y (.agg #[.int .u8 p, .int .u8 q, .int .u8 r, .int .u8 s]) (.agg #[.int .u8 p', .int .u8 q', .int .u8 r', .int .u8 s'])).run Try.prog w = .ok () w := by
    have hpr : ∀ w' : World, (program : Sem Program).run Try.prog w' = .ok Try.prog w' := fun _ => rfl
    simp [eqGuard, hpr, hg]
  simp only [ho, hx, hy, Sem.run_bind, hgd', Result.andThen_ok, binOp, run_arr4, Sem.run_pure]
  rw [hb]
  exact hK _ _ h
end Go.Proofs.Ytnfgapdpnihicaa
