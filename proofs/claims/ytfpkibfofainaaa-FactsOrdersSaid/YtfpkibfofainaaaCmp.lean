/- The walks over cmp.Compare and cmp.Or. -/
import Derived.Test.YtfpkibfofainaaaFcs
set_option linter.unusedVariables false
namespace Go.Proofs.Ytfpkibfofainaaa
open Go.RowKit

def cmpI (a b : Int) : Int := if a < b then -1 else if b < a then 1 else 0

theorem nanI_any (w : World) (a : Int) : Calls Try.prog 73 #[.int .i64 a] w fun e w' => e = .returned (.bool false) ∧ w' = w := by
  go_enter Try.func73, Try.ntmps73
  go_wp2_with fail
  go_ret
  exact ⟨by simp, rfl⟩
theorem nanS_any (w : World) (a : ByteArray) : Calls Try.prog 72 #[.string a] w fun e w' => e = .returned (.bool false) ∧ w' = w := by
  go_enter Try.func72, Try.ntmps72
  go_wp2_with fail
  go_ret
  exact ⟨by simp, rfl⟩
set_option maxRecDepth 8000 in
theorem compareI_any (w : World) (a b : Int) : Calls Try.prog 58 #[.int .i64 a, .int .i64 b] w fun e w' => e = .returned (.int .i64 (cmpI a b)) ∧ w' = w := by
  obtain ⟨r, hr⟩ : ∃ r, cmpI a b = r := ⟨_, rfl⟩
  have HR := Lib.hid hr
  rw [hr]
  clear hr
  go_enter Try.func58, Try.ntmps58
  go_wp2_with fail
  refine (nanI_any _ _).mono ?_
  rintro e w1 ⟨rfl, rfl⟩
  go_wp2_with fail
  refine (nanI_any _ _).mono ?_
  rintro e w2 ⟨rfl, rfl⟩
  by_cases h1 : a < b
  · go_wp2_with fail
    go_ret
    exact ⟨by rw [← HR.out]; simp [cmpI, h1], rfl⟩
  · by_cases h2 : b < a
    · go_wp2_with fail
      go_ret
      exact ⟨by rw [← HR.out]; simp [cmpI, h1, h2], rfl⟩
    · have hr : r = 0 := by rw [← HR.out]; unfold cmpI; rw [if_neg h1, if_neg h2]
      subst hr
      go_wp2_with fail
      go_ret
      exact ⟨rfl, rfl⟩

def cmpL (a b : List UInt8) : Int := if Op.bytesLess a b = true then -1 else if a = b then 0 else 1
def cmpS (a b : ByteArray) : Int := cmpL a.toList b.toList
set_option maxRecDepth 8000 in
theorem compareS_any (w : World) (a b : ByteArray) : Calls Try.prog 57 #[.string a, .string b] w fun e w' => e = .returned (.int .i64 (cmpS a b)) ∧ w' = w := by
  obtain ⟨r, hr⟩ : ∃ r, cmpS a b = r := ⟨_, rfl⟩
  have HR := Lib.hid hr
  rw [hr]
  clear hr
  go_enter Try.func57, Try.ntmps57
  go_wp2_with fail
  refine (nanS_any _ _).mono ?_
  rintro e w1 ⟨rfl, rfl⟩
  go_wp2_with fail
  refine (nanS_any _ _).mono ?_
  rintro e w2 ⟨rfl, rfl⟩
  cases h1 : Op.bytesLess a.toList b.toList with
  | true =>
    have hr : r = -1 := by rw [← HR.out]; unfold cmpS cmpL; rw [if_pos h1]
    have HR2 := Lib.hid hr
    clear hr
    go_wp2_with fail
    go_ret
    exact ⟨by rw [HR2.out]; rfl, rfl⟩
  | false =>
    by_cases h2 : a = b
    · subst h2
      have hr : r = 0 := by rw [← HR.out]; unfold cmpS cmpL; rw [h1, if_neg (by decide), if_pos rfl]
      have HR2 := Lib.hid hr
      clear hr
      go_wp2_with fail
      go_ret
      exact ⟨by rw [HR2.out]; rfl, rfl⟩
    · have h3 : (a.toList == b.toList) = false := by simp [toList_inj, h2]
      have hr : r = 1 := by rw [← HR.out]; unfold cmpS cmpL; rw [h1, if_neg (by decide), if_neg (by rw [toList_inj]; exact h2)]
      have HR2 := Lib.hid hr
      clear hr h2
      go_wp2_with fail
      go_ret
      exact ⟨by rw [HR2.out]; rfl, rfl⟩

def lexI (x y : Int) : Int := if x = 0 then y else x
set_option maxRecDepth 8000 in
theorem or_any (w : World) (g : Nat) (x y : Int) (hx : w.cell? ⟨g, 0, none⟩ = some (.int .i64 x)) (hy : w.cell? ⟨g, 1, none⟩ = some (.int .i64 y)) :
    Calls Try.prog 56 #[.slice (some ⟨g, 0, none⟩) 2 2] w fun e w' => e = .returned (.int .i64 (lexI x y)) ∧ w' = w := by
  obtain ⟨r, hr⟩ : ∃ r, lexI x y = r := ⟨_, rfl⟩
  have HR := Lib.hid hr
  rw [hr]
  clear hr
  go_enter Try.func56, Try.ntmps56
  go_wp2_with fail
  go_loopw [8] (fun c wr => ∃ k : Nat, k ≤ 2 ∧ c = .int .i64 k ∧ (0 < k → x = 0) ∧ (1 < k → y = 0) ∧ wr = w) (fun c _ => 2 - (intOf c).toNat)
  case atStart => exact ⟨0, by omega, rfl, by omega, by omega, rfl⟩
  case round =>
    obtain ⟨k, hk, rfl, hx0, hy0, rfl⟩ := hrel
    have hkk : k = 0 ∨ k = 1 ∨ k = 2 := by omega
    rcases hkk with rfl | rfl | rfl
    · by_cases h0 : x = 0
      · subst h0
        go_wp2_with fail
        go_roundw
        case rel => refine ⟨1, by omega, by go_num, ?_⟩; simp
        case measure => simp [intOf]
      · have h1 := bne_of h0
        go_wp2_with fail
        go_ret
        exact ⟨by rw [← HR.out, lexI, if_neg h0]; rfl, rfl⟩
    · have hx : x = 0 := hx0 (by omega)
      clear hx0 hy0
      by_cases h0 : y = 0
      · subst h0
        have hxx := Lib.hid hx
        clear hx
        go_wp2_with fail
        go_roundw
        case rel => refine ⟨2, by omega, by go_num, ?_⟩; simp [hxx.out]
        case measure => simp [intOf]
      · have h1 := bne_of h0
        have hxx := Lib.hid hx
        clear hx
        go_wp2_with fail
        go_ret
        exact ⟨by rw [← HR.out, lexI, if_pos hxx.out]; rfl, rfl⟩
    · have hx : x = 0 := hx0 (by omega)
      have hy : y = 0 := hy0 (by omega)
      have hr : r = 0 := by rw [← HR.out, hx, hy]; rfl
      have HR2 := Lib.hid hr
      clear hx hy hr hx0 hy0
      go_wp2_with fail
      go_ret
      exact ⟨by rw [HR2.out]; rfl, rfl⟩
end Go.Proofs.Ytfpkibfofainaaa
