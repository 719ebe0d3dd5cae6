/- The walks over values.Has, values.Append, facts.isKey. -/
import Derived.Test.YtfpkibfofainaaaZValC
import Derived.Test.YtfpkibfofainaaaZGC
import Derived.Test.YtfpkibfofainaaaZGB
import Derived.OwnWalk
set_option linter.unusedVariables false
namespace Go.Proofs.Ytfpkibfofainaaa
open Go.RowKit

theorem al_size (w : World) (o : Obj) : (w.alloc o).heap.size = w.heap.size + 1 := by simp
theorem cells3 {W : World} {g : Nat} {a b c : Value} {t : TypeId} (h : W.heap[g]? = some (.cells #[a, b, c] t (0, 0))) :
    W.cell? ⟨g, 0, none⟩ = some a ∧ W.cell? ⟨g, 1, none⟩ = some b ∧ W.cell? ⟨g, 2, none⟩ = some c := by
  refine ⟨?_, ?_, ?_⟩ <;> rw [cell_of_row _ _ _ _ _ _ h] <;> rfl

set_option maxHeartbeats 1000000 in
theorem valHas_any (w : World) (v : Vl) (k : Int) (u : Value) (o : ByteArray) : Calls Try.prog 24 #[v.val, .agg #[.int .i64 k, u, .string o]] w fun e w' => e = .returned (.bool (v.has k)) ∧ Below w.heap.size w w' := by
  have hc := fun w => valCheck_any w v
  obtain ⟨r, hr⟩ : ∃ r, v.check = r := ⟨_, rfl⟩
  obtain ⟨b, hb⟩ : ∃ b, v.has k = b := ⟨_, rfl⟩
  have HB := Lib.hid (And.intro hb hr)
  rw [hr] at hc
  rw [hb]
  clear hr hb
  obtain ⟨vk, n, s⟩ := v
  simp only [Vl.val] at *
  have h0 := ((St.start w).alloc (.cells #[.int .i64 vk, .int .i64 n, .string s] 57)).alloc (.cells #[.int .i64 k, u, .string o] 60)
  rw [al_size] at h0
  go_enter Try.func24, Try.ntmps24
  go_wp2_with fail
  refine (Calls.sV h0 (hc _)).mono ?_
  rintro e w1 ⟨rfl, h1⟩
  clear h0
  obtain ⟨c0, -, -⟩ := cells3 (h1.at_ 1 rfl)
  obtain ⟨d0, -, -⟩ := cells3 (h1.at_ 0 rfl)
  have hb' := HB.out.1
  rw [Vl.has, HB.out.2] at hb'
  simp only at hb'
  have hB := Lib.hid hb'
  clear hb'
  by_cases hr0 : r = 0
  · subst hr0
    by_cases hk0 : vk = 0
    · subst hk0
      go_wp2_with fail
      go_ret
      exact ⟨by rw [← hB.out]; rfl, h1.below⟩
    · have n1 := beq_of hk0
      go_wp2_with fail
      go_ret
      exact ⟨by rw [← hB.out]; simp [hk0]; rfl, h1.below⟩
  · have n1 := beq_of hr0
    go_wp2_with fail
    go_ret
    exact ⟨by rw [← hB.out]; simp [hr0], h1.below⟩

theorem isKey_any (w : World) (s : ByteArray) : Calls Try.prog 68 #[.string s] w fun e w' => e = .returned (.bool (decide ((⟨5, 0, s⟩ : Vl).check = 0))) ∧ Below w.heap.size w w' := by
  have hc := fun w => valCheck_any w ⟨5, 0, s⟩
  obtain ⟨r, hr⟩ : ∃ r, (⟨5, 0, s⟩ : Vl).check = r := ⟨_, rfl⟩
  rw [hr] at hc
  rw [hr]
  clear hr
  simp only [Vl.val] at hc
  go_enter Try.func68, Try.ntmps68
  go_wp2_with fail
  refine (hc _).mono ?_
  rintro e w1 ⟨rfl, h1⟩
  by_cases hr0 : r = 0
  · subst hr0
    go_wp2_with fail
    go_ret
    exact ⟨rfl, h1⟩
  · have n1 := beq_of hr0
    go_wp2_with fail
    go_ret
    exact ⟨by simp [hr0], h1⟩
end Go.Proofs.Ytfpkibfofainaaa
