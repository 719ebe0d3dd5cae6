/- The specification of package wire: reading strings and frames. -/
import Derived.Test.YtblfpkhgnfjbbaaR4R
import Derived.Test.YtblfpkhgnfjbbaaRegC
set_option linter.unusedVariables false
namespace Go.Proofs.Ytblfpkhgnfjbbaa
open Go.RowKit

set_option maxRecDepth 8000 in
set_option maxHeartbeats 1000000 in
theorem refReadText_any (w : World) (v : Value) (l : List UInt8) (i : Int) (hv : IsBytes w v l) (hi : i ≤ 9223372036854775807) (hll : l.length ≤ 140737488355328) :
    Calls Try.prog 31 #[v, .int .i64 i] w fun e w' => e = .returned (.tuple #[.string ⟨(Wire.readT l i).1.toArray⟩, .int .i64 (Wire.readT l i).2.1, .int .i64 (Wire.readT l i).2.2]) ∧ w' = w := by
  obtain ⟨bs, q, rfl, hlen, hcap, -, -⟩ := hv.out
  unfold maxLen at hcap
  go_enter Try.func31, Try.ntmps31
  go_wp2_with fail
  refine (refReadUint_any w _ l i hv hi hll).mono ?_
  rintro e w1 ⟨rfl, rfl⟩
  rcases readU_cases l i with ⟨c, hc, h⟩ | ⟨j, m, n, rfl, hjm, hml, h, hn, hpart⟩
  · have h2 := readT_err h hc
    have H2 := Lib.hid h2
    rw [h]
    clear h h2
    go_wp2_with fail
    go_ret3
    exact ⟨by rw [H2.out]; rfl, rfl⟩
  · have h2 := readT_ok h hjm hml
    rw [h]
    by_cases hs : l.length - m < n
    · rw [if_pos hs] at h2
      have H2 := Lib.hid h2
      have hsi : (l.length : Int) - (m : Int) < (n : Int) := by omega
      have hs0 : (0 : Int) ≤ (l.length : Int) - (m : Int) := by omega
      clear h h2 hpart
      go_wp2_with fail
      go_ret3
      exact ⟨by rw [H2.out]; rfl, rfl⟩
    · rw [if_neg hs] at h2
      have hp := hv.part m (m + n) q (by omega) (by omega) (by omega) (Nat.le_refl _)
      have hcut : (l.take (m + n)).drop m = (l.drop m).take n := by rw [List.drop_take, Nat.add_sub_cancel_left]
      rw [hcut] at hp
      obtain ⟨P, hP⟩ : ∃ P, m + n = P := ⟨_, rfl⟩
      rw [hP] at hp h2
      have cs := str_of hp
      have CS := Lib.hid cs
      have H2 := Lib.hid h2
      have hsi : ¬ (l.length : Int) - (m : Int) < (n : Int) := by omega
      have hs0 : (0 : Int) ≤ (l.length : Int) - (m : Int) := by omega
      have e1 : (m : Int) + (n : Int) = (P : Int) := by omega
      have x1 : (m : Int) ≤ (P : Int) := by omega
      have x2 : (P : Int) ≤ (q : Int) := by omega
      have x3 : (n : Int) ≤ 140737488355328 := by omega
      have HPP := Lib.hid hP
      clear h h2 hpart hp hcut cs hP hs
      go_wp2_with (rw [CS.out])
      all_goals
        go_ret3
        exact ⟨by rw [H2.out]; rfl, rfl⟩

set_option maxRecDepth 8000 in
set_option maxHeartbeats 4000000 in
theorem refReadFrame_any (w : World) (v : Value) (l : List UInt8) (i : Int) (hv : IsBytes w v l) (hi : i ≤ 9223372036854775807) (hll : l.length ≤ 140737488355328) :
    Calls Try.prog 32 #[v, .int .i64 i] w fun e w' => ∃ pv, e = .returned (.tuple #[pv, .int .i64 (Wire.readF l i).2.1, .int .i64 (Wire.readF l i).2.2]) ∧ IsBytes w' pv (Wire.readF l i).1 ∧ Below w.heap.size w w' := by
  obtain ⟨bs, q, rfl, hlen, hcap, -, -⟩ := hv.out
  unfold maxLen at hcap
  go_enter Try.func32, Try.ntmps32
  go_wp2_with fail
  refine (refReadUint_any w _ l i hv hi hll).mono ?_
  rintro e w1 ⟨rfl, rfl⟩
  rcases readU_cases l i with ⟨c, hc, h⟩ | ⟨j, m, n, rfl, hjm, hml, h, hn, hpart⟩
  · have h2 := readF_err h hc
    have H2 := Lib.hid h2
    rw [h]
    clear h h2
    go_wp2_with fail
    go_ret3
    exact ⟨_, by rw [H2.out]; rfl, by rw [H2.out]; exact IsBytes.none _, Below.refl _ _⟩
  have h2 := readF_ok h hjm hml
  rw [h]
  clear h hpart
  by_cases hbig : 8192 < n
  · rw [if_pos hbig] at h2
    have H2 := Lib.hid h2
    have hbigi : (8192 : Int) < (n : Int) := by omega
    clear h2
    go_wp2_with fail
    go_ret3
    exact ⟨_, by rw [H2.out]; rfl, by rw [H2.out]; exact IsBytes.none _, Below.refl _ _⟩
  rw [if_neg hbig] at h2
  have hbigi : ¬ (8192 : Int) < (n : Int) := by omega
  obtain ⟨P, hP⟩ : ∃ P, m + n = P := ⟨_, rfl⟩
  obtain ⟨Q, hQ⟩ : ∃ Q, P + 4 = Q := ⟨_, rfl⟩
  have e1 : (m : Int) + (n : Int) = (P : Int) := by omega
  have e2 : (P : Int) + 4 = (Q : Int) := by omega
  have x3 : (n : Int) ≤ 140737488355328 := by omega
  by_cases hs : l.length - m < n + 4
  · rw [if_pos hs] at h2
    have H2 := Lib.hid h2
    have hsi : (l.length : Int) < (Q : Int) := by omega
    clear h2 hs hP hQ
    go_wp2_with fail
    go_ret3
    exact ⟨_, by rw [H2.out]; rfl, by rw [H2.out]; exact IsBytes.none _, Below.refl _ _⟩
  rw [if_neg hs, hP, hQ] at h2
  have hsi : ¬ (l.length : Int) < (Q : Int) := by omega
  have x1 : (m : Int) ≤ (P : Int) := by omega
  have x2 : (P : Int) ≤ (q : Int) := by omega
  have x4 : (P : Int) ≤ (Q : Int) := by omega
  have x5 : (Q : Int) ≤ (q : Int) := by omega
  obtain ⟨x, hx⟩ : ∃ x, (l.drop m).take n = x := ⟨_, rfl⟩
  obtain ⟨y, hy⟩ : ∃ y, (l.drop P).take 4 = y := ⟨_, rfl⟩
  rw [hx, hy] at h2
  have hp := hv.part m P q (by omega) (by omega) (by omega) (Nat.le_refl _)
  have hs4 := hv.part P Q q (by omega) (by omega) (by omega) (Nat.le_refl _)
  rw [List.drop_take, show P - m = n by omega, hx] at hp
  rw [List.drop_take, show Q - P = 4 by omega, hy] at hs4
  have hxl : x.length = n := by rw [← hx, List.length_take, List.length_drop]; omega
  have n1 : ¬ q = m := by omega
  have n2 : ¬ q = P := by omega
  rw [if_neg n1] at hp
  rw [if_neg n2] at hs4
  have pn : P - m = n := by omega
  have qp : Q - P = 4 := by omega
  have h0 := ((St.start w1).putOld (P := (IsBytes · _ y)) (Mono.bytes _ _) hs4).putOld (P := (IsBytes · _ x)) (Mono.bytes _ _) hp
  have HH := Lib.hid (And.intro h2 hxl)
  clear h2 hxl hx hy hs4 hp hs hP hQ
  go_wp2_with fail
  refine (Calls.sB h0 (refJoin_any _ _ _ x [] (h0.is 0 rfl) (IsBytes.none _) (by rw [HH.out.2]; simp; omega))).mono ?_
  rintro e w2 ⟨v2, rfl, h2⟩
  rw [List.append_nil] at h2
  clear h0
  go_wp2_with fail
  refine (Calls.sI h2 (refSum_any _ _ x (h2.is 0 rfl))).mono ?_
  rintro e w3 ⟨v3, rfl, h3⟩
  clear h2
  go_wp2_with fail
  refine (Calls.sV' h3 (refSame_any _ _ _ _ _ (h3.is 0 rfl) (h3.is 3 rfl))).mono ?_
  rintro e w4 ⟨rfl, h4⟩
  clear h3
  by_cases hq : y = sum4 (Wire.sumOf x)
  · rw [decide_eq_true hq.symm]
    have hr := HH.out.1
    rw [if_pos hq] at hr
    have H2 := Lib.hid hr
    clear hr hq
    go_wp2_with fail
    go_ret3
    exact ⟨_, by rw [H2.out]; rfl, by rw [H2.out]; exact h4.is 1 rfl, h4.below⟩
  · rw [decide_eq_false (fun e => hq e.symm)]
    have hr := HH.out.1
    rw [if_neg hq] at hr
    have H2 := Lib.hid hr
    clear hr hq
    go_wp2_with fail
    go_ret3
    exact ⟨_, by rw [H2.out]; rfl, by rw [H2.out]; exact IsBytes.none _, h4.below⟩
end Go.Proofs.Ytblfpkhgnfjbbaa
