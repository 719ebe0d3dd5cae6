/- The walk over values.Check. -/
import Derived.Test.YtfpkibfofainaaaChecked
import Derived.Test.YtfpkibfofainaaaZVal
import Derived.Test.YtfpkibfofainaaaZGA
set_option linter.unusedVariables false
namespace Go.Proofs.Ytfpkibfofainaaa
open Go.RowKit

theorem size_zero {s : ByteArray} (h : s.size = 0) : s = ⟨#[]⟩ := by
  cases s with
  | mk a =>
    congr
    exact Array.eq_empty_of_size_eq_zero h
theorem toList_ne {s : ByteArray} (h : s.size ≠ 0) : s.toList.isEmpty = false := by
  rw [ByteArray.toList_eq, List.isEmpty_eq_false_iff]
  intro e
  exact h (by have := congrArg List.length e; simpa using this)
theorem bne_of {n m : Int} (h : ¬ n = m) : (n != m) = true := by simp [h]
theorem beq_of {n m : Int} (h : ¬ n = m) : (n == m) = false := by simp [h]

theorem okStr_at (low : Nat) (s : ByteArray) (j : Nat) (h : j < s.size) : (okStr low (s.data.toList.take j) = true → okByte low s[j] = true → okStr low (s.data.toList.take (j + 1)) = true) ∧ (okByte low s[j] = false → okStr low s.data.toList = false) := by
  have hl : j < s.data.toList.length := by simpa using h
  have he : s.data.toList[j] = s[j] := by simp; rfl
  refine ⟨fun h1 h2 => ?_, fun h1 => ?_⟩
  · unfold okStr at *
    rw [List.take_succ_eq_append_getElem hl, List.all_append, h1, he]
    simp [h2]
  · unfold okStr
    rw [List.all_eq_false]
    exact ⟨_, List.getElem_mem hl, by rw [he, h1]; decide⟩

set_option maxRecDepth 8000 in
set_option maxHeartbeats 4000000 in
theorem valCheck_any (w : World) (v : Vl) : Calls Try.prog 36 #[v.val] w fun e w' => e = .returned (.int .i64 v.check) ∧ Below w.heap.size w w' := by
  obtain ⟨k, n, s⟩ := v
  obtain ⟨r, hr⟩ : ∃ r, Vl.check ⟨k, n, s⟩ = r := ⟨_, rfl⟩
  rw [hr]
  have HR := Lib.hid hr
  clear hr
  simp only [Vl.val]
  go_enter Try.func36, Try.ntmps36
  by_cases h0 : k < 0 ∨ 5 < k
  · have hv : r = 1 := by rw [← HR.out]; simp [Vl.check, h0]
    have HV := Lib.hid hv
    clear hv
    go_wp2_with fail
    all_goals
      go_ret
      exact ⟨by rw [HV.out]; rfl, (Below.refl _ _).alloc (Nat.le_refl _) _⟩
  rcases (show k = 0 ∨ k = 1 ∨ k = 2 ∨ k = 3 ∨ k = 4 ∨ k = 5 from by omega) with rfl | rfl | rfl | rfl | rfl | rfl
  · by_cases hs : s.size = 0
    · obtain rfl := size_zero hs
      by_cases hn : n = 0
      · subst hn
        have hv : r = 0 := by rw [← HR.out]; simp [Vl.check]; rfl
        have HV := Lib.hid hv
        clear hv
        go_wp2_with fail
        all_goals
          go_ret
          exact ⟨by rw [HV.out]; rfl, (Below.refl _ _).alloc (Nat.le_refl _) _⟩
      · have n1 := bne_of hn
        have n2 := beq_of hn
        have hv : r = 1 := by rw [← HR.out]; simp [Vl.check, hn]
        have HV := Lib.hid hv
        clear hv
        go_wp2_with fail
        all_goals
          go_ret
          exact ⟨by rw [HV.out]; rfl, (Below.refl _ _).alloc (Nat.le_refl _) _⟩
    · have hv : r = 1 := by rw [← HR.out]; simp [Vl.check, hs]
      have HV := Lib.hid hv
      clear hv
      have hs' := toList_ne hs
      go_wp2_with fail
      all_goals
        go_ret
        exact ⟨by rw [HV.out]; rfl, (Below.refl _ _).alloc (Nat.le_refl _) _⟩
  · by_cases hs : s.size = 0
    · obtain rfl := size_zero hs
      by_cases hn : n = 0
      · subst hn
        have hv : r = 0 := by rw [← HR.out]; simp [Vl.check]; rfl
        have HV := Lib.hid hv
        clear hv
        go_wp2_with fail
        all_goals
          go_ret
          exact ⟨by rw [HV.out]; rfl, (Below.refl _ _).alloc (Nat.le_refl _) _⟩
      · by_cases hn1 : n = 1
        · subst hn1
          have hv : r = 0 := by rw [← HR.out]; simp [Vl.check]; rfl
          have HV := Lib.hid hv
          clear hv
          go_wp2_with fail
          all_goals
            go_ret
            exact ⟨by rw [HV.out]; rfl, (Below.refl _ _).alloc (Nat.le_refl _) _⟩
        · have n1 := bne_of hn
          have n2 := bne_of hn1
          have hv : r = 1 := by rw [← HR.out]; simp [Vl.check, hn, hn1]
          have HV := Lib.hid hv
          clear hv
          go_wp2_with fail
          all_goals
            go_ret
            exact ⟨by rw [HV.out]; rfl, (Below.refl _ _).alloc (Nat.le_refl _) _⟩
    · have hv : r = 1 := by rw [← HR.out]; simp [Vl.check, hs]
      have HV := Lib.hid hv
      clear hv
      have hs' := toList_ne hs
      go_wp2_with fail
      all_goals
        go_ret
        exact ⟨by rw [HV.out]; rfl, (Below.refl _ _).alloc (Nat.le_refl _) _⟩
  · by_cases hs : s.size = 0
    · obtain rfl := size_zero hs
      by_cases hn : n < -1152921504606846976 ∨ 1152921504606846976 < n
      · have hv : r = 2 := by rw [← HR.out]; simp only [Vl.check]; rw [if_neg h0, if_neg (by decide), if_neg (by decide), if_pos (by decide), if_neg (fun h => h rfl), if_pos hn]
        have HV := Lib.hid hv
        clear hv
        rcases hn with hn | hn
        · go_wp2_with fail
          all_goals
            go_ret
            exact ⟨by rw [HV.out]; rfl, (Below.refl _ _).alloc (Nat.le_refl _) _⟩
        · have hn2 : ¬ n < -1152921504606846976 := by omega
          go_wp2_with fail
          all_goals
            go_ret
            exact ⟨by rw [HV.out]; rfl, (Below.refl _ _).alloc (Nat.le_refl _) _⟩
      · have hv : r = 0 := by rw [← HR.out]; simp only [Vl.check]; rw [if_neg h0, if_neg (by decide), if_neg (by decide), if_pos (by decide), if_neg (fun h => h rfl), if_neg hn]
        have HV := Lib.hid hv
        clear hv
        have hn1 : ¬ n < -1152921504606846976 := by omega
        have hn2 : ¬ 1152921504606846976 < n := by omega
        go_wp2_with fail
        all_goals
          go_ret
          exact ⟨by rw [HV.out]; rfl, (Below.refl _ _).alloc (Nat.le_refl _) _⟩
    · have hv : r = 1 := by rw [← HR.out]; simp [Vl.check, hs]
      have HV := Lib.hid hv
      clear hv
      have hs' := toList_ne hs
      go_wp2_with fail
      all_goals
        go_ret
        exact ⟨by rw [HV.out]; rfl, (Below.refl _ _).alloc (Nat.le_refl _) _⟩
  · by_cases hs : s.size = 0
    · obtain rfl := size_zero hs
      by_cases hn : n < -1152921504606846976 ∨ 1152921504606846976 < n
      · have hv : r = 2 := by rw [← HR.out]; simp only [Vl.check]; rw [if_neg h0, if_neg (by decide), if_neg (by decide), if_pos (by decide), if_neg (fun h => h rfl), if_pos hn]
        have HV := Lib.hid hv
        clear hv
        rcases hn with hn | hn
        · go_wp2_with fail
          all_goals
            go_ret
            exact ⟨by rw [HV.out]; rfl, (Below.refl _ _).alloc (Nat.le_refl _) _⟩
        · have hn2 : ¬ n < -1152921504606846976 := by omega
          go_wp2_with fail
          all_goals
            go_ret
            exact ⟨by rw [HV.out]; rfl, (Below.refl _ _).alloc (Nat.le_refl _) _⟩
      · have hv : r = 0 := by rw [← HR.out]; simp only [Vl.check]; rw [if_neg h0, if_neg (by decide), if_neg (by decide), if_pos (by decide), if_neg (fun h => h rfl), if_neg hn]
        have HV := Lib.hid hv
        clear hv
        have hn1 : ¬ n < -1152921504606846976 := by omega
        have hn2 : ¬ 1152921504606846976 < n := by omega
        go_wp2_with fail
        all_goals
          go_ret
          exact ⟨by rw [HV.out]; rfl, (Below.refl _ _).alloc (Nat.le_refl _) _⟩
    · have hv : r = 1 := by rw [← HR.out]; simp [Vl.check, hs]
      have HV := Lib.hid hv
      clear hv
      have hs' := toList_ne hs
      go_wp2_with fail
      all_goals
        go_ret
        exact ⟨by rw [HV.out]; rfl, (Below.refl _ _).alloc (Nat.le_refl _) _⟩
  · by_cases hn : n = 0
    case neg =>
      have n1 := bne_of hn
      have n2 := beq_of hn
      have hv : r = 1 := by rw [← HR.out]; simp [Vl.check, hn]
      have HV := Lib.hid hv
      clear hv
      go_wp2_with fail
      all_goals
        go_ret
        exact ⟨by rw [HV.out]; rfl, (Below.refl _ _).alloc (Nat.le_refl _) _⟩
    subst hn
    by_cases hm : 64 < s.size
    · have hv : r = 2 := by rw [← HR.out]; simp [Vl.check, hm]
      have HV := Lib.hid hv
      clear hv
      have hmi : (64 : Int) < (s.size : Int) := by omega
      go_wp2_with fail
      all_goals
        go_ret
        exact ⟨by rw [HV.out]; rfl, (Below.refl _ _).alloc (Nat.le_refl _) _⟩
    have hmi : ¬ (64 : Int) < (s.size : Int) := by omega
    have hv : r = if okStr 32 s.data.toList then 0 else 3 := by rw [← HR.out]; simp [Vl.check, hm]
    have HV := Lib.hid hv
    clear hv
    go_wp2_with fail
    go_loop [89] (fun c => ∃ j : Nat, j ≤ s.size ∧ c = .int .i64 j ∧ okStr 32 (s.data.toList.take j) = true) (fun c => s.size - (intOf c).toNat)
    case atStart => exact ⟨0, by omega, rfl, rfl⟩
    case round =>
      obtain ⟨j, hj, rfl, hok⟩ := hrel
      have HOK := Lib.hid hok
      clear hok
      by_cases hlt : j < s.size
      · have hall := okStr_at 32 s j hlt
        obtain ⟨y, hy⟩ : ∃ y, s[j] = y := ⟨_, rfl⟩
        rw [hy] at hall
        have hy8 := y.toNat_lt
        by_cases h1 : y.toNat < 32
        · have hbad : okStr 32 s.data.toList = false := hall.2 (by simp [okByte]; omega)
          have HB := Lib.hid hbad
          have h1i : (y.toNat : Int) < 32 := by omega
          clear hbad hall
          go_wp2_with fail
          all_goals
            go_ret
            exact ⟨by rw [HV.out, HB.out]; rfl, (Below.refl _ _).alloc (Nat.le_refl _) _⟩
        have h1i : ¬ (y.toNat : Int) < 32 := by omega
        by_cases h2 : 126 < y.toNat
        · have hbad : okStr 32 s.data.toList = false := hall.2 (by simp [okByte]; omega)
          have HB := Lib.hid hbad
          have h2i : (126 : Int) < (y.toNat : Int) := by omega
          clear hbad hall
          go_wp2_with fail
          all_goals
            go_ret
            exact ⟨by rw [HV.out, HB.out]; rfl, (Below.refl _ _).alloc (Nat.le_refl _) _⟩
        have h2i : ¬ (126 : Int) < (y.toNat : Int) := by omega
        by_cases h3 : y.toNat = 34
        · have hbad : okStr 32 s.data.toList = false := hall.2 (by simp [okByte, h3])
          have HB := Lib.hid hbad
          have h3i : ((y.toNat : Int) == 34) = true := by simp; omega
          clear hbad hall
          go_wp2_with fail
          all_goals
            go_ret
            exact ⟨by rw [HV.out, HB.out]; rfl, (Below.refl _ _).alloc (Nat.le_refl _) _⟩
        have h3i : ((y.toNat : Int) == 34) = false := by simp; omega
        by_cases h4 : y.toNat = 92
        · have hbad : okStr 32 s.data.toList = false := hall.2 (by simp [okByte, h4])
          have HB := Lib.hid hbad
          have h4i : ((y.toNat : Int) == 92) = true := by simp; omega
          clear hbad hall
          go_wp2_with fail
          all_goals
            go_ret
            exact ⟨by rw [HV.out, HB.out]; rfl, (Below.refl _ _).alloc (Nat.le_refl _) _⟩
        have h4i : ((y.toNat : Int) == 92) = false := by simp; omega
        have hgood := hall.1 HOK.out (by simp [okByte, h3, h4]; omega)
        have HG := Lib.hid hgood
        clear hgood hall
        go_wp2_with fail
        all_goals
          go_round
          case rel => exact ⟨j + 1, by omega, by go_num, HG.out⟩
          case measure => simp [intOf]; omega
      · obtain rfl : j = s.size := by omega
        have hgood : okStr 32 s.data.toList = true := by
          have := HOK.out
          rwa [List.take_of_length_le (by simp)] at this
        have HG := Lib.hid hgood
        clear hgood
        go_wp2_with fail
        all_goals
          go_ret
          exact ⟨by rw [HV.out, HG.out]; rfl, (Below.refl _ _).alloc (Nat.le_refl _) _⟩
  · by_cases hn : n = 0
    case neg =>
      have n1 := bne_of hn
      have n2 := beq_of hn
      have hv : r = 1 := by rw [← HR.out]; simp [Vl.check, hn]
      have HV := Lib.hid hv
      clear hv
      go_wp2_with fail
      all_goals
        go_ret
        exact ⟨by rw [HV.out]; rfl, (Below.refl _ _).alloc (Nat.le_refl _) _⟩
    subst hn
    by_cases hm : 32 < s.size
    · have hv : r = 2 := by rw [← HR.out]; simp [Vl.check, hm]
      have HV := Lib.hid hv
      clear hv
      have hmi : (32 : Int) < (s.size : Int) := by omega
      go_wp2_with fail
      all_goals
        go_ret
        exact ⟨by rw [HV.out]; rfl, (Below.refl _ _).alloc (Nat.le_refl _) _⟩
    by_cases hs : s.size = 0
    · have hv : r = 3 := by rw [← HR.out]; simp [Vl.check, hs]
      have HV := Lib.hid hv
      clear hv
      obtain rfl := size_zero hs
      go_wp2_with fail
      all_goals
        go_ret
        exact ⟨by rw [HV.out]; rfl, (Below.refl _ _).alloc (Nat.le_refl _) _⟩
    have hs' := toList_ne hs
    have hmi : ¬ (32 : Int) < (s.size : Int) := by omega
    have hv : r = if okStr 33 s.data.toList then 0 else 3 := by rw [← HR.out]; simp [Vl.check, hm, hs]
    have HV := Lib.hid hv
    clear hv
    go_wp2_with fail
    go_loop [89] (fun c => ∃ j : Nat, j ≤ s.size ∧ c = .int .i64 j ∧ okStr 33 (s.data.toList.take j) = true) (fun c => s.size - (intOf c).toNat)
    case atStart => exact ⟨0, by omega, rfl, rfl⟩
    case round =>
      obtain ⟨j, hj, rfl, hok⟩ := hrel
      have HOK := Lib.hid hok
      clear hok
      by_cases hlt : j < s.size
      · have hall := okStr_at 33 s j hlt
        obtain ⟨y, hy⟩ : ∃ y, s[j] = y := ⟨_, rfl⟩
        rw [hy] at hall
        have hy8 := y.toNat_lt
        by_cases h1 : y.toNat < 33
        · have hbad : okStr 33 s.data.toList = false := hall.2 (by simp [okByte]; omega)
          have HB := Lib.hid hbad
          have h1i : (y.toNat : Int) < 33 := by omega
          clear hbad hall
          go_wp2_with fail
          all_goals
            go_ret
            exact ⟨by rw [HV.out, HB.out]; rfl, (Below.refl _ _).alloc (Nat.le_refl _) _⟩
        have h1i : ¬ (y.toNat : Int) < 33 := by omega
        by_cases h2 : 126 < y.toNat
        · have hbad : okStr 33 s.data.toList = false := hall.2 (by simp [okByte]; omega)
          have HB := Lib.hid hbad
          have h2i : (126 : Int) < (y.toNat : Int) := by omega
          clear hbad hall
          go_wp2_with fail
          all_goals
            go_ret
            exact ⟨by rw [HV.out, HB.out]; rfl, (Below.refl _ _).alloc (Nat.le_refl _) _⟩
        have h2i : ¬ (126 : Int) < (y.toNat : Int) := by omega
        by_cases h3 : y.toNat = 34
        · have hbad : okStr 33 s.data.toList = false := hall.2 (by simp [okByte, h3])
          have HB := Lib.hid hbad
          have h3i : ((y.toNat : Int) == 34) = true := by simp; omega
          clear hbad hall
          go_wp2_with fail
          all_goals
            go_ret
            exact ⟨by rw [HV.out, HB.out]; rfl, (Below.refl _ _).alloc (Nat.le_refl _) _⟩
        have h3i : ((y.toNat : Int) == 34) = false := by simp; omega
        by_cases h4 : y.toNat = 92
        · have hbad : okStr 33 s.data.toList = false := hall.2 (by simp [okByte, h4])
          have HB := Lib.hid hbad
          have h4i : ((y.toNat : Int) == 92) = true := by simp; omega
          clear hbad hall
          go_wp2_with fail
          all_goals
            go_ret
            exact ⟨by rw [HV.out, HB.out]; rfl, (Below.refl _ _).alloc (Nat.le_refl _) _⟩
        have h4i : ((y.toNat : Int) == 92) = false := by simp; omega
        have hgood := hall.1 HOK.out (by simp [okByte, h3, h4]; omega)
        have HG := Lib.hid hgood
        clear hgood hall
        go_wp2_with fail
        all_goals
          go_round
          case rel => exact ⟨j + 1, by omega, by go_num, HG.out⟩
          case measure => simp [intOf]; omega
      · obtain rfl : j = s.size := by omega
        have hgood : okStr 33 s.data.toList = true := by
          have := HOK.out
          rwa [List.take_of_length_le (by simp)] at this
        have HG := Lib.hid hgood
        clear hgood
        go_wp2_with fail
        all_goals
          go_ret
          exact ⟨by rw [HV.out, HG.out]; rfl, (Below.refl _ _).alloc (Nat.le_refl _) _⟩
end Go.Proofs.Ytfpkibfofainaaa
