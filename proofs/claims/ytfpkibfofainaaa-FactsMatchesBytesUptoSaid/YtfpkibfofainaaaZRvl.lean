/- The walks over the reference's values: printable, fields, InRange, Text, Key, Check, Valid, Has. -/
import Derived.Test.YtfpkibfofainaaaZValW
import Derived.Test.YtfpkibfofainaaaZGB
set_option linter.unusedVariables false
set_option linter.unusedSimpArgs false
namespace Go.Proofs.Ytfpkibfofainaaa
open Go.RowKit

set_option maxRecDepth 8000 in
set_option maxHeartbeats 1000000 in
theorem printable_any (w : World) (s : ByteArray) (low : Nat) (hlow : low ≤ 100) (hs : s.size ≤ 64) : Calls Try.prog 87 #[.string s, .int .u8 low] w fun e w' => e = .returned (.bool (okStr low s.data.toList)) ∧ w' = w := by
  obtain ⟨r, hr⟩ : ∃ r, okStr low s.data.toList = r := ⟨_, rfl⟩
  rw [hr]
  have HR := Lib.hid hr
  clear hr
  go_enter Try.func87, Try.ntmps87
  go_wp2_with fail
  go_loop [5] (fun c => ∃ j : Nat, j ≤ s.size ∧ c = .int .i64 j ∧ okStr low (s.data.toList.take j) = true) (fun c => s.size - (intOf c).toNat)
  case atStart => exact ⟨0, by omega, rfl, rfl⟩
  case round =>
    obtain ⟨j, hj, rfl, hok⟩ := hrel
    have HOK := Lib.hid hok
    clear hok
    by_cases hlt : j < s.size
    · have hall := okStr_at low s j hlt
      obtain ⟨y, hy⟩ : ∃ y, s[j] = y := ⟨_, rfl⟩
      rw [hy] at hall
      have hy8 := y.toNat_lt
      by_cases h1 : y.toNat < low
      · have hbad : okStr low s.data.toList = false := hall.2 (by simp [okByte]; omega)
        have HB := Lib.hid hbad
        have h1i : (y.toNat : Int) < low := by omega
        clear hbad hall
        go_wp2_with fail
        all_goals
          go_ret
          exact ⟨by rw [← HR.out, HB.out]; rfl, rfl⟩
      have h1i : ¬ (y.toNat : Int) < low := by omega
      by_cases h2 : 126 < y.toNat
      · have hbad : okStr low s.data.toList = false := hall.2 (by simp [okByte]; omega)
        have HB := Lib.hid hbad
        have h2i : (126 : Int) < (y.toNat : Int) := by omega
        clear hbad hall
        go_wp2_with fail
        all_goals
          go_ret
          exact ⟨by rw [← HR.out, HB.out]; rfl, rfl⟩
      have h2i : ¬ (126 : Int) < (y.toNat : Int) := by omega
      by_cases h3 : y.toNat = 34
      · have hbad : okStr low s.data.toList = false := hall.2 (by simp [okByte, h3])
        have HB := Lib.hid hbad
        have h3i : ((y.toNat : Int) == 34) = true := by simp; omega
        clear hbad hall
        go_wp2_with fail
        all_goals
          go_ret
          exact ⟨by rw [← HR.out, HB.out]; rfl, rfl⟩
      have h3i : ((y.toNat : Int) == 34) = false := by simp; omega
      by_cases h4 : y.toNat = 92
      · have hbad : okStr low s.data.toList = false := hall.2 (by simp [okByte, h4])
        have HB := Lib.hid hbad
        have h4i : ((y.toNat : Int) == 92) = true := by simp; omega
        clear hbad hall
        go_wp2_with fail
        all_goals
          go_ret
          exact ⟨by rw [← HR.out, HB.out]; rfl, rfl⟩
      have h4i : ((y.toNat : Int) == 92) = false := by simp; omega
      have hgood := hall.1 HOK.out (by simp [okByte, h3, h4]; omega)
      have HG := Lib.hid hgood
      clear hgood hall
      go_wp2_with fail
      all_goals
        go_round
        case rel => exact ⟨j + 1, by omega, by go_num, HG.out⟩
        case measure => simp [intOf]; omega
    · obtain rfl : j = s.size := by omega
      have hgood : r = true := by
        have := HOK.out
        rw [List.take_of_length_le (by simp)] at this
        rw [← HR.out, this]
      have HG := Lib.hid hgood
      clear hgood
      go_wp2_with fail
      all_goals
        go_ret
        exact ⟨by rw [HG.out]; rfl, rfl⟩

def inRangeB (n : Int) : Bool := decide (-1152921504606846976 ≤ n) && decide (n ≤ 1152921504606846976)
theorem inRange_any (w : World) (n : Int) : Calls Try.prog 89 #[.int .i64 n] w fun e w' => e = .returned (.bool (inRangeB n)) ∧ w' = w := by
  go_enter Try.func89, Try.ntmps89
  by_cases h1 : -1152921504606846976 ≤ n
  · have h2 : inRangeB n = decide (n ≤ 1152921504606846976) := by simp [inRangeB, h1]
    rw [h2]
    clear h2
    go_wp2_with fail
    go_ret
    exact ⟨rfl, rfl⟩
  · have h2 : inRangeB n = false := by simp [inRangeB, h1]
    rw [h2]
    clear h2
    go_wp2_with fail
    go_ret
    exact ⟨rfl, rfl⟩
def textB (s : ByteArray) : Bool := decide (s.size ≤ 64) && okStr 32 s.data.toList
def keyB (s : ByteArray) : Bool := !s.toList.isEmpty && (decide (s.size ≤ 32) && okStr 33 s.data.toList)
set_option maxRecDepth 8000 in
theorem refText_any (w : World) (s : ByteArray) : Calls Try.prog 90 #[.string s] w fun e w' => e = .returned (.bool (textB s)) ∧ w' = w := by
  obtain ⟨r, hr⟩ : ∃ r, textB s = r := ⟨_, rfl⟩
  rw [hr]
  go_enter Try.func90, Try.ntmps90
  by_cases h1 : s.size ≤ 64
  · have h1i : (s.size : Int) ≤ 64 := by omega
    obtain rfl : okStr 32 s.data.toList = r := by rw [← hr]; simp [textB, h1]
    clear hr
    go_wp2_with fail
    refine (printable_any _ s 32 (by omega) h1).mono ?_
    rintro e w1 ⟨rfl, rfl⟩
    go_wp2_with fail
    go_ret
    exact ⟨rfl, rfl⟩
  · have h1i : ¬ (s.size : Int) ≤ 64 := by omega
    obtain rfl : r = false := by rw [← hr]; simp [textB, h1]
    clear hr
    go_wp2_with fail
    go_ret
    exact ⟨rfl, rfl⟩
set_option maxRecDepth 8000 in
theorem refKey_any (w : World) (s : ByteArray) : Calls Try.prog 70 #[.string s] w fun e w' => e = .returned (.bool (keyB s)) ∧ w' = w := by
  obtain ⟨r, hr⟩ : ∃ r, keyB s = r := ⟨_, rfl⟩
  rw [hr]
  go_enter Try.func70, Try.ntmps70
  cases he : s.toList.isEmpty with
  | true =>
    obtain rfl : r = false := by rw [← hr]; simp only [keyB, he]; rfl
    clear hr
    go_wp2_with fail
    go_ret
    exact ⟨rfl, rfl⟩
  | false =>
    by_cases h1 : s.size ≤ 32
    · have h1i : (s.size : Int) ≤ 32 := by omega
      obtain rfl : okStr 33 s.data.toList = r := by rw [← hr]; simp only [keyB, he, h1]; simp
      clear hr
      go_wp2_with fail
      refine (printable_any _ s 33 (by omega) (by omega)).mono ?_
      rintro e w1 ⟨rfl, rfl⟩
      go_wp2_with fail
      go_ret
      exact ⟨rfl, rfl⟩
    · have h1i : ¬ (s.size : Int) ≤ 32 := by omega
      obtain rfl : r = false := by rw [← hr]; simp only [keyB, he, h1]; rfl
      clear hr
      go_wp2_with fail
      go_ret
      exact ⟨rfl, rfl⟩
def fieldsB (v : Vl) : Bool := if v.k = 0 then v.n == 0 && v.s.toList.isEmpty else if v.k = 1 then (v.n == 0 || v.n == 1) && v.s.toList.isEmpty else if v.k = 2 ∨ v.k = 3 then v.s.toList.isEmpty else if v.k = 4 ∨ v.k = 5 then v.n == 0 else false
set_option maxRecDepth 8000 in
set_option maxHeartbeats 1000000 in
theorem refFields_any (w : World) (v : Vl) : Calls Try.prog 88 #[v.val] w fun e w' => e = .returned (.bool (fieldsB v)) ∧ Below w.heap.size w w' := by
  obtain ⟨k, n, s⟩ := v
  obtain ⟨r, hr⟩ : ∃ r, fieldsB ⟨k, n, s⟩ = r := ⟨_, rfl⟩
  rw [hr]
  have HR := Lib.hid hr
  clear hr
  simp only [Vl.val]
  go_enter Try.func88, Try.ntmps88
  have hbel : ∀ o, Below w.heap.size w (w.alloc o) := fun o => (Below.refl _ _).alloc (Nat.le_refl _) o
  by_cases h0 : k < 0 ∨ 5 < k
  · have hv : r = false := by rw [← HR.out]; unfold fieldsB; rw [if_neg (by simp; omega), if_neg (by simp; omega), if_neg (by simp; omega), if_neg (by simp; omega)]
    have HV := Lib.hid hv
    clear hv
    have b0 := beq_of (show ¬ k = 0 by omega)
    have b1 := beq_of (show ¬ k = 1 by omega)
    have b2 := beq_of (show ¬ k = 2 by omega)
    have b3 := beq_of (show ¬ k = 3 by omega)
    have b4 := beq_of (show ¬ k = 4 by omega)
    have b5 := beq_of (show ¬ k = 5 by omega)
    clear h0
    go_wp2_with fail
    all_goals
      go_ret
      exact ⟨by rw [HV.out]; rfl, hbel _⟩
  rcases (show k = 0 ∨ k = 1 ∨ k = 2 ∨ k = 3 ∨ k = 4 ∨ k = 5 from by omega) with rfl | rfl | rfl | rfl | rfl | rfl
  all_goals
    simp [fieldsB] at HR
    obtain ⟨e0, he⟩ : ∃ b, s.toList.isEmpty = b := ⟨_, rfl⟩
    obtain ⟨n0, hn0⟩ : ∃ b, (n == 0) = b := ⟨_, rfl⟩
    obtain ⟨n1, hn1⟩ : ∃ b, (n == 1) = b := ⟨_, rfl⟩
    have hcon : n0 = true → n1 = true → False := fun h1 h2 => by rw [h1] at hn0; rw [h2] at hn1; simp at hn0 hn1; omega
    simp only [he, hn0, hn1] at HR
    have HR2 := HR.out
    clear HR
    cases e0 <;> cases n0 <;> cases n1
    all_goals
      first
      | exact absurd rfl (fun h => hcon h rfl)
      | (clear hcon
         simp at HR2
         have HV := Lib.hid HR2
         clear HR2
         go_wp2_with fail
         all_goals
           go_ret
           exact ⟨by rw [← HV.out]; rfl, hbel _⟩)
theorem isEmpty_size (s : ByteArray) : s.toList.isEmpty = decide (s.size = 0) := by
  by_cases h : s.size = 0
  · obtain rfl := size_zero h; rw [ByteArray.toList_eq]; rfl
  · rw [toList_ne h, decide_eq_false h]
theorem check_ref (v : Vl) : v.check = if fieldsB v = false then 1 else if inRangeB v.n = false ∨ (v.k = 4 ∧ 64 < v.s.size) ∨ (v.k = 5 ∧ 32 < v.s.size) then 2 else if (v.k = 4 ∧ textB v.s = false) ∨ (v.k = 5 ∧ keyB v.s = false) then 3 else 0 := by
  obtain ⟨k, n, s⟩ := v
  by_cases h0 : k < 0 ∨ 5 < k
  · have : fieldsB ⟨k, n, s⟩ = false := by unfold fieldsB; rw [if_neg (by simp; omega), if_neg (by simp; omega), if_neg (by simp; omega), if_neg (by simp; omega)]
    rw [if_pos this]; simp [Vl.check, h0]
  · rcases (show k = 0 ∨ k = 1 ∨ k = 2 ∨ k = 3 ∨ k = 4 ∨ k = 5 from by omega) with rfl | rfl | rfl | rfl | rfl | rfl
    · by_cases h1 : s.size = 0 <;> by_cases h2 : n = 0 <;> simp [Vl.check, fieldsB, inRangeB, isEmpty_size, h1, h2]
    · by_cases h1 : s.size = 0 <;> by_cases h2 : n = 0 <;> by_cases h3 : n = 1 <;> simp [Vl.check, fieldsB, inRangeB, isEmpty_size, h1, h2, h3]
    · by_cases h1 : s.size = 0 <;> simp [Vl.check, fieldsB, inRangeB, isEmpty_size, h1]
      by_cases h2 : n < -1152921504606846976 ∨ 1152921504606846976 < n
      · rw [if_pos h2, if_pos (by omega)]
      · rw [if_neg h2, if_neg (by omega)]
    · by_cases h1 : s.size = 0 <;> simp [Vl.check, fieldsB, inRangeB, isEmpty_size, h1]
      by_cases h2 : n < -1152921504606846976 ∨ 1152921504606846976 < n
      · rw [if_pos h2, if_pos (by omega)]
      · rw [if_neg h2, if_neg (by omega)]
    · by_cases h2 : n = 0
      · by_cases h3 : 64 < s.size
        · simp [Vl.check, fieldsB, inRangeB, isEmpty_size, textB, h2, h3]
        · have h4 : s.size ≤ 64 := by omega
          cases h5 : okStr 32 s.data.toList <;> simp [Vl.check, fieldsB, inRangeB, isEmpty_size, textB, h2, h3, h4, h5]
      · simp [Vl.check, fieldsB, h2]
    · by_cases h2 : n = 0
      · by_cases h3 : 32 < s.size
        · simp [Vl.check, fieldsB, inRangeB, isEmpty_size, keyB, h2, h3]
        · have h4 : s.size ≤ 32 := by omega
          by_cases h6 : s.size = 0
          · simp [Vl.check, fieldsB, inRangeB, isEmpty_size, keyB, h2, h3, h4, h6]
          · cases h5 : okStr 33 s.data.toList <;> simp [Vl.check, fieldsB, inRangeB, isEmpty_size, keyB, h2, h3, h4, h5, h6]
      · simp [Vl.check, fieldsB, h2]
end Go.Proofs.Ytfpkibfofainaaa
