/- The walks over the reference's word and Name. -/
import Derived.Test.YtihohhjaomoemaaRnm
import Derived.Test.YtihohhjaomoemaaStrB
import Derived.Test.YtihohhjaomoemaaRegC
set_option linter.unusedVariables false
set_option linter.unusedSimpArgs false
namespace Go.Proofs.Ytihohhjaomoemaa
open Go.RowKit

def tailB (c : UInt8) : Bool := letterB c || digitB c || decide (c.toNat = 95)
/-- How many bytes has the word at the beginning? -/
def wordLen : List UInt8 → Nat
  | [] => 0
  | c :: t => if letterB c then 1 + (t.takeWhile tailB).length else 0
theorem takeWhile_len {p : UInt8 → Bool} : ∀ (l : List UInt8) (k : Nat), k ≤ l.length → (∀ i (h : i < l.length), i < k → p l[i] = true) → (∀ h : k < l.length, p l[k] = false) → (l.takeWhile p).length = k
  | [], k, hk, _, _ => by simp at hk; simp [hk]
  | c :: t, 0, _, _, h2 => by
    have := h2 (by simp)
    simp only [List.getElem_cons_zero] at this
    rw [List.takeWhile_cons, this]
    simp
  | c :: t, k + 1, hk, h1, h2 => by
    have := h1 0 (by simp) (by omega)
    simp only [List.getElem_cons_zero] at this
    rw [List.takeWhile_cons, this]
    simp only [if_true, List.length_cons]
    rw [takeWhile_len t k (by simpa using hk) (fun i h hi => by
      exact h1 (i + 1) (Nat.succ_lt_succ h) (by omega)) (fun h => h2 (Nat.succ_lt_succ h))]
theorem takeWhile_all {p : UInt8 → Bool} : ∀ (l : List UInt8), (l.takeWhile p).length = l.length ↔ ∀ i (h : i < l.length), p l[i] = true
  | [] => by simp
  | c :: t => by
    rw [List.takeWhile_cons]
    cases hp : p c with
    | false =>
      simp only [Bool.false_eq_true, if_false, List.length_nil, List.length_cons]
      constructor
      · intro h; omega
      · intro h
        have := h 0 (by simp)
        simp only [List.getElem_cons_zero, hp] at this
        cases this
    | true =>
      rw [if_pos rfl]
      have e1 : (c :: t).length = t.length + 1 := rfl
      have e2 : (c :: List.takeWhile p t).length = (List.takeWhile p t).length + 1 := rfl
      have ih := takeWhile_all (p := p) t
      constructor
      · intro h i hi
        cases i with
        | zero => simpa using hp
        | succ i => exact ih.1 (by omega) i (Nat.lt_of_succ_lt_succ hi)
      · intro h
        have := ih.2 fun i hi => by exact h (i + 1) (Nat.succ_lt_succ hi)
        omega
theorem wordLen_name (l : List UInt8) (hne : l ≠ []) : wordLen l = l.length ↔ nameBytes l = true := by
  cases l with
  | nil => exact absurd rfl hne
  | cons c t =>
    rw [nameBytes_take]
    have hwl : wordLen (c :: t) = if letterB c then 1 + (t.takeWhile tailB).length else 0 := rfl
    rw [hwl]
    have h0 : nameByte 0 c = letterB c := by simp [nameByte, letterB]
    have hs : ∀ i d, nameByte (i + 1) d = tailB d := fun i d => by simp [nameByte, tailB, letterB, digitB, Bool.or_assoc]
    cases hl : letterB c with
    | false =>
      simp only [Bool.false_eq_true, if_false, List.length_cons]
      constructor
      · intro h; omega
      · intro h
        have := h 0 (by simp)
        simp only [List.getElem_cons_zero, h0, hl] at this
        cases this
    | true =>
      rw [if_pos rfl]
      have e1 : (c :: t).length = t.length + 1 := rfl
      have hw := takeWhile_all (p := tailB) t
      constructor
      · intro h i hi
        cases i with
        | zero => simpa [h0] using hl
        | succ i =>
          rw [hs]
          exact hw.1 (by omega) i (Nat.lt_of_succ_lt_succ hi)
      · intro h
        have := hw.2 fun i hi => by
          have := h (i + 1) (Nat.succ_lt_succ hi)
          rw [hs] at this
          exact this
        omega

set_option maxRecDepth 8000 in
set_option maxHeartbeats 4000000 in
theorem word_any (w : World) (v : Value) (l : List UInt8) (hv : IsBytes w v l) (hne : l ≠ []) :
    Calls Try.prog 34 #[v, .int .i64 0] w fun e w' => e = .returned (.int .i64 (wordLen l : Nat)) ∧ w' = w := by
  obtain ⟨bs, q, rfl, hlen, hcap, hnil, hc⟩ := hv.out
  unfold maxLen at hcap
  obtain ⟨r, hr⟩ : ∃ r, wordLen l = r := ⟨_, rfl⟩
  rw [hr]
  obtain ⟨n, hn⟩ : ∃ n, l.length = n := ⟨_, rfl⟩
  have hpos : 0 < n := by rw [← hn]; exact List.length_pos_iff.2 hne
  rw [hn] at hlen ⊢
  have HN := Lib.hid hn
  have HR := Lib.hid hr
  have HC := Lib.hid hc
  have hn9 : n ≤ 9223372036854775807 := by omega
  clear hv hr hn hc hnil hlen hcap hne
  go_enter Try.func34, Try.ntmps34
  obtain ⟨b, off, rfl, c0⟩ := HC.out 0 (by rw [HN.out]; exact hpos)
  rw [Nat.add_zero] at c0
  obtain ⟨y, hy⟩ : ∃ y, l[0]'(by rw [HN.out]; exact hpos) = y := ⟨_, rfl⟩
  rw [hy] at c0
  have HY := Lib.hid hy
  clear hy
  go_wp2_with fail
  refine (letter_any _ y).mono ?_
  rintro e w1 ⟨rfl, rfl⟩
  cases hl : letterB y with
  | false =>
    have hv : r = 0 := by
      rw [← HR.out]
      have := HN.out
      have hyy := HY.out
      cases l with
      | nil => rfl
      | cons c t => simp only [List.getElem_cons_zero] at hyy; subst hyy; simp [wordLen, hl]
    have HV := Lib.hid hv
    clear hv hl
    go_wp2_with fail
    go_ret
    exact ⟨by rw [HV.out]; rfl, rfl⟩
  | true =>
    have hv : r = 1 + (l.tail.takeWhile tailB).length := by
      rw [← HR.out]
      have hyy := HY.out
      have := HN.out
      cases l with
      | nil => simp at this; omega
      | cons c t => simp only [List.getElem_cons_zero] at hyy; subst hyy; simp [wordLen, hl]
    have HV := Lib.hid hv
    clear hv hl c0
    go_wp2_with fail
    go_loop [5] (fun c => ∃ j : Nat, 1 ≤ j ∧ j ≤ n ∧ c = .int .i64 j ∧ ∀ i (h : i < l.length), 1 ≤ i → i < j → tailB l[i] = true) (fun c => n - (intOf c).toNat)
    case atStart => exact ⟨1, by omega, by omega, rfl, fun i _ h1 h2 => by omega⟩
    case round =>
      obtain ⟨j, hj1, hj, rfl, hok⟩ := hrel
      have HOK := Lib.hid hok
      clear hok
      have hstop : (∀ h : j < l.length, tailB l[j] = false) → j = r := fun hs => by
        rw [HV.out, takeWhile_len (p := tailB) l.tail (j - 1) (by rw [List.length_tail, HN.out]; omega) (fun i h hi => by
          rw [List.getElem_tail]
          exact HOK.out (i + 1) (by rw [List.length_tail] at h; omega) (by omega) (by omega)) (fun h => by
          rw [List.getElem_tail]
          have := hs (by rw [List.length_tail] at h; omega)
          simpa [Nat.sub_add_cancel hj1] using this)]
        omega
      have HS := Lib.hid hstop
      clear hstop
      by_cases hlt : j < n
      · have hjl : j < l.length := by rw [HN.out]; exact hlt
        obtain ⟨y, hy⟩ : ∃ y, l[j] = y := ⟨_, rfl⟩
        obtain ⟨_, _, e, cj⟩ := HC.out j hjl
        cases e
        rw [hy] at cj
        have HY2 := Lib.hid hy
        have HG : Hid (tailB y = true → ∀ i (h : i < l.length), 1 ≤ i → i < j + 1 → tailB l[i] = true) := Lib.hid fun ht i h h1 hi => by
          rcases Nat.lt_succ_iff_lt_or_eq.1 hi with hi | rfl
          · exact HOK.out i h h1 hi
          · rw [HY2.out]; exact ht
        clear hy
        go_wp2_with fail
        refine (letter_any _ y).mono ?_
        rintro e w1 ⟨rfl, rfl⟩
        cases hl : letterB y with
        | true =>
          have hg := HG.out (by simp [tailB, hl])
          have HG2 := Lib.hid hg
          clear hg hl
          go_wp2_with fail
          go_round
          case rel => exact ⟨j + 1, by omega, by omega, by go_num, HG2.out⟩
          case measure => simp [intOf]; omega
        | false =>
          go_wp2_with fail
          refine (digit_any _ y).mono ?_
          rintro e w1 ⟨rfl, rfl⟩
          cases hd : digitB y with
          | true =>
            have hg := HG.out (by simp [tailB, hd])
            have HG2 := Lib.hid hg
            clear hg hl hd
            go_wp2_with fail
            go_round
            case rel => exact ⟨j + 1, by omega, by omega, by go_num, HG2.out⟩
            case measure => simp [intOf]; omega
          | false =>
            by_cases h95 : y.toNat = 95
            · have hg := HG.out (by simp [tailB, h95])
              have HG2 := Lib.hid hg
              have hi95 : ((y.toNat : Int) == 95) = true := by simp; omega
              clear hg hl hd h95
              go_wp2_with fail
              go_round
              case rel => exact ⟨j + 1, by omega, by omega, by go_num, HG2.out⟩
              case measure => simp [intOf]; omega
            · have hi95 : ((y.toNat : Int) == 95) = false := by simp; omega
              have hr := HS.out fun h => by rw [HY2.out]; simp [tailB, hl, hd, h95]
              have HR2 := Lib.hid hr
              clear hr hl hd h95
              go_wp2_with fail
              go_ret
              exact ⟨by rw [← HR2.out]; rfl, rfl⟩
      · have hr := HS.out fun h => by rw [HN.out] at h; omega
        have HR2 := Lib.hid hr
        clear hr
        go_wp2_with fail
        go_ret
        exact ⟨by rw [← HR2.out]; rfl, rfl⟩

set_option maxRecDepth 8000 in
set_option maxHeartbeats 4000000 in
theorem refName_any (w : World) (s : ByteArray) : Calls Try.prog 31 #[.string s] w fun e w' => e = .returned (.bool (isName s)) ∧ Below w.heap.size w w' := by
  obtain ⟨r, hr⟩ : ∃ r, isName s = r := ⟨_, rfl⟩
  rw [hr]
  have HR := Lib.hid hr
  clear hr
  go_enter Try.func31, Try.ntmps31
  by_cases h0 : s.size = 0
  · obtain rfl := size_zero h0
    have hr : r = false := by rw [← HR.out]; rfl
    have HR2 := Lib.hid hr
    clear hr
    go_wp2_with fail
    go_ret
    exact ⟨by rw [HR2.out]; rfl, Below.refl _ _⟩
  have h0' := toList_ne h0
  by_cases h24 : 24 < s.size
  · have hr : r = false := by rw [← HR.out]; simp [isName]; intro _ h; omega
    have HR2 := Lib.hid hr
    have h24i : ¬ (s.size : Int) ≤ 24 := by omega
    clear hr
    go_wp2_with fail
    go_ret
    exact ⟨by rw [HR2.out]; rfl, Below.refl _ _⟩
  have h24i : (s.size : Int) ≤ 24 := by omega
  obtain ⟨tc, wt, hct, hqt, hit, hbt⟩ := run_strBytes (P := Try.prog) w 9 61 5 s Try.underlying9 Try.underlying61 Try.underlying5 (by simp only [maxLen]; omega)
  have hne : s.data.toList ≠ [] := fun e => h0 (by have := congrArg List.length e; simpa using this)
  have hlen : s.data.toList.length = s.size := by simp
  obtain ⟨m, hm⟩ : ∃ m, wordLen s.data.toList = m := ⟨_, rfl⟩
  have hwn := wordLen_name _ hne
  rw [hm, hlen] at hwn
  have hle : s.size ≤ 24 := by omega
  have HE : Hid (r = (!kw s.data.toList && decide (m = s.size))) := Lib.hid (by
    rw [← HR.out]
    unfold isName
    have : nameBytes s.data.toList = decide (m = s.size) := by rw [Bool.eq_iff_iff, ← hwn]; simp
    rw [this]
    simp [h0, hle])
  have HM := Lib.hid hm
  clear hwn hm
  go_wp2_with (rw [hct])
  refine (word_any _ _ _ hit hne).mono ?_
  rintro e w1 ⟨rfl, rfl⟩
  rw [HM.out]
  by_cases hms : m = s.size
  · subst hms
    go_wp2_with fail
    refine (refKeyword_any _ s).mono ?_
    rintro e w2 ⟨rfl, rfl⟩
    obtain ⟨k, hk⟩ : ∃ k, kw s.data.toList = k := ⟨_, rfl⟩
    have he := HE.out
    rw [hk] at he ⊢
    simp only [decide_true, Bool.and_true] at he
    have HE2 := Lib.hid he
    clear he hk
    cases k with
    | true =>
      go_wp2_with fail
      go_ret
      exact ⟨by rw [HE2.out]; rfl, hbt⟩
    | false =>
      go_wp2_with fail
      go_ret
      exact ⟨by rw [HE2.out]; rfl, hbt⟩
  · have hmi : ((m : Int) == (s.size : Int)) = false := by simp; omega
    have he := HE.out
    rw [decide_eq_false hms, Bool.and_false] at he
    have HE2 := Lib.hid he
    clear he
    go_wp2_with fail
    go_ret
    exact ⟨by rw [HE2.out]; rfl, hbt⟩
end Go.Proofs.Ytihohhjaomoemaa
