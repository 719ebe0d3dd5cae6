/- Names and keywords: plain, and the walks over lexer.Keyword and lexer.Name. -/
import Derived.Test.YtfpkibfofainaaaChecked
import Derived.Test.YtfpkibfofainaaaShelf
import Derived.Test.YtfpkibfofainaaaZValC
import Derived.Lib.IndexMore
import Derived.Lib.IndexAny
set_option linter.unusedVariables false
set_option linter.unusedSimpArgs false
namespace Go.Proofs.Ytfpkibfofainaaa
open Go.RowKit

def words : List UInt8 := [32, 116, 97, 98, 108, 101, 32, 102, 101, 97, 116, 117, 114, 101, 32, 111, 102, 32, 107, 101, 101, 112, 32, 98, 111, 111, 108, 32, 116, 101, 120, 116, 32, 107, 101, 121, 32, 105, 110, 116, 32, 100, 101, 99, 32, 105, 102, 32, 116, 104, 101, 110, 32, 101, 108, 115, 101, 32, 100, 101, 102, 97, 117, 108, 116, 32, 111, 114, 32, 97, 110, 100, 32, 110, 111, 116, 32, 116, 114, 117, 101, 32, 102, 97, 108, 115, 101, 32, 110, 117, 108, 108, 32, 99, 111, 117, 110, 116, 32, 115, 117, 109, 32, 109, 101, 97, 110, 32, 109, 105, 110, 32, 109, 97, 120, 32, 102, 105, 114, 115, 116, 32, 108, 97, 115, 116, 32, 100, 105, 115, 116, 105, 110, 99, 116, 32, 113, 117, 97, 110, 116, 105, 108, 101, 32, 100, 101, 99, 97, 121, 32, 97, 108, 108, 32, 115, 108, 105, 100, 105, 110, 103, 32, 116, 117, 109, 98, 108, 105, 110, 103, 32, 115, 101, 115, 115, 105, 111, 110, 32, 119, 104, 101, 114, 101, 32]
/-- The word that ends at the next blank. -/
def headWord : List UInt8 → Option (List UInt8)
  | [] => none
  | c :: t => if c = 32 then some [] else (headWord t).map (c :: ·)
def wordsOf : List UInt8 → List (List UInt8)
  | [] => []
  | c :: t => if c = 32 then (match headWord t with | some x => x :: wordsOf t | none => wordsOf t) else wordsOf t
def kwords : List (List UInt8) := [[116, 97, 98, 108, 101], [102, 101, 97, 116, 117, 114, 101], [111, 102], [107, 101, 101, 112], [98, 111, 111, 108], [116, 101, 120, 116], [107, 101, 121], [105, 110, 116], [100, 101, 99], [105, 102], [116, 104, 101, 110], [101, 108, 115, 101], [100, 101, 102, 97, 117, 108, 116], [111, 114], [97, 110, 100], [110, 111, 116], [116, 114, 117, 101], [102, 97, 108, 115, 101], [110, 117, 108, 108], [99, 111, 117, 110, 116], [115, 117, 109], [109, 101, 97, 110], [109, 105, 110], [109, 97, 120], [102, 105, 114, 115, 116], [108, 97, 115, 116], [100, 105, 115, 116, 105, 110, 99, 116], [113, 117, 97, 110, 116, 105, 108, 101], [100, 101, 99, 97, 121], [97, 108, 108], [115, 108, 105, 100, 105, 110, 103], [116, 117, 109, 98, 108, 105, 110, 103], [115, 101, 115, 115, 105, 111, 110], [119, 104, 101, 114, 101]]
theorem kwords_eq : wordsOf words = kwords := by decide +kernel
def kw (s : List UInt8) : Bool := decide (s ∈ kwords)
theorem headWord_iff : ∀ (l s : List UInt8), 32 ∉ s → ((s ++ [32]).isPrefixOf l = true ↔ headWord l = some s)
  | [], s, _ => by cases s <;> simp [headWord, List.isPrefixOf]
  | c :: t, [], _ => by
    simp only [headWord, List.nil_append, List.isPrefixOf]
    by_cases h : c = 32
    · subst h; simp
    · simp [h, Ne.symm h]
  | c :: t, x :: s, hs => by
    simp only [List.mem_cons, not_or] at hs
    have ih := headWord_iff t s hs.2
    simp only [headWord, List.cons_append, List.isPrefixOf, Bool.and_eq_true, beq_iff_eq]
    by_cases h : c = 32
    · subst h
      simp only [if_pos]
      constructor
      · rintro ⟨h1, _⟩; exact absurd h1.symm hs.1
      · intro h1; cases h1
    · rw [if_neg h]
      constructor
      · rintro ⟨rfl, h2⟩
        rw [ih.1 h2]; rfl
      · intro h1
        cases hq : headWord t with
        | none => rw [hq] at h1; cases h1
        | some y =>
          rw [hq] at h1
          simp only [Option.map_some, Option.some.injEq, List.cons.injEq] at h1
          obtain ⟨rfl, rfl⟩ := h1
          exact ⟨rfl, ih.2 hq⟩
theorem contains_cons (b : UInt8) (l sub : List UInt8) : Lib.contains (b :: l) sub = (sub.isPrefixOf (b :: l) || Lib.contains l sub) := by
  unfold Lib.contains
  have h := Lib.index_ge l sub
  rw [Lib.index]
  by_cases hp : sub.isPrefixOf (b :: l) = true
  · rw [if_pos hp, hp]; simp
  · rw [if_neg hp]
    simp only [Bool.not_eq_true] at hp
    rw [hp, Bool.false_or]
    by_cases hq : Lib.index l sub = -1
    · simp [hq]
    · have : (Lib.index l sub == -1) = false := by simp [hq]
      rw [this]
      simp only [Bool.false_eq_true, if_false]
      congr 1
      rw [eq_iff_iff]
      omega
theorem contains_words (s : List UInt8) (hs : 32 ∉ s) : ∀ l, Lib.contains l (32 :: (s ++ [32])) = true ↔ s ∈ wordsOf l
  | [] => by simp [Lib.contains, Lib.index, wordsOf]
  | c :: t => by
    rw [contains_cons, Bool.or_eq_true, contains_words s hs t]
    simp only [List.isPrefixOf, Bool.and_eq_true, beq_iff_eq, wordsOf]
    by_cases h : c = 32
    · subst h
      rw [if_pos rfl, headWord_iff t s hs]
      cases hq : headWord t with
      | none => simp
      | some x => simp [eq_comm]
    · rw [if_neg h]
      constructor
      · rintro (⟨h1, _⟩ | h1)
        · exact absurd h1.symm h
        · exact h1
      · exact .inr
theorem kw_eq (s : List UInt8) : kw s = (!s.isEmpty && (!decide (0 ≤ Lib.indexByte s 32) && Lib.contains words (32 :: (s ++ [32])))) := by
  have h0 : decide (0 ≤ Lib.indexByte s 32) = s.contains 32 := (Lib.contains_iff_indexByte s 32).symm
  rw [h0, Bool.eq_iff_iff]
  unfold kw
  rw [decide_eq_true_eq]
  have hk : ∀ x ∈ kwords, x ≠ [] ∧ 32 ∉ x := by decide +kernel
  by_cases h32 : 32 ∈ s
  · constructor
    · intro h; exact absurd h32 (hk s h).2
    · intro h
      simp [h32] at h
  · rw [← kwords_eq, ← contains_words s h32]
    constructor
    · intro h
      have := (hk s (by rw [← kwords_eq]; exact (contains_words s h32 _).1 h)).1
      simp [h32, h, this]
    · intro h
      simp at h
      exact h.2.2
/-- Is a string a name? -/
def nameByte (i : Nat) (c : UInt8) : Bool := (decide (97 ≤ c.toNat) && decide (c.toNat ≤ 122)) || (decide (0 < i) && ((decide (48 ≤ c.toNat) && decide (c.toNat ≤ 57)) || decide (c.toNat = 95)))
def nameBytes (l : List UInt8) : Bool := (List.range l.length).all fun i => nameByte i (l.getD i 0)
def isName (s : ByteArray) : Bool := decide (s.size ≠ 0) && decide (s.size ≤ 24) && !kw s.data.toList && nameBytes s.data.toList

set_option maxRecDepth 8000 in
theorem keyword_any (w : World) (s : ByteArray) (hs : s.size ≤ 24) (hm : HasMax w) : Calls Try.prog 84 #[.string s] w fun e w' => e = .returned (.bool (kw s.data.toList)) ∧ w' = w := by
  obtain ⟨r, hr⟩ : ∃ r, kw s.data.toList = r := ⟨_, rfl⟩
  have HR := Lib.hid hr
  rw [hr]
  clear hr
  go_enter Try.func84, Try.ntmps84
  by_cases h0 : s.size = 0
  · obtain rfl := size_zero h0
    have hr : r = false := by rw [← HR.out]; decide +kernel
    have HR2 := Lib.hid hr
    clear hr
    go_wp2_with fail
    go_ret
    exact ⟨by rw [HR2.out]; rfl, rfl⟩
  have h0' := toList_ne h0
  go_wp2_with fail
  refine (strings_Contains_one s 32 w).mono ?_
  rintro e w1 ⟨rfl, rfl⟩
  have hne : s.data.toList.isEmpty = false := by rw [← ByteArray.toList_eq]; exact h0'
  by_cases h1 : 0 ≤ Lib.indexByte s.data.toList 32
  · have hr : r = false := by rw [← HR.out, kw_eq]; simp [h1]
    have HR2 := Lib.hid hr
    rw [decide_eq_true h1]
    clear hr h1
    go_wp2_with fail
    go_ret
    exact ⟨by rw [HR2.out]; rfl, rfl⟩
  · have hr : r = Lib.contains words (32 :: (s.data.toList ++ [32])) := by rw [← HR.out, kw_eq, hne, decide_eq_false h1]; simp
    have HR2 := Lib.hid hr
    rw [decide_eq_false h1]
    clear hr h1
    go_wp2_with fail
    refine (contains_any _ _ _ (by decide) hm).mono ?_
    rintro e w2 ⟨rfl, rfl⟩
    have e2 : ((⟨#[32]⟩ : ByteArray) ++ s ++ ⟨#[32]⟩).data.toList = 32 :: (s.data.toList ++ [32]) := by simp
    rw [e2]
    have e3 := HR2.out.symm
    have e4 : ∀ x : List UInt8, x = words → Lib.contains x (32 :: (s.data.toList ++ [32])) = r := fun x hx => by rw [hx, e3]
    rw [e4]
    · clear e2 e3 e4
      go_wp2_with fail
      go_ret
      exact ⟨rfl, rfl⟩
    · rfl

theorem nameBytes_take (l : List UInt8) : nameBytes l = true ↔ ∀ i (h : i < l.length), nameByte i l[i] = true := by
  unfold nameBytes
  rw [List.all_eq_true]
  constructor
  · intro h i hi
    have := h i (List.mem_range.2 hi)
    rw [List.getD_eq_getElem?_getD, List.getElem?_eq_getElem hi] at this
    exact this
  · intro h i hi
    have hi' := List.mem_range.1 hi
    rw [List.getD_eq_getElem?_getD, List.getElem?_eq_getElem hi']
    exact h i hi'

set_option maxRecDepth 8000 in
set_option maxHeartbeats 4000000 in
theorem name_any (w : World) (s : ByteArray) (hm : HasMax w) : Calls Try.prog 67 #[.string s] w fun e w' => e = .returned (.bool (isName s)) ∧ w' = w := by
  obtain ⟨r, hr⟩ : ∃ r, isName s = r := ⟨_, rfl⟩
  have HR := Lib.hid hr
  rw [hr]
  clear hr
  go_enter Try.func67, Try.ntmps67
  by_cases h0 : s.size = 0
  · obtain rfl := size_zero h0
    have hr : r = false := by rw [← HR.out]; rfl
    have HR2 := Lib.hid hr
    clear hr
    go_wp2_with fail
    go_ret
    exact ⟨by rw [HR2.out]; rfl, rfl⟩
  have h0' := toList_ne h0
  by_cases h24 : 24 < s.size
  · have hr : r = false := by rw [← HR.out]; simp [isName]; intro _ h; omega
    have HR2 := Lib.hid hr
    have h24i : (24 : Int) < (s.size : Int) := by omega
    clear hr
    go_wp2_with fail
    go_ret
    exact ⟨by rw [HR2.out]; rfl, rfl⟩
  have h24i : ¬ (24 : Int) < (s.size : Int) := by omega
  go_wp2_with fail
  refine (keyword_any _ s (by omega) hm).mono ?_
  rintro e w1 ⟨rfl, rfl⟩
  obtain ⟨k, hk⟩ : ∃ k, kw s.data.toList = k := ⟨_, rfl⟩
  rw [hk]
  have hle : s.size ≤ 24 := by omega
  have hr : r = (!k && nameBytes s.data.toList) := by rw [← HR.out]; unfold isName; rw [hk]; simp [h0, hle]
  have HR2 := Lib.hid hr
  clear hr hk
  cases k with
  | true =>
    go_wp2_with fail
    go_ret
    exact ⟨by rw [HR2.out]; rfl, rfl⟩
  | false =>
    go_wp2_with fail
    go_loop [18] (fun c => ∃ j : Nat, j ≤ s.size ∧ c = .int .i64 j ∧ ∀ i (h : i < s.size), i < j → nameByte i s[i] = true) (fun c => s.size - (intOf c).toNat)
    case atStart => exact ⟨0, by omega, rfl, fun i _ h => absurd h (Nat.not_lt_zero _)⟩
    case round =>
      obtain ⟨j, hj, rfl, hok⟩ := hrel
      have HOK := Lib.hid hok
      clear hok
      by_cases hlt : j < s.size
      · obtain ⟨y, hy⟩ : ∃ y, s[j] = y := ⟨_, rfl⟩
        have HY := Lib.hid hy
        have hy8 := y.toNat_lt
        rcases (show (y.toNat ≤ 47) ∨ (48 ≤ y.toNat ∧ y.toNat ≤ 57) ∨ (58 ≤ y.toNat ∧ y.toNat ≤ 94) ∨ (y.toNat = 95) ∨ (y.toNat = 96) ∨ (97 ≤ y.toNat ∧ y.toNat ≤ 122) ∨ (123 ≤ y.toNat) from by omega) with hc | hc | hc | hc | hc | hc | hc
        · have a1 : ¬ (97 : Int) ≤ (y.toNat : Int) := by omega
          have a2 : (y.toNat : Int) ≤ 122 := by omega
          have a3 : ¬ (48 : Int) ≤ (y.toNat : Int) := by omega
          have a4 : (y.toNat : Int) ≤ 57 := by omega
          have a5 : ((y.toNat : Int) == 95) = false := by simp; omega
          by_cases hj0 : j = 0
          · subst hj0
            have hb : nameBytes s.data.toList = false := by
              rw [Bool.eq_false_iff]
              intro h
              have h1 := (nameBytes_take _).1 h 0 (by simpa using hlt)
              have he : s.data.toList[0]'(by simpa using hlt) = s[0] := by simp; rfl
              rw [he, HY.out] at h1
              simp [nameByte] at h1
              omega
            have HB := Lib.hid hb
            clear hb
            go_wp2_with fail
            all_goals
              go_ret
              exact ⟨by rw [HR2.out, HB.out]; rfl, rfl⟩
          · have hj1 : (0 : Int) < (j : Int) := by omega
            have hb : nameBytes s.data.toList = false := by
              rw [Bool.eq_false_iff]
              intro h
              have h1 := (nameBytes_take _).1 h j (by simpa using hlt)
              have he : s.data.toList[j]'(by simpa using hlt) = s[j] := by simp; rfl
              rw [he, HY.out] at h1
              simp [nameByte] at h1
              omega
            have HB := Lib.hid hb
            clear hb
            go_wp2_with fail
            all_goals
              go_ret
              exact ⟨by rw [HR2.out, HB.out]; rfl, rfl⟩
        · have a1 : ¬ (97 : Int) ≤ (y.toNat : Int) := by omega
          have a2 : (y.toNat : Int) ≤ 122 := by omega
          have a3 : (48 : Int) ≤ (y.toNat : Int) := by omega
          have a4 : (y.toNat : Int) ≤ 57 := by omega
          have a5 : ((y.toNat : Int) == 95) = false := by simp; omega
          by_cases hj0 : j = 0
          · subst hj0
            have hb : nameBytes s.data.toList = false := by
              rw [Bool.eq_false_iff]
              intro h
              have h1 := (nameBytes_take _).1 h 0 (by simpa using hlt)
              have he : s.data.toList[0]'(by simpa using hlt) = s[0] := by simp; rfl
              rw [he, HY.out] at h1
              simp [nameByte] at h1
              omega
            have HB := Lib.hid hb
            clear hb
            go_wp2_with fail
            all_goals
              go_ret
              exact ⟨by rw [HR2.out, HB.out]; rfl, rfl⟩
          · have hj1 : (0 : Int) < (j : Int) := by omega
            have hg : ∀ i (h : i < s.size), i < j + 1 → nameByte i s[i] = true := fun i h hi => by
              rcases Nat.lt_succ_iff_lt_or_eq.1 hi with hi | rfl
              · exact HOK.out i h hi
              · rw [HY.out]; simp [nameByte]; omega
            have HG := Lib.hid hg
            clear hg
            go_wp2_with fail
            all_goals
              go_round
              case rel => exact ⟨j + 1, by omega, by go_num, HG.out⟩
              case measure => simp [intOf]; omega
        · have a1 : ¬ (97 : Int) ≤ (y.toNat : Int) := by omega
          have a2 : (y.toNat : Int) ≤ 122 := by omega
          have a3 : (48 : Int) ≤ (y.toNat : Int) := by omega
          have a4 : ¬ (y.toNat : Int) ≤ 57 := by omega
          have a5 : ((y.toNat : Int) == 95) = false := by simp; omega
          by_cases hj0 : j = 0
          · subst hj0
            have hb : nameBytes s.data.toList = false := by
              rw [Bool.eq_false_iff]
              intro h
              have h1 := (nameBytes_take _).1 h 0 (by simpa using hlt)
              have he : s.data.toList[0]'(by simpa using hlt) = s[0] := by simp; rfl
              rw [he, HY.out] at h1
              simp [nameByte] at h1
              omega
            have HB := Lib.hid hb
            clear hb
            go_wp2_with fail
            all_goals
              go_ret
              exact ⟨by rw [HR2.out, HB.out]; rfl, rfl⟩
          · have hj1 : (0 : Int) < (j : Int) := by omega
            have hb : nameBytes s.data.toList = false := by
              rw [Bool.eq_false_iff]
              intro h
              have h1 := (nameBytes_take _).1 h j (by simpa using hlt)
              have he : s.data.toList[j]'(by simpa using hlt) = s[j] := by simp; rfl
              rw [he, HY.out] at h1
              simp [nameByte] at h1
              omega
            have HB := Lib.hid hb
            clear hb
            go_wp2_with fail
            all_goals
              go_ret
              exact ⟨by rw [HR2.out, HB.out]; rfl, rfl⟩
        · have a1 : ¬ (97 : Int) ≤ (y.toNat : Int) := by omega
          have a2 : (y.toNat : Int) ≤ 122 := by omega
          have a3 : (48 : Int) ≤ (y.toNat : Int) := by omega
          have a4 : ¬ (y.toNat : Int) ≤ 57 := by omega
          have a5 : ((y.toNat : Int) == 95) = true := by simp; omega
          by_cases hj0 : j = 0
          · subst hj0
            have hb : nameBytes s.data.toList = false := by
              rw [Bool.eq_false_iff]
              intro h
              have h1 := (nameBytes_take _).1 h 0 (by simpa using hlt)
              have he : s.data.toList[0]'(by simpa using hlt) = s[0] := by simp; rfl
              rw [he, HY.out] at h1
              simp [nameByte] at h1
              omega
            have HB := Lib.hid hb
            clear hb
            go_wp2_with fail
            all_goals
              go_ret
              exact ⟨by rw [HR2.out, HB.out]; rfl, rfl⟩
          · have hj1 : (0 : Int) < (j : Int) := by omega
            have hg : ∀ i (h : i < s.size), i < j + 1 → nameByte i s[i] = true := fun i h hi => by
              rcases Nat.lt_succ_iff_lt_or_eq.1 hi with hi | rfl
              · exact HOK.out i h hi
              · rw [HY.out]; simp [nameByte]; omega
            have HG := Lib.hid hg
            clear hg
            go_wp2_with fail
            all_goals
              go_round
              case rel => exact ⟨j + 1, by omega, by go_num, HG.out⟩
              case measure => simp [intOf]; omega
        · have a1 : ¬ (97 : Int) ≤ (y.toNat : Int) := by omega
          have a2 : (y.toNat : Int) ≤ 122 := by omega
          have a3 : (48 : Int) ≤ (y.toNat : Int) := by omega
          have a4 : ¬ (y.toNat : Int) ≤ 57 := by omega
          have a5 : ((y.toNat : Int) == 95) = false := by simp; omega
          by_cases hj0 : j = 0
          · subst hj0
            have hb : nameBytes s.data.toList = false := by
              rw [Bool.eq_false_iff]
              intro h
              have h1 := (nameBytes_take _).1 h 0 (by simpa using hlt)
              have he : s.data.toList[0]'(by simpa using hlt) = s[0] := by simp; rfl
              rw [he, HY.out] at h1
              simp [nameByte] at h1
              omega
            have HB := Lib.hid hb
            clear hb
            go_wp2_with fail
            all_goals
              go_ret
              exact ⟨by rw [HR2.out, HB.out]; rfl, rfl⟩
          · have hj1 : (0 : Int) < (j : Int) := by omega
            have hb : nameBytes s.data.toList = false := by
              rw [Bool.eq_false_iff]
              intro h
              have h1 := (nameBytes_take _).1 h j (by simpa using hlt)
              have he : s.data.toList[j]'(by simpa using hlt) = s[j] := by simp; rfl
              rw [he, HY.out] at h1
              simp [nameByte] at h1
              omega
            have HB := Lib.hid hb
            clear hb
            go_wp2_with fail
            all_goals
              go_ret
              exact ⟨by rw [HR2.out, HB.out]; rfl, rfl⟩
        · have a1 : (97 : Int) ≤ (y.toNat : Int) := by omega
          have a2 : (y.toNat : Int) ≤ 122 := by omega
          have a3 : (48 : Int) ≤ (y.toNat : Int) := by omega
          have a4 : ¬ (y.toNat : Int) ≤ 57 := by omega
          have a5 : ((y.toNat : Int) == 95) = false := by simp; omega
          have hg : ∀ i (h : i < s.size), i < j + 1 → nameByte i s[i] = true := fun i h hi => by
            rcases Nat.lt_succ_iff_lt_or_eq.1 hi with hi | rfl
            · exact HOK.out i h hi
            · rw [HY.out]; simp [nameByte]; omega
          have HG := Lib.hid hg
          clear hg
          go_wp2_with fail
          all_goals
            go_round
            case rel => exact ⟨j + 1, by omega, by go_num, HG.out⟩
            case measure => simp [intOf]; omega
        · have a1 : (97 : Int) ≤ (y.toNat : Int) := by omega
          have a2 : ¬ (y.toNat : Int) ≤ 122 := by omega
          have a3 : (48 : Int) ≤ (y.toNat : Int) := by omega
          have a4 : ¬ (y.toNat : Int) ≤ 57 := by omega
          have a5 : ((y.toNat : Int) == 95) = false := by simp; omega
          by_cases hj0 : j = 0
          · subst hj0
            have hb : nameBytes s.data.toList = false := by
              rw [Bool.eq_false_iff]
              intro h
              have h1 := (nameBytes_take _).1 h 0 (by simpa using hlt)
              have he : s.data.toList[0]'(by simpa using hlt) = s[0] := by simp; rfl
              rw [he, HY.out] at h1
              simp [nameByte] at h1
              omega
            have HB := Lib.hid hb
            clear hb
            go_wp2_with fail
            all_goals
              go_ret
              exact ⟨by rw [HR2.out, HB.out]; rfl, rfl⟩
          · have hj1 : (0 : Int) < (j : Int) := by omega
            have hb : nameBytes s.data.toList = false := by
              rw [Bool.eq_false_iff]
              intro h
              have h1 := (nameBytes_take _).1 h j (by simpa using hlt)
              have he : s.data.toList[j]'(by simpa using hlt) = s[j] := by simp; rfl
              rw [he, HY.out] at h1
              simp [nameByte] at h1
              omega
            have HB := Lib.hid hb
            clear hb
            go_wp2_with fail
            all_goals
              go_ret
              exact ⟨by rw [HR2.out, HB.out]; rfl, rfl⟩
      · obtain rfl : j = s.size := by omega
        have hall : nameBytes s.data.toList = true := (nameBytes_take _).2 fun i hi => by
          have hi' : i < s.size := by simpa using hi
          have := HOK.out i hi' hi'
          have he : s.data.toList[i] = s[i] := by simp; rfl
          rw [he]; exact this
        have HA := Lib.hid hall
        clear hall
        go_wp2_with fail
        all_goals
          go_ret
          exact ⟨by rw [HR2.out, HA.out]; rfl, rfl⟩
end Go.Proofs.Ytfpkibfofainaaa
