/- The walk over FactsTables. -/
import Derived.Test.YtfpkibfofainaaaBases
set_option linter.unusedVariables false
namespace Go.Proofs.Ytfpkibfofainaaa
open Go.RowKit

def aloneOf (tl : List Tb) (f : Fc) : List Tb := match findTb tl f.table with | none => [] | some t => [t]
theorem findTb_name {tl : List Tb} {n : ByteArray} {t : Tb} (h : findTb tl n = some t) : t.name = n := by
  have := List.find?_some h
  simpa using this
theorem tables_plain (tl : List Tb) (f : Fc) : ∃ e m, chk tl f = e ∧ chk [] f = m ∧ chk (aloneOf tl f) f = e ∧
    (((f.kind == 3) = true ∧ e = 1 ∧ m = 1) ∨ ((f.kind == 3) = false ∧ e = 1 ∧ m = 1) ∨ ((f.kind == 3) = true ∧ e = 0 ∧ m = 0) ∨ ((f.kind == 3) = false ∧ findTb tl f.table = none ∧ e = 4 ∧ m = 4) ∨ ((f.kind == 3) = false ∧ findTb tl f.table ≠ none ∧ e = 0 ∧ m = 4) ∨ ((f.kind == 3) = false ∧ findTb tl f.table ≠ none ∧ e = 5 ∧ m = 4)) := by
  refine ⟨_, _, rfl, rfl, ?_, ?_⟩
  · unfold chk aloneOf
    cases hf : findTb tl f.table with
    | none => rfl
    | some t =>
      have := findTb_name hf
      have h2 : findTb [t] f.table = some t := by simp [findTb, this]
      rw [h2]
  · unfold chk
    by_cases h1 : f.formed = false
    · cases hk : (f.kind == 3) <;> simp [h1]
    · by_cases h2 : f.kind = 3
      · simp [h1, h2]
      · have h3 := beq_of h2
        cases hf : findTb tl f.table with
        | none => simp [h1, h2, h3, findTb]
        | some t =>
          simp only [h1, h2, h3, if_false]
          right; right; right; right
          by_cases h4 : f.fields.length = t.fields.length
          · cases h5 : hasAll f.fields t.fields
            · right; simp [h4, h5, findTb]
            · left; simp [h4, h5, findTb]
          · right; simp [h4, findTb]

set_option maxRecDepth 8000 in
set_option maxHeartbeats 4000000 in
theorem tables_walk (w : World) (hm : HasMax w) (tl : List Tb) (b : Option Addr) (q : Nat) (b1 b2 b3 : Option Addr) (n1 n2 n3 q1 q2 q3 : Nat) (ht : IsTbs w (.slice b tl.length q) tl)
    (f : Fc) (fb : Option Addr) (fc : Nat) (hf : IsVals w (.slice fb f.fields.length fc) f.fields) :
    Calls Try.prog 6 #[.agg #[.slice b tl.length q, .slice b1 n1 q1, .slice b2 n2 q2, .slice b3 n3 q3], f.val (.slice fb f.fields.length fc)] w fun e w' => e = .returned (.bool true) ∧ Below w.heap.size w w' := by
  obtain ⟨ee, mm, x1, x2, x3, x4⟩ := tables_plain tl f
  obtain ⟨fs, fq, fk, fr, ft, fy, fe, fl⟩ := f
  simp only at hf x4
  have h0 := ((((St.start w).putOld (P := (IsVals · (.slice fb fl.length fc) fl)) (Mono.seq rdVal_up _ _) hf).putOld (P := (IsTbs · (.slice b tl.length q) tl)) (Mono.seq rdTb_up _ _) ht).alloc
    (.cells #[.slice b tl.length q, .slice b1 n1 q1, .slice b2 n2 q2, .slice b3 n3 q3] 45)).alloc (.cells #[.string fs, .int .i64 fq, .int .i64 fk, .int .i64 fr, .string ft, .string fy, .int .i64 fe, .slice fb fl.length fc] 27)
  simp only [al_size] at h0
  clear ht hf
  obtain ⟨fn, hfn⟩ : ∃ n, fl.length = n := ⟨_, rfl⟩
  obtain ⟨tn, htn⟩ : ∃ n, tl.length = n := ⟨_, rfl⟩
  simp only [Fc.val, Fc.cellsA]
  rw [hfn, htn] at h0
  rw [hfn, htn]
  have hFN := Lib.hid hfn
  have hTN := Lib.hid htn
  clear hfn htn
  have X1 := Lib.hid x1
  have X2 := Lib.hid x2
  have X3 := Lib.hid x3
  have X4 := Lib.hid x4
  clear x1 x2 x3 x4
  go_enter Try.func6, Try.ntmps6
  go_wp2_with fail
  refine (Calls.sV h0 (example_any _ (hm.below h0.below rfl))).mono ?_
  rintro e w1 ⟨rfl, h1⟩
  clear h0
  obtain ⟨c0, c1, c2, c3, c4, c5, c6, c7⟩ := cells8 (h1.at_ 0 rfl)
  obtain ⟨d0, d1, d2, d3⟩ := cells4' (h1.at_ 1 rfl)
  go_wp2_with fail
  refine (check_n h1 hm hTN.out b q _ _ _ ⟨fs, fq, fk, fr, ft, fy, fe, fl⟩ hFN.out fb fc 0 1 rfl rfl).mono ?_
  rintro e w2 ⟨rfl, h2⟩
  rw [X1.out]
  clear h1 c0 c1 c2 c3 c4 c5 c6 c7 d0 d1 d2 d3
  obtain ⟨c0, c1, c2, c3, c4, c5, c6, c7⟩ := cells8 (h2.at_ 0 rfl)
  obtain ⟨d0, d1, d2, d3⟩ := cells4' (h2.at_ 1 rfl)
  go_wp2_with fail
  have htab := table_any w2 (inL (keys [(w.heap.size + 1, .cells #[.string fs, .int .i64 fq, .int .i64 fk, .int .i64 fr, .string ft, .string fy, .int .i64 fe, .slice fb fn fc] 27), (w.heap.size, .cells #[.slice b tn q, .slice b1 n1 q1, .slice b2 n2 q2, .slice b3 n3 q3] 45)])) b q tl (.slice b1 n1 q1) (.slice b2 n2 q2) (.slice b3 n3 q3) ft (by rw [hTN.out]; exact h2.get 0 rfl)
  rw [hTN.out] at htab
  refine htab.mono ?_
  rintro e w3 ⟨bb, qq, rfl, hfd, hb3⟩
  clear htab c0 c1 c2 c3 c4 c5 c6 c7 d0 d1 d2 d3
  have h3 := (h2.call hb3).put (Mono.seq rdFd_up _ _) hfd
  clear h2 hb3 hfd
  obtain ⟨kk, hkk⟩ : ∃ k, (fk == 3) = k := ⟨_, rfl⟩
  have x4 := X4.out
  rw [hkk] at x4
  clear X4
  cases hfind : findTb tl ft with
  | none =>
    rw [hfind] at x4
    have x3 := X3.out
    simp only [aloneOf, hfind] at x3
    have X5 := Lib.hid x3
    clear x3 X3
    rw [hfind] at h3
    rw [show Tb.zero = ⟨⟨#[]⟩, ⟨#[]⟩, [], 0⟩ from rfl] at h3 ⊢
    simp only [Option.getD_none, Tb.row, Option.isSome_none, List.length_nil] at h3 ⊢
    have h4 := ((h3.alloc (.cells #[.string ⟨#[]⟩, .string ⟨#[]⟩, .slice bb 0 qq, .int .i64 0] 51)).alloc (.cells #[.slice none 0 0, .slice none 0 0, .slice none 0 0, .slice none 0 0] 45)).put (P := (IsTbs · (.slice none 0 0) [])) (Mono.seq rdTb_up _ _) (IsSeq.nil _ _ _)
    clear h3
    simp only [al_size] at h4
    obtain ⟨c0, c1, c2, c3, c4, c5, c6, c7⟩ := cells8 (h4.at_ 2 rfl)
    rcases x4 with ⟨rfl, rfl, rfl⟩ | ⟨rfl, rfl, rfl⟩ | ⟨rfl, rfl, rfl⟩ | ⟨rfl, -, rfl, rfl⟩ | ⟨-, hn, -, -⟩ | ⟨-, hn, -, -⟩
    case inr.inr.inr.inr.inl => exact absurd rfl hn
    case inr.inr.inr.inr.inr => exact absurd rfl hn
    all_goals
      go_wp2_with fail
      refine (check_n h4 hm (tl := []) rfl none 0 (.slice none 0 0) (.slice none 0 0) (.slice none 0 0) ⟨fs, fq, fk, fr, ft, fy, fe, fl⟩ hFN.out fb fc 0 3 rfl rfl).mono ?_
      rintro e w4 ⟨rfl, h5⟩
      rw [X5.out]
      obtain ⟨k0, k1, k2, k3, k4, k5, k6, k7⟩ := cells8 (h5.at_ 2 rfl)
      go_wp2_with fail
      refine (check_n h5 hm (tl := []) rfl none 0 (.slice none 0 0) (.slice none 0 0) (.slice none 0 0) ⟨fs, fq, fk, fr, ft, fy, fe, fl⟩ hFN.out fb fc 0 3 rfl rfl).mono ?_
      rintro e w5 ⟨rfl, h6⟩
      rw [X2.out]
      clear k0 k1 k2 k3 k4 k5 k6 k7
      obtain ⟨k0, k1, k2, k3, k4, k5, k6, k7⟩ := cells8 (h6.at_ 2 rfl)
      go_wp2_with fail
      go_ret
      exact ⟨rfl, h6.below⟩
  | some t =>
    obtain ⟨tn', te, tf, tk⟩ := t
    have x3 := X3.out
    simp only [aloneOf, hfind] at x3
    have X5 := Lib.hid x3
    clear x3 X3
    rw [hfind] at h3 x4
    simp only [Option.getD_some, Tb.row, Option.isSome_some] at h3 ⊢
    obtain ⟨tfn, htf⟩ : ∃ n, tf.length = n := ⟨_, rfl⟩
    rw [htf] at h3 ⊢
    have HTF := Lib.hid htf
    clear htf
    have h4 := ((h3.alloc (.cells #[.string tn', .string te, .slice bb tfn qq, .int .i64 tk] 51)).alloc (.cells #[.slice (some ⟨w3.heap.size + 1 + 1, 0, none⟩) 1 1, .slice none 0 0, .slice none 0 0, .slice none 0 0] 45)).alloc (.cells #[.string tn', .string te, .slice bb tfn qq, .int .i64 tk] 51)
    clear h3
    simp only [al_size] at h4
    have hrow := isRow_lit (sz := 4) (n := 1) (h4.at_ 0 rfl) rfl (by unfold maxLen; omega)
    have hlt := h4.nodup
    have h5 := St.loose (os1 := []) h4
    have h6 := h5.put (P := (IsTbs · (.slice (some ⟨w3.heap.size + 1 + 1, 0, none⟩) 1 1) [⟨tn', te, tf, tk⟩])) (Mono.seq rdTb_up _ _) ⟨_, mask_row hrow (fun k hk => by
        have : w3.heap.size + 1 + 1 = k := by cases hk; rfl
        subst this
        simp only [keys, List.map_cons, List.nodup_cons] at hlt
        exact inL_no.2 hlt.1), fun i hi => by
        obtain rfl : i = 0 := by simp at hi; omega
        exact ⟨bb, qq, by simp only [Tb.row, List.getElem_cons_zero, HTF.out]; rfl, by rw [show ([⟨tn', te, tf, tk⟩] : List Tb)[0] = ⟨tn', te, tf, tk⟩ from rfl, HTF.out]; exact h5.get 0 rfl⟩⟩
    clear hrow hlt h5
    obtain ⟨c0, c1, c2, c3, c4, c5, c6, c7⟩ := cells8 (h6.at_ 2 rfl)
    rcases x4 with ⟨rfl, rfl, rfl⟩ | ⟨rfl, rfl, rfl⟩ | ⟨rfl, rfl, rfl⟩ | ⟨-, hn, -, -⟩ | ⟨rfl, -, rfl, rfl⟩ | ⟨rfl, -, rfl, rfl⟩
    case inr.inr.inr.inl => cases hn
    all_goals
      go_wp2_with fail
      refine (check_n h6 hm (tl := [⟨tn', te, tf, tk⟩]) rfl (some ⟨w3.heap.size + 1 + 1, 0, none⟩) 1 (.slice none 0 0) (.slice none 0 0) (.slice none 0 0) ⟨fs, fq, fk, fr, ft, fy, fe, fl⟩ hFN.out fb fc 0 3 rfl rfl).mono ?_
      rintro e w4 ⟨rfl, h7⟩
      rw [X5.out]
      have h8 := h7.put (P := (IsTbs · (.slice none 0 0) [])) (Mono.seq rdTb_up _ _) (IsSeq.nil _ _ _)
      obtain ⟨k0, k1, k2, k3, k4, k5, k6, k7⟩ := cells8 (h8.at_ 2 rfl)
      go_wp2_with fail
      refine (check_n h8 hm (tl := []) rfl none 0 (.slice none 0 0) (.slice none 0 0) (.slice none 0 0) ⟨fs, fq, fk, fr, ft, fy, fe, fl⟩ hFN.out fb fc 0 4 rfl rfl).mono ?_
      rintro e w5 ⟨rfl, h9⟩
      rw [X2.out]
      clear k0 k1 k2 k3 k4 k5 k6 k7
      obtain ⟨k0, k1, k2, k3, k4, k5, k6, k7⟩ := cells8 (h9.at_ 2 rfl)
      go_wp2_with fail
      go_ret
      exact ⟨rfl, h9.below⟩
end Go.Proofs.Ytfpkibfofainaaa
