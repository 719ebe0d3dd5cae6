/- The specification of package wire: what reads. -/
import Derived.Test.YtfpkibfofainaaaZR4A
import Derived.Test.YtfpkibfofainaaaZR4L
import Derived.Test.YtfpkibfofainaaaZGC
set_option linter.unusedVariables false
namespace Go.Proofs.Ytfpkibfofainaaa
open Go.RowKit

theorem refLeft_any (w : World) (v : Value) (l : List UInt8) (i : Int) (hv : IsBytes w v l) (hi : i ≤ 9223372036854775807) :
    Calls Try.prog 77 #[v, .int .i64 i] w fun e w' => e = .returned (.int .i64 (if i < 0 ∨ (l.length : Int) < i then -1 else (l.length : Int) - i)) ∧ w' = w := by
  obtain ⟨bs, q, rfl, hlen, hcap, hnil, -⟩ := hv.out
  unfold maxLen at hcap
  go_enter Try.func77, Try.ntmps77
  by_cases h1 : i < 0
  · rw [if_pos (.inl h1)]
    go_wp2_with fail
    go_ret
    exact ⟨rfl, rfl⟩
  · by_cases h2 : (l.length : Int) < i
    · rw [if_pos (.inr h2)]
      go_wp2_with fail
      go_ret
      exact ⟨rfl, rfl⟩
    · rw [if_neg (by omega)]
      go_wp2_with fail
      go_ret
      exact ⟨rfl, rfl⟩

set_option maxRecDepth 8000 in
set_option maxHeartbeats 4000000 in
theorem refReadUint_any (w : World) (v : Value) (l : List UInt8) (i : Int) (hv : IsBytes w v l) (hi : i ≤ 9223372036854775807) (hll : l.length ≤ 140737488355328) :
    Calls Try.prog 76 #[v, .int .i64 i] w fun e w' => e = .returned (.tuple #[.int .u64 (Wire.readU l i).1, .int .i64 (Wire.readU l i).2.1, .int .i64 (Wire.readU l i).2.2]) ∧ w' = w := by
  obtain ⟨bs, q, rfl, hlen, hcap, hnil, -⟩ := hv.out
  unfold maxLen at hcap
  have HV := Lib.hid hv
  clear hv
  go_enter Try.func76, Try.ntmps76
  go_wp2_with fail
  refine (refLeft_any w _ l i HV.out hi).mono ?_
  rintro e w1 ⟨rfl, rfl⟩
  by_cases hbad : i < 0 ∨ (l.length : Int) < i
  · have hr0 : Wire.readU l i = (0, 0, 1) := by unfold Wire.readU; rw [if_pos hbad]
    have HR0 := Lib.hid hr0
    rw [if_pos hbad]
    clear hbad hr0
    go_wp2_with fail
    go_ret3
    exact ⟨by rw [HR0.out]; rfl, rfl⟩
  rw [if_neg hbad]
  obtain ⟨j, rfl, hj⟩ : ∃ j : Nat, i = (j : Int) ∧ j ≤ l.length := ⟨i.toNat, by omega, by omega⟩
  obtain ⟨t, ht⟩ : ∃ t, l.drop j = t := ⟨_, rfl⟩
  obtain ⟨n, hn⟩ : ∃ n, t.length = n := ⟨_, rfl⟩
  have hjn : l.length = j + n := by rw [← hn, ← ht, List.length_drop]; omega
  have e1 : (l.length : Int) - (j : Int) = (n : Int) := by omega
  rw [e1]
  have hr : Wire.readU l (j : Int) = match Wire.dec t with | .error c => (0, 0, c) | .ok (n, k) => (n, (j : Int) + k, 0) := by
    unfold Wire.readU; rw [if_neg hbad, Int.toNat_natCast, ht]; rfl
  obtain ⟨m, hm⟩ : ∃ m, min n 10 = m := ⟨_, rfl⟩
  have hmi : min (n : Int) 10 = (m : Int) := by omega
  have hm10 : m ≤ 10 := by omega
  have hmn : m ≤ n := by omega
  have HR := Lib.hid (And.intro hr (And.intro ht (And.intro hn hm)))
  clear hr hbad e1 ht hn hm
  have hcell : ∀ k (hk : k < n), ∃ (y : UInt8) (b off : Nat), t[k]? = some y ∧ bs = some ⟨b, off, none⟩ ∧ w1.cell? ⟨b, off + (j + k), none⟩ = some (.int .u8 (y.toNat : Int)) := fun k hk => by
    obtain ⟨_, _, e, -, -, -, hc⟩ := HV.out.out
    cases e
    obtain ⟨b, off, rfl, hx⟩ := hc (j + k) (by omega)
    refine ⟨_, b, off, ?_, rfl, hx⟩
    rw [← HR.out.2.1, List.getElem?_drop, List.getElem?_eq_getElem (by omega)]
  have HC := Lib.hid hcell
  clear hcell
  go_upto_region 4 with fail
  go_cut [8] from 18 to 19 (fun u wx => u = .int .i64 m ∧ wx = w1)
  case first =>
    go_wp2_with fail
    all_goals
      go_meet
      case rel => exact ⟨by simp only [Value.int.injEq, true_and]; omega, rfl⟩
  case rest =>
    obtain ⟨rfl, rfl⟩ := hcut
    go_wp2_with fail
    go_loop [9, 10] (fun lv iv => ∃ k : Nat, k ≤ m ∧ iv = .int .i64 ((k : Int) - 1) ∧ lv = .int .i64 (Wire.lastOf t m k)) (fun _ iv => (intOf iv + 1).toNat)
    case atStart => exact ⟨m, Nat.le_refl _, rfl, by rw [Wire.lastOf_end]⟩
    case round =>
      obtain ⟨k, hk, rfl, rfl⟩ := hrel
      cases k with
      | zero =>
        have hle : Wire.lastOf t m 0 = match Wire.fst128 t 10 with | none => -1 | some j => (j : Int) := by
          have h1 : Wire.fst128 t m = Wire.fst128 t 10 := by rw [← HR.out.2.2.2, ← HR.out.2.2.1]; exact Wire.fst128_min 10 t
          unfold Wire.lastOf
          rw [List.drop_zero, Nat.sub_zero, h1]
          cases Wire.fst128 t 10 <;> simp
        have hdec := Wire.dec_fst t
        rw [show ((0 : Nat) : Int) - 1 = -1 from rfl]
        cases hf : Wire.fst128 t 10 with
        | none =>
          rw [hf] at hle hdec
          simp only at hle hdec
          rw [hle]
          by_cases h10 : n < 10
          · rw [if_pos (by rw [HR.out.2.2.1]; exact h10)] at hdec
            have hr := HR.out.1
            rw [hdec] at hr
            have HR2 := Lib.hid hr
            have h10i : (n : Int) < 10 := by omega
            clear hr hdec hf hle
            go_wp2_with fail
            go_ret3
            exact ⟨by rw [HR2.out]; rfl, rfl⟩
          · rw [if_neg (by rw [HR.out.2.2.1]; exact h10)] at hdec
            have hr := HR.out.1
            rw [hdec] at hr
            have HR2 := Lib.hid hr
            have h10i : ¬ (n : Int) < 10 := by omega
            clear hr hdec hf hle
            go_wp2_with fail
            go_ret3
            exact ⟨by rw [HR2.out]; rfl, rfl⟩
        | some L =>
          rw [hf] at hle hdec
          simp only at hle hdec
          rw [hle]
          obtain ⟨hL10, hLn⟩ := Wire.fst128_lt hf
          rw [HR.out.2.2.1] at hLn
          obtain ⟨y, b, off, hy, rfl, hx⟩ := HC.out L hLn
          have hyd : t.getD L 0 = y := by rw [List.getD_eq_getElem?_getD, hy]; rfl
          rw [hyd] at hdec
          obtain ⟨bad, hbad⟩ : ∃ bad, decide ((L = 9 ∧ 1 < y.toNat) ∨ (0 < L ∧ y.toNat = 0)) = bad := ⟨_, rfl⟩
          have HB := Lib.hid (And.intro hbad hdec)
          clear hbad hdec hf hle hyd
          have i1 : (j : Int) + (L : Int) < (l.length : Int) := by omega
          have i2 : (0 : Int) ≤ (j : Int) + (L : Int) := by omega
          have i3 : ((j : Int) + (L : Int)).toNat = j + L := by omega
          have hy8 := y.toNat_lt
          go_upto_region 13 with fail
          go_cut [66] from 40 to 66 (fun u wx => u = .bool bad ∧ wx = wc)
          case first =>
            by_cases hL9 : L = 9
            · subst hL9
              by_cases h1 : 1 < y.toNat
              · have h1i : (1 : Int) < (y.toNat : Int) := by omega
                go_wp2_with fail
                go_meet
                case rel => exact ⟨by rw [← HB.out.1]; simp [h1], rfl⟩
              · by_cases h0 : y.toNat = 0
                · have h1i : ¬ (1 : Int) < (y.toNat : Int) := by omega
                  go_wp2_with fail
                  go_meet
                  case rel => exact ⟨by rw [← HB.out.1]; simp [h0], rfl⟩
                · have h1i : ¬ (1 : Int) < (y.toNat : Int) := by omega
                  have h0i : ¬ (y.toNat : Int) = 0 := by omega
                  go_wp2_with fail
                  go_meet
                  case rel => exact ⟨by rw [← HB.out.1]; simp [h1, h0], rfl⟩
            · have hL9i : ¬ (L : Int) = 9 := by omega
              by_cases hL0 : L = 0
              · subst hL0
                go_wp2_with fail
                go_meet
                case rel => exact ⟨by rw [← HB.out.1]; simp, rfl⟩
              · have hL0i : (0 : Int) < (L : Int) := by omega
                by_cases h0 : y.toNat = 0
                · have h0i : (y.toNat : Int) = 0 := by omega
                  go_wp2_with fail
                  go_meet
                  case rel => exact ⟨by rw [← HB.out.1]; simp [h0, hL9]; omega, rfl⟩
                · have h0i : ¬ (y.toNat : Int) = 0 := by omega
                  go_wp2_with fail
                  go_meet
                  case rel => exact ⟨by rw [← HB.out.1]; simp [h0, hL9], rfl⟩
          case rest =>
            obtain ⟨rfl, rfl⟩ := hcut
            cases bad with
            | true =>
              have hr := HR.out.1
              rw [HB.out.2, if_pos (of_decide_eq_true HB.out.1)] at hr
              have HR2 := Lib.hid hr
              clear hr
              go_wp2_with fail
              go_ret3
              exact ⟨by rw [HR2.out]; rfl, rfl⟩
            | false =>
              have hr := HR.out.1
              rw [HB.out.2, if_neg (of_decide_eq_false HB.out.1)] at hr
              obtain ⟨tt, htt⟩ : ∃ tt, t.take (L + 1) = tt := ⟨_, rfl⟩
              have hd := Wire.dec_ok (HB.out.2.trans (if_neg (of_decide_eq_false HB.out.1)))
              rw [htt] at hr hd
              have httl : tt.length = L + 1 := by rw [← htt, List.length_take, HR.out.2.2.1]; omega
              have hd64 := hd.1
              have HR2 := Lib.hid (And.intro hr (And.intro htt httl))
              clear hr hd htt httl
              go_wp2_with fail
              go_loop [11, 12] (fun nv iv => ∃ k : Nat, k ≤ L + 1 ∧ iv = .int .i64 ((k : Int) - 1) ∧ nv = .int .u64 (Wire.horner (tt.drop k) : Nat)) (fun _ iv => (intOf iv + 1).toNat)
              case atStart => exact ⟨L + 1, Nat.le_refl _, by congr 1; omega, by rw [List.drop_of_length_le (by rw [HR2.out.2.2]; omega)]; rfl⟩
              case round =>
                obtain ⟨k, hk, rfl, rfl⟩ := hrel
                cases k with
                | zero =>
                  rw [show ((0 : Nat) : Int) - 1 = -1 from rfl, List.drop_zero]
                  go_wp2_with fail
                  go_ret3
                  refine ⟨?_, rfl⟩
                  rw [HR2.out.1]
                  simp only
                  congr 3
                  all_goals (first | done | (push_cast; omega))
                | succ k =>
                  rw [show ((k + 1 : Nat) : Int) - 1 = (k : Int) from by omega]
                  have hkl : k < tt.length := by rw [HR2.out.2.2]; omega
                  have hst := Wire.horner_step tt k hkl
                  have hle := Nat.lt_of_le_of_lt (Wire.horner_le tt k) hd64
                  obtain ⟨y2, b2, off2, hy2, e2, hx2⟩ := HC.out k (by omega)
                  have ey : tt[k] = y2 := by
                    have h1 : tt[k]? = some y2 := by rw [← HR2.out.2.1, List.getElem?_take_of_lt (by omega), hy2]
                    exact (List.getElem?_eq_some_iff.1 h1).2
                  rw [ey] at hst
                  obtain ⟨h2, hh2⟩ : ∃ h2, Wire.horner (tt.drop (k + 1)) = h2 := ⟨_, rfl⟩
                  obtain ⟨h3, hh3⟩ : ∃ h3, Wire.horner (tt.drop k) = h3 := ⟨_, rfl⟩
                  rw [hh2] at hst ⊢
                  rw [hh3] at hst hle
                  have HST := Lib.hid (And.intro hst hh3)
                  have j1 : (j : Int) + (k : Int) < (l.length : Int) := by omega
                  have j2 : (0 : Int) ≤ (j : Int) + (k : Int) := by omega
                  have j3 : ((j : Int) + (k : Int)).toNat = j + k := by omega
                  have hy28 := y2.toNat_lt
                  have i5 : (h2 : Int) * 128 + (y2.toNat : Int) % 128 < 18446744073709551616 := by omega
                  have i6 : (h2 : Int) * 128 < 18446744073709551616 := by omega
                  cases e2
                  clear hst hh2 hh3 hle hy2 ey
                  go_wp2_with fail
                  go_round
                  case rel => exact ⟨k, by omega, rfl, by rw [HST.out.2, HST.out.1]; push_cast; rfl⟩
                  case measure => simp [intOf]
      | succ k =>
        obtain ⟨y, b, off, hy, rfl, hx⟩ := HC.out k (by omega)
        rw [show ((k + 1 : Nat) : Int) - 1 = (k : Int) from by omega]
        have hst := Wire.lastOf_step (t := t) (m := m) (k := k) (by omega) (by rw [HR.out.2.2.1]; omega)
        rw [(List.getElem?_eq_some_iff.1 hy).2] at hst
        obtain ⟨la, hla⟩ : ∃ la, Wire.lastOf t m (k + 1) = la := ⟨_, rfl⟩
        rw [hla] at hst ⊢
        have HST := Lib.hid hst
        clear hst hla hy
        have i1 : (j : Int) + (k : Int) < (l.length : Int) := by omega
        have i2 : (0 : Int) ≤ (j : Int) + (k : Int) := by omega
        have i3 : ((j : Int) + (k : Int)).toNat = j + k := by omega
        have hy8 := y.toNat_lt
        by_cases h128 : y.toNat < 128
        · have h128i : (y.toNat : Int) < 128 := by omega
          go_wp2_with fail
          go_round
          case rel => exact ⟨k, by omega, rfl, by rw [HST.out, if_pos h128]⟩
          case measure => simp [intOf]
        · have h128i : ¬ (y.toNat : Int) < 128 := by omega
          go_wp2_with fail
          go_round
          case rel => exact ⟨k, by omega, rfl, by rw [HST.out, if_neg h128]⟩
          case measure => simp [intOf]

set_option maxHeartbeats 1000000 in
theorem refReadInt_any (w : World) (v : Value) (l : List UInt8) (i : Int) (hv : IsBytes w v l) (hi : i ≤ 9223372036854775807) (hll : l.length ≤ 140737488355328) :
    Calls Try.prog 75 #[v, .int .i64 i] w fun e w' => e = .returned (.tuple #[.int .i64 (Wire.readI l i).1, .int .i64 (Wire.readI l i).2.1, .int .i64 (Wire.readI l i).2.2]) ∧ w' = w := by
  obtain ⟨n, x, c, hr⟩ : ∃ n x c, Wire.readU l i = (n, x, c) := ⟨_, _, _, rfl⟩
  have hI : Wire.readI l i = if c = 0 then (Wire.zag n, x, 0) else (0, 0, c) := by unfold Wire.readI; rw [hr]
  have hn64 : n < 2 ^ 64 := by
    rcases readU_cases l i with ⟨c', _, h⟩ | ⟨j, m, n', _, _, _, h, hn, _⟩
    · rw [hr] at h; cases h; decide
    · rw [hr] at h; cases h; exact hn
  have HI := Lib.hid hI
  clear hI
  go_enter Try.func75, Try.ntmps75
  go_wp2_with fail
  refine (refReadUint_any w v l i hv hi hll).mono ?_
  rintro e w1 ⟨rfl, rfl⟩
  rw [hr]
  clear hr
  by_cases hc : c = 0
  · subst hc
    have h2 := HI.out
    rw [if_pos rfl] at h2
    have HI2 := Lib.hid h2
    clear h2
    by_cases hodd : n % 2 = 1
    · have ho : (n : Int) % 2 = 1 := by omega
      go_wp2_with fail
      go_ret3
      refine ⟨?_, rfl⟩
      rw [HI2.out]
      simp only [Wire.zag, if_pos hodd]
      congr 3
      all_goals (first | done | (push_cast; omega))
    · have ho : ¬ (n : Int) % 2 = 1 := by omega
      go_wp2_with fail
      go_ret3
      refine ⟨?_, rfl⟩
      rw [HI2.out]
      simp only [Wire.zag, if_neg hodd]
      congr 3
      all_goals (first | done | (push_cast; omega))
  · have h2 := HI.out
    rw [if_neg hc] at h2
    have HI2 := Lib.hid h2
    clear h2
    go_wp2_with fail
    go_ret3
    exact ⟨by rw [HI2.out]; rfl, rfl⟩

theorem readT_err {l : List UInt8} {i c : Int} (h : Wire.readU l i = (0, 0, c)) (hc : c ≠ 0) : Wire.readT l i = ([], 0, c) := by
  unfold Wire.readU at h
  unfold Wire.readT Wire.decT
  split at h
  · rename_i hb
    rw [if_pos hb]
    cases h; rfl
  · rename_i hb
    rw [if_neg hb]
    cases hd : Wire.dec (l.drop i.toNat) with
    | error c' => rw [hd] at h; cases h; rfl
    | ok nk => rw [hd] at h; simp only [Prod.mk.injEq] at h; exact absurd h.2.2.symm hc
theorem readU_dec {l : List UInt8} {j m n : Nat} (h : Wire.readU l (j : Int) = (n, (m : Int), 0)) (hjm : j < m) : ¬ ((j : Int) < 0 ∨ (l.length : Int) < (j : Int)) ∧ Wire.dec (l.drop j) = .ok (n, m - j) := by
  unfold Wire.readU at h
  split at h
  · cases h
  · rename_i hb
    refine ⟨hb, ?_⟩
    rw [Int.toNat_natCast] at h
    cases hd : Wire.dec (l.drop j) with
    | error c' => rw [hd] at h; simp only [Prod.mk.injEq] at h; omega
    | ok nk =>
      rw [hd] at h
      simp only [Prod.mk.injEq] at h
      obtain ⟨h1, h2, -⟩ := h
      congr 1
      refine Prod.ext h1 ?_
      show nk.2 = m - j
      omega
theorem readT_ok {l : List UInt8} {j m n : Nat} (h : Wire.readU l (j : Int) = (n, (m : Int), 0)) (hjm : j < m) (hm : m ≤ l.length) : Wire.readT l (j : Int) = if l.length - m < n then ([], 0, 41) else ((l.drop m).take n, ((m + n : Nat) : Int), 0) := by
  obtain ⟨hb, hd⟩ := readU_dec h hjm
  unfold Wire.readT Wire.decT
  rw [if_neg hb, Int.toNat_natCast, hd]
  simp only [List.length_drop]
  have e : l.length - j - (m - j) = l.length - m := by omega
  rw [e]
  by_cases hs : l.length - m < n
  · rw [if_pos hs, if_pos hs]
  · rw [if_neg hs, if_neg hs]
    simp only
    rw [List.drop_drop, show j + (m - j) = m by omega]
    congr 2
    omega
end Go.Proofs.Ytfpkibfofainaaa
