/- The laws' helpers of chapter 13: cells that stay, valid, the contracts in a walk's state. -/
import Derived.Test.YtfpkibfofainaaaZRd
import Derived.Test.YtfpkibfofainaaaZOpenF
import Derived.Test.YtfpkibfofainaaaZGB
set_option linter.unusedVariables false
set_option linter.unusedSimpArgs false
namespace Go.Proofs.Ytfpkibfofainaaa
open Go.RowKit

section
variable {w0 W : World} {fs : List (World → Prop)}
theorem read_c (h : St w0 W [] fs) {bv : Value} {l : List UInt8} {i : Int} (hb : IsBytes W bv l) (hl : l.length ≤ 1099511627776) {g : Fc} {a c : Int} (hr : rdFc l i = (g, a, c)) :
    Calls Try.prog 16 #[bv, .int .i64 i] W fun e w' => ∃ vb vq, e = .returned (.tuple #[g.val (.slice vb g.fields.length vq), .int .i64 a, .int .i64 c]) ∧ St w0 w' [] ((IsVals · (.slice vb g.fields.length vq) g.fields) :: fs) := by
  have := factRead_any W bv l i hb hl
  rw [hr] at this
  exact this.mono fun e w' ⟨vb, vq, h1, h2, h3⟩ => ⟨vb, vq, h1, (h.call h3).keep (Mono.seq rdVal_up _ _) h2⟩
end
theorem bulk_len (l : List Vl) : 4 * l.length ≤ (l.map Vl.bulk).sum := by
  induction l with
  | nil => simp
  | cons v t ih => simp only [List.map_cons, List.sum_cons, List.length_cons, Vl.bulk]; omega
theorem fits_of {f : Fc} (hok : f.Ok) (hb : f.bulk ≤ 1048576) : f.Fits ∧ f.Ints ∧ f.src.size ≤ 1048576 ∧ f.table.size ≤ 1048576 ∧ f.key.size ≤ 1048576 ∧ f.fields.length ≤ 262144 := by
  obtain ⟨h1, h2, h3, h4, -⟩ := hok
  have hl := bulk_len f.fields
  unfold Fc.bulk at hb
  have hI : f.Ints := ⟨h1, h2, h3, h4⟩
  refine ⟨⟨hI, ?_, ?_, ?_, ?_⟩, hI, ?_, ?_, ?_, ?_⟩ <;> omega
theorem enc_le_f {f : Fc} (hok : f.Ok) (hb : f.bulk ≤ 1048576) : 0 < f.enc.length ∧ f.enc.length ≤ 33554432 := by
  obtain ⟨-, hI, s1, s2, s3, s4⟩ := fits_of hok hb
  have t1 := encT_le f.src s1
  have t2 := encT_le f.table s2
  have t3 := encT_le f.key s3
  have i1 := encI_le hI.1
  have i2 := encI_le hI.2.1
  have i3 := encI_le hI.2.2.1
  have i4 := encI_le hI.2.2.2
  have hu := Wire.encU_len10 (n := f.fields.length) (by omega)
  have hup := Wire.encU_pos f.fields.length
  have hv := encVs_le f.fields f.fields.length (Nat.le_refl _)
  rw [List.take_length] at hv
  unfold Fc.enc
  simp only [List.length_append]
  omega

set_option maxRecDepth 8000 in
set_option maxHeartbeats 4000000 in
theorem validF_any (w : World) (f : Fc) (vb : Option Addr) (vq : Nat) (hv : IsVals w (.slice vb f.fields.length vq) f.fields) :
    Calls Try.prog 14 #[f.val (.slice vb f.fields.length vq)] w fun e w' => e = .returned (.bool f.valid) ∧ Below w.heap.size w w' := by
  obtain ⟨r, hr⟩ : ∃ r, f.valid = r := ⟨_, rfl⟩
  rw [hr]
  have HR := Lib.hid hr
  clear hr
  obtain ⟨fs, fq, fk, fr, ft, fy, fe, fl⟩ := f
  simp only [Fc.val, Fc.cellsA] at *
  obtain ⟨n, hn⟩ : ∃ n, fl.length = n := ⟨_, rfl⟩
  have hn63 : n ≤ 9223372036854775807 := by obtain ⟨_, _, e, q1, q2, -⟩ := hv.shape; unfold maxLen at q2; omega
  rw [hn] at hv ⊢
  have HN := Lib.hid hn
  clear hn
  have h0 := ((St.start w).putOld (P := (IsVals · (.slice vb n vq) fl)) (Mono.seq rdVal_up _ _) hv).boxC #[.string fs, .int .i64 fq, .int .i64 fk, .int .i64 fr, .string ft, .string fy, .int .i64 fe, .slice vb n vq] 27
  clear hv
  go_enter Try.func14, Try.ntmps14
  go_wp2_with fail
  go_loopw [3] (fun c wr => ∃ k : Nat, k ≤ n ∧ c = .int .i64 k ∧ (∀ i (h : i < fl.length), i < k → (fl[i]).check = 0) ∧ St w wr [] [IsCells w.heap.size #[.string fs, .int .i64 fq, .int .i64 fk, .int .i64 fr, .string ft, .string fy, .int .i64 fe, .slice vb n vq], (IsVals · (.slice vb n vq) fl)]) (fun c _ => n - (intOf c).toNat)
  case atStart => exact ⟨0, by omega, rfl, fun i _ h => absurd h (Nat.not_lt_zero _), h0⟩
  case round =>
    clear h0
    obtain ⟨k, hk, rfl, hno, hst⟩ := hrel
    have HNO := Lib.hid hno
    clear hno
    obtain ⟨c0, c1, c2, c3, c4, c5, c6, c7⟩ := (hst.is 0 rfl : IsCells _ _ _).c8
    by_cases hlt : k < n
    · have hkl : k < fl.length := by rw [HN.out]; exact hlt
      obtain ⟨g1, o1, x0', x1', x2', rfl, hrow, x0, x1, x2⟩ := (hst.is 1 rfl : IsVals _ _ _).row3 k hkl
      obtain ⟨⟨ak, an, sa⟩, hae⟩ : ∃ v, fl[k] = v := ⟨_, rfl⟩
      rw [hae] at hrow
      simp only [rdVal, Vl.cells, List.cons.injEq, and_true] at hrow
      obtain ⟨rfl, rfl, rfl⟩ := hrow
      have HAE := Lib.hid hae
      clear hae
      go_wp2_with fail
      refine (Calls.sV hst (valCheck_any _ ⟨ak, an, sa⟩)).mono ?_
      rintro e w3 ⟨rfl, h3⟩
      obtain ⟨c, hc⟩ : ∃ c, Vl.check ⟨ak, an, sa⟩ = c := ⟨_, rfl⟩
      rw [hc]
      have HC := Lib.hid hc
      clear hc x0 x1 x2 c0 c1 c2 c3 c4 c5 c6 c7 hst
      by_cases h0 : c = 0
      · subst h0
        go_wp2_with fail
        go_roundw
        case rel =>
          refine ⟨k + 1, by omega, by go_num, fun i hi h => ?_, h3⟩
          rcases Nat.lt_succ_iff_lt_or_eq.1 h with h | rfl
          · exact HNO.out i hi h
          · rw [HAE.out]; exact HC.out
        case measure => simp [intOf]; omega
      · have hr : r = false := by
          rw [← HR.out]
          unfold Fc.valid
          rw [List.all_eq_false]
          exact ⟨fl[k], List.getElem_mem hkl, by rw [HAE.out, HC.out]; simpa using h0⟩
        have n1 := bne_of h0
        have HR2 := Lib.hid hr
        clear hr
        go_wp2_with fail
        go_ret
        exact ⟨by rw [HR2.out]; rfl, h3.below⟩
    · obtain rfl : k = n := by omega
      have hr : r = true := by
        rw [← HR.out]
        unfold Fc.valid
        rw [List.all_eq_true]
        intro x hx
        obtain ⟨i, hi, rfl⟩ := List.getElem_of_mem hx
        simpa using HNO.out i hi (by rw [← HN.out]; exact hi)
      have HR2 := Lib.hid hr
      clear hr
      go_wp2_with fail
      go_ret
      exact ⟨by rw [HR2.out]; rfl, hst.below⟩
end Go.Proofs.Ytfpkibfofainaaa
