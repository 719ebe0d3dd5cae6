/- The walk over FactsReadBack. -/
import Derived.Test.YtfpkibfofainaaaLw
set_option linter.unusedVariables false
set_option linter.unusedSimpArgs false
namespace Go.Proofs.Ytfpkibfofainaaa
open Go.RowKit

set_option maxRecDepth 8000 in
set_option maxHeartbeats 4000000 in
theorem readBack_walk (w : World) (hm : HasMax w) (bv : Value) (b : List UInt8) (hb : IsBytes w bv b) (hbl : b.length ≤ 1048576) (f : Fc) (fb : Option Addr) (fc : Nat) (hf : IsVals w (.slice fb f.fields.length fc) f.fields) (hok : f.Ok) (hfl : f.bulk ≤ 1048576) (tv : Value) (t : List UInt8) (ht : IsBytes w tv t) (htl : t.length ≤ 1048576) (cut : Int) (hcut : -9223372036854775808 ≤ cut ∧ cut ≤ 9223372036854775807) :
    Calls Try.prog 3 #[bv, f.val (.slice fb f.fields.length fc), tv, .int .i64 cut] w fun e w' => e = .returned (.bool true) ∧ Below w.heap.size w w' := by
  obtain ⟨bb, bc, rfl, -⟩ := hb.out
  obtain ⟨hcut1, hcut2⟩ := hcut
  obtain ⟨hfit, hI, s1, s2, s3, s4⟩ := fits_of hok hfl
  obtain ⟨e1, e2⟩ := enc_le_f hok hfl
  have hap := fun w l bv hb hv hl => factAppend_any w bv l f fb fc hb hv hI hl s1 s2 s3 (by omega)
  have hvd := fun w hv => validF_any w f fb fc hv
  have hat := fun hv p t l hl => rdFc_at (f := f) hv hfit p t l hl
  have hct := fun hv p j hj => rdFc_cut (f := f) hv hfit p j hj
  have hsm := fun w gb gc ha hb => same_any w f f fb gb fc gc ha hb
  obtain ⟨E, hE⟩ : ∃ E, f.enc = E := ⟨_, rfl⟩
  obtain ⟨vd, hvdd⟩ : ∃ d, f.valid = d := ⟨_, rfl⟩
  rw [hE] at e1 e2 hap hat hct
  rw [hvdd] at hvd hat hct
  clear hE hvdd hfit hI s1 s2 s3 s4 hok hfl
  obtain ⟨fs, fq, fk, fr, ft, fy, fe, fl⟩ := f
  simp only [Fc.val, Fc.cellsA] at *
  obtain ⟨fn, hfn⟩ : ∃ n, fl.length = n := ⟨_, rfl⟩
  obtain ⟨m, hm'⟩ : ∃ m, b.length = m := ⟨_, rfl⟩
  obtain ⟨ne, hne⟩ : ∃ n, E.length = n := ⟨_, rfl⟩
  obtain ⟨nx, hnx⟩ : ∃ n, (b ++ E).length = n := ⟨_, rfl⟩
  obtain ⟨X, hX⟩ : ∃ X, b ++ E = X := ⟨_, rfl⟩
  have hnm : nx = m + ne := by rw [← hnx, List.length_append, hm', hne]
  rw [hfn] at hf hap hvd hsm ⊢
  rw [hm'] at hb hbl ⊢
  rw [hne] at e1 e2 hct
  rw [hX] at hnx
  have h0 := ((((St.start w).putOld (P := (IsBytes · tv t)) (Mono.bytes _ _) ht).putOld (P := (IsVals · (.slice fb fn fc) fl)) (Mono.seq rdVal_up _ _) hf).putOld (P := (IsBytes · (.slice bb m bc) b)) (Mono.bytes _ _) hb).boxC #[.string fs, .int .i64 fq, .int .i64 fk, .int .i64 fr, .string ft, .string fy, .int .i64 fe, .slice fb fn fc] 27
  clear hb hf ht
  have HNM := Lib.hid hnm
  clear hnm
  have HX := Lib.hid (And.intro hX (And.intro hnx hm'))
  have HAP := Lib.hid hap
  have HVD := Lib.hid hvd
  have HAT := Lib.hid hat
  have HCT := Lib.hid hct
  have HSM := Lib.hid hsm
  have HFN := Lib.hid hfn
  clear hX hnx hap hvd hat hct hsm hfn hm' hne
  go_enter Try.func3, Try.ntmps3
  go_wp2_with fail
  refine (Calls.sV h0 (example_any _ (hm.below h0.below rfl))).mono ?_
  rintro e w1 ⟨rfl, h1⟩
  clear h0
  obtain ⟨c0, c1, c2, c3, c4, c5, c6, c7⟩ := (h1.is 0 rfl : IsCells _ _ _).c8
  go_wp2_with fail
  refine (Calls.sV h1 (HVD.out _ (h1.is 2 rfl))).mono ?_
  rintro e w2 ⟨rfl, h2⟩
  clear c0 c1 c2 c3 c4 c5 c6 c7 h1
  cases vd with
  | false =>
    go_wp2_with fail
    go_ret
    exact ⟨rfl, h2.below⟩
  | true =>
    obtain ⟨c0, c1, c2, c3, c4, c5, c6, c7⟩ := (h2.is 0 rfl : IsCells _ _ _).c8
    go_wp2_with fail
    refine (Calls.sNS (m := nx) h2 (show (b ++ E).length = nx by rw [HX.out.1]; exact HX.out.2.1) (HAP.out _ b _ (h2.is 1 rfl) (h2.is 2 rfl) (by rw [HX.out.2.2]; omega))).mono ?_
    rintro e w3 ⟨xb, xc, rfl, hxc, h3⟩
    rw [HX.out.1] at h3
    clear h2 c0 c1 c2 c3 c4 c5 c6 c7
    have ho0 := OwnBytes.made 5 w3 w3.heap.size (Nat.le_refl _)
    have hb0 : Below w3.heap.size w3 (w3.alloc (.cells #[] 5)) := (Below.refl _ _).alloc (Nat.le_refl _) _
    have hx0 := (h3.is 0 rfl : IsBytes _ _ _).below hb0 rfl
    have hXl : X.length ≤ 34603009 := by have := HX.out.2.1; have := HNM.out; omega
    go_wp2_with (first
      | (at_builtin; refine wpList_append_bytes rfl (.tmp 23) (.tmp 24) 22 22 rfl w3.heap.size 5 Try.underlying22 byte_info _ [] rfl ho0 _ X rfl (hx0.src Try.underlying22) (by simp only [List.length_nil]; omega) hb0.size ?_; intro v3 w1 ho1 hg1; have hb1 := Below.grown hb0 hg1 hb0.size (fun k hk => (World.ownsRow.lt ho0 k hk).1); rw [List.nil_append] at ho1)
      | (at_builtin; refine wpList_append_bytes rfl (.tmp 25) (.tmp 26) 22 22 rfl w3.heap.size 5 Try.underlying22 byte_info _ X rfl ho1 _ t rfl (((h3.is 4 rfl : IsBytes _ _ _).below hb1 rfl).src Try.underlying22) (by omega) hb1.size ?_; intro v4 w5 ho5 hg5; have hb5 := Below.grown hb1 hg5 hb1.size (fun k hk => (World.ownsRow.lt ho1 k hk).1)))
    have h5 := (h3.call hb5).putOwn ho5 h3.lt
    clear hx0 h3 ho5 ho1 ho0 hb5 hb1 hb0
    have hrd := HAT.out (by simp) b t (X ++ t) (by rw [HX.out.1])
    rw [HX.out.1, HX.out.2.2, HX.out.2.1] at hrd
    refine (read_c h5 (h5.is 0 rfl) (by rw [List.length_append]; omega) hrd).mono ?_
    rintro e w6 ⟨gb, gc, rfl, h6⟩
    simp only [Fc.val, Fc.cellsA] at h6 ⊢
    rw [HFN.out] at h6 ⊢
    clear h5 hrd
    go_upto_region 7 with (refine wpList_store_row rfl 27 (.tmp 12) (.tmp 33) rfl w6.heap.size #[.string fs, .int .i64 fq, .int .i64 fk, .int .i64 fr, .string ft, .string fy, .int .i64 fe, .slice gb fn gc] rfl rfl 27 _ (heap_alloc_new _ _) fact_info rfl (fact_one _ _ _ _ _ _ _ _ _ _) ?_)
    have h7 := h6.newC #[.string ⟨#[]⟩, .int .i64 0, .int .i64 0, .int .i64 0, .string ⟨#[]⟩, .string ⟨#[]⟩, .int .i64 0, .slice none 0 0] #[.string fs, .int .i64 fq, .int .i64 fk, .int .i64 fr, .string ft, .string fy, .int .i64 fe, .slice gb fn gc] 27
    generalize World.setRow _ _ _ = W7 at h7 ⊢
    generalize w6.heap.size = g7 at h7 ⊢
    clear h6
    obtain ⟨c0, c1, c2, c3, c4, c5, c6, c7⟩ := (h7.is 4 rfl : IsCells _ _ _).c8
    obtain ⟨d0, d1, d2, d3, d4, d5, d6, d7⟩ := (h7.is 0 rfl : IsCells _ _ _).c8
    have hlt : ¬ (nx : Int) ≤ (m : Int) := by have := HNM.out; omega
    go_wp2_with fail
    refine (Calls.sV h7 (HSM.out _ gb gc (h7.is 6 rfl) (h7.is 1 rfl))).mono ?_
    rintro e w8 ⟨rfl, h8⟩
    simp only [decide_true]
    clear c0 c1 c2 c3 c4 c5 c6 c7 d0 d1 d2 d3 d4 d5 d6 d7 h7
    obtain ⟨k, hk, hc⟩ : ∃ k : Nat, (k : Int) ≤ 9223372036854775807 ∧ (cut = -(k : Int) - 1 ∨ cut = (k : Int)) := by
      by_cases hs : cut < 0
      · exact ⟨(-(cut + 1)).toNat, by omega, .inl (by omega)⟩
      · exact ⟨cut.toNat, by omega, .inr (by omega)⟩
    obtain ⟨r, hr, hrlt⟩ : ∃ r : Nat, k % ne = r ∧ r < ne := ⟨_, rfl, Nat.mod_lt _ e1⟩
    obtain ⟨mr, hmr⟩ : ∃ q : Nat, m + r = q := ⟨_, rfl⟩
    have hsub : (nx : Int) - (m : Int) = (ne : Int) := by have := HNM.out; omega
    have hrem : (k : Int).tmod (ne : Int) = (r : Int) := by rw [← hr]; exact (Int.ofNat_tmod k ne).symm
    have hsum : (m : Int) + (r : Int) = (mr : Int) := by omega
    have hn0 : ¬ ne = 0 := by omega
    have hk2 : -9223372036854775808 ≤ -(k : Int) := by omega
    have hk3 : -(k : Int) ≤ 9223372036854775807 := by omega
    have hmrx : mr ≤ nx := by have := HNM.out; omega
    have hmrc : mr ≤ xc := by have := HNM.out; omega
    have HK := Lib.hid (And.intro hr hmr)
    clear hr hmr
    have hc2 : (cut = -(k : Int) - 1 ∧ -(k : Int) - 1 < 0) ∨ (cut = (k : Int) ∧ ¬ (k : Int) < 0) := by omega
    clear hc
    rcases hc2 with ⟨rfl, hs⟩ | ⟨rfl, hs⟩
    all_goals
      go_wp2_with fail
      have hx8 : IsBytes _ (.slice xb nx xc) X := h8.is 3 rfl
      have hmr := HK.out.2
      have hXl2 : X.length = nx := HX.out.2.1
      have htk := hx8.take mr (by omega)
      have hrd := HCT.out (by simp) b r hrlt
      rw [HX.out.2.2] at hrd
      obtain ⟨gg, ga, ge, hg⟩ : ∃ x y z, rdFc (b ++ E.take r) (m : Int) = (x, y, z) := ⟨_, _, _, rfl⟩
      rw [hg] at hrd
      simp only at hrd
      subst hrd
      have htx : X.take mr = b ++ E.take r := by
        have hbl : b.length = m := HX.out.2.2
        rw [← HX.out.1, ← hmr, List.take_append, List.take_of_length_le (by omega), hbl, Nat.add_sub_cancel_left]
      rw [htx] at htk
      have hl2 : (b ++ E.take r).length ≤ 1099511627776 := by
        have := congrArg List.length htx
        rw [List.length_take] at this
        omega
      refine (read_c h8 htk hl2 hg).mono ?_
      rintro e w9 ⟨gb2, gc2, rfl, h9⟩
      go_wp2_with fail
      go_ret
      exact ⟨rfl, h9.below⟩
end Go.Proofs.Ytfpkibfofainaaa
