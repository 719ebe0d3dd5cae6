/- The walk over FactsStreams. -/
import Derived.Test.YtfpkibfofainaaaStr13
set_option linter.unusedVariables false
set_option linter.unusedSimpArgs false
namespace Go.Proofs.Ytfpkibfofainaaa
open Go.RowKit

theorem wrap64 {n : Nat} (h : (n : Int) < 18446744073709551616) : IntKind.u64.wrap (n : Int) = (n : Int) := by
  simp [IntKind.wrap, IntKind.bits, IntKind.signed]
  omega
theorem wrap64i {n : Nat} (h : (n : Int) < 9223372036854775808) : IntKind.u64.wrap (IntKind.i64.wrap (n : Int)) = (n : Int) := by
  simp [IntKind.wrap, IntKind.bits, IntKind.signed]
  omega

set_option maxRecDepth 8000 in
set_option maxHeartbeats 8000000 in
theorem streams_walk (w : World) (hm : HasMax w) (lv : Value) (l : List Fc) (hl : IsFcs w lv l) (hok : ∀ a ∈ l, a.Ok) (hb : (l.map Fc.bulk).sum ≤ 1048576) :
    Calls Try.prog 4 #[lv] w fun e w' => e = .returned (.bool true) ∧ Below w.heap.size w w' := by
  obtain ⟨lb, lq, rfl, -⟩ := hl.shape
  obtain ⟨n, hnn⟩ : ∃ n, l.length = n := ⟨_, rfl⟩
  have hn := len_le l hb
  rw [hnn] at hn hl ⊢
  have h0 := (St.start w).putOld (P := (IsFcs · (.slice lb n lq) l)) (Mono.seq rdF_up _ _) hl
  have HN := Lib.hid hnn
  have HOK := Lib.hid (And.intro hok (And.intro hb (strm_le l hok hb)))
  clear hl hnn hok hb
  go_enter Try.func4, Try.ntmps4
  go_wp2_with fail
  refine (Calls.sV h0 (example_any _ (hm.below h0.below rfl))).mono ?_
  rintro e w1 ⟨rfl, h1⟩
  clear h0
  go_wp2_with fail
  go_loopw [4, 5] (fun bv iv wr => ∃ k : Nat, k ≤ n ∧ iv = .int .i64 k ∧ (∀ i (h : i < l.length), i < k → (l[i]).valid = true) ∧ St w wr [] [(IsBytes · bv (strm (l.take k))), (IsFcs · (.slice lb n lq) l)]) (fun _ iv _ => n - (intOf iv).toNat)
  case atStart => exact ⟨0, by omega, rfl, fun i _ h => absurd h (Nat.not_lt_zero _), h1.put (Mono.bytes _ _) (by simpa [strm] using IsBytes.none _)⟩
  case round =>
    rename_i bv iv wr
    clear h1
    obtain ⟨k, hk, rfl, hv, hst⟩ := hrel
    have HV := Lib.hid hv
    clear hv
    by_cases hlt : k < n
    · have hkl : k < l.length := by rw [HN.out]; exact hlt
      obtain ⟨g1, o1, vb, vq, rfl, hvs, hrg⟩ := (hst.is 1 rfl : IsFcs _ _ _).fcs k hkl
      have hoka := HOK.out.1 _ (List.getElem_mem hkl)
      have hba := bulk_at l HOK.out.2.1 k hkl
      obtain ⟨hfit, hI, s1, s2, s3, s4⟩ := fits_of hoka hba
      have hel := (enc_le20 hoka hba)
      have hs2 := strm_take l k hkl
      have hsl := strm_take_le l k
      have hs3 := HOK.out.2.2
      have hs4 := HOK.out.2.1
      obtain ⟨a, ha⟩ : ∃ a, l[k] = a := ⟨_, rfl⟩
      rw [ha] at hvs hrg hoka hba hfit hI s1 s2 s3 s4 hel hs2
      have hap := fun w p pv hb hv hl => factAppend_any w pv p a vb vq hb hv hI hl s1 s2 s3 (by omega)
      have hvd := fun w hv => validF_any w a vb vq hv
      unfold Fc.frame at hs2
      rw [← List.append_assoc] at hs2
      obtain ⟨S, hS⟩ : ∃ S, strm (l.take k) = S := ⟨_, rfl⟩
      obtain ⟨E, hE⟩ : ∃ E, a.enc = E := ⟨_, rfl⟩
      obtain ⟨vd, hvdd⟩ : ∃ d, a.valid = d := ⟨_, rfl⟩
      obtain ⟨ne, hne⟩ : ∃ n, E.length = n := ⟨_, rfl⟩
      rw [hS] at hs2 hsl hst
      rw [hE] at hap hel hs2
      rw [hne] at hs2 hel
      rw [hvdd] at hvd
      have hel2 : ne ≤ 20971520 := by omega
      have hSl : S.length ≤ 22020096 := by omega
      have hu10 := Wire.encU_len10 (n := ne) (by omega)
      have hvk : vd = true → ∀ i (h : i < l.length), i < k + 1 → (l[i]).valid = true := fun h i hi hik => by
        rcases Nat.lt_succ_iff_lt_or_eq.1 hik with h' | rfl
        · exact HV.out i hi h'
        · rw [ha, hvdd, h]
      have HVK := Lib.hid hvk
      have HS2 := Lib.hid hs2
      have HAP := Lib.hid hap
      have HVD := Lib.hid hvd
      have HNE := Lib.hid hne
      clear hvk hs2 hap hvd hne hE hS hvdd ha hfit hI s1 s2 s3 s4 hel hoka hba hsl hs3 hs4 hkl
      obtain ⟨fs, fq, fk, fr, ft, fy, fe, fl⟩ := a
      simp only [Fc.val, Fc.cellsA] at *
      obtain ⟨fn, hfn⟩ : ∃ n, fl.length = n := ⟨_, rfl⟩
      rw [hfn] at hvs hrg HAP HVD
      clear hfn
      have h2 := (hst.keep (Mono.seq rdVal_up _ _) hvs).keep (Mono.range _ _ _) hrg
      clear hst hvs hrg
      go_wp2_with (refine wpList_load_mid rfl 27 (.tmp 24) rfl g1 (o1 + k * 8) rfl [.string fs, .int .i64 fq, .int .i64 fk, .int .i64 fr, .string ft, .string fy, .int .i64 fe, .slice vb fn vq] _ (h2.is 0 rfl) Try.underlying27 rfl rfl ?_)
      refine (Calls.sV h2 (HVD.out _ (h2.is 1 rfl))).mono ?_
      rintro e w3 ⟨rfl, h3⟩
      clear h2
      cases vd with
      | false =>
        go_wp2_with fail
        go_ret
        exact ⟨rfl, h3.below⟩
      | true =>
        have HV1 := Lib.hid (HVK.out rfl)
        have hu1 : (ne : Int) < 18446744073709551616 := by omega
        go_wp2_with (refine wpList_load_mid rfl 27 (.tmp 31) rfl g1 (o1 + k * 8) rfl [.string fs, .int .i64 fq, .int .i64 fk, .int .i64 fr, .string ft, .string fy, .int .i64 fe, .slice vb fn vq] _ (h3.is 0 rfl) Try.underlying27 rfl rfl ?_)
        refine (Calls.sNS (m := ne) (x := E) h3 HNE.out (by have := HAP.out _ [] _ (IsBytes.none w3) (h3.is 1 rfl) (by simp); rwa [List.nil_append] at this)).mono ?_
        rintro e w4 ⟨ob, oc, rfl, -, h4⟩
        clear h3
        go_upto_region 9 with fail
        refine wp_region_st [pVal ?c9_0, pVal ?c9_1, pVal ?c9_2, pVal ?c9_3, pNew w.heap.size (S ++ Wire.encU ne), pVal ?c9_5, pVal ?c9_6, pVal ?c9_7, pVal (.agg #[.string fs, .int .i64 fq, .int .i64 fk, .int .i64 fr, .string ft, .string fy, .int .i64 fe, .slice vb fn vq]), pNew w.heap.size (S ++ Wire.encU ne ++ E), pNew w.heap.size (S ++ Wire.encU ne ++ E)] (osC []) 95 [0, 0, 2, 6, 15, 0, 0, 96, 224, 511, 1023] [[], [], [(1, 35)], [(2, 36)], [(3, 37), (0, 34)], [], [], [(6, 40), (5, 39)], [(7, 41)], [(8, 42), (4, 38)], [(9, 43)]] [(0, 34), (1, 35), (2, 36), (3, 37), (4, 38), (5, 39), (6, 40), (7, 41), (8, 42), (9, 43), (10, 4)] (by kernel_rfl) (by kernel_rfl) rfl rfl h4 osC0 osC1 ?ob ?en
        case ob =>
          refine ⟨?_, ?_, ?_, ?_, ?_, ?_, ?_, ?_, ?_, ?_, ?_, trivial⟩
          · -- 0: t34 := Op.move (t4)
            intro zx1 zx2 zx3 zx4 L V W hL hd hw hst 
            refine ob_c rfl ?_ hst rfl
            go_simp
            try with_reducible rfl
          · -- 1: t35 := Op.move (t6)
            intro zx1 zx2 zx3 zx4 L V W hL hd hw hst 
            refine ob_c rfl ?_ hst rfl
            go_simp
            try with_reducible rfl
          · -- 2: t36 := Op.call { callee := builtin Builtin.len, args := #[t35], argTypes := #[22] }
            intro zx1 zx2 zx3 zx4 L V W hL hd hw hst u1 e1 p1
            obtain rfl : u1 = _ := p1
            refine ob_c rfl ?_ hst rfl
            go_simp
            try with_reducible rfl
          · -- 3: t37 := Op.convert 3 38 (t36)
            intro zx1 zx2 zx3 zx4 L V W hL hd hw hst u2 e2 p2
            obtain rfl : u2 = _ := p2
            refine ob_c rfl ?_ hst rfl
            go_simp
            try with_reducible rfl
          · -- 4: t38 := Op.call { callee := value (func 18), args := #[t34, t37], argTypes := #[22, 38] }
            intro zx1 zx2 zx3 zx4 L V W hL hd hw hst u0 e0 p0 u3 e3 p3
            obtain rfl : u0 = _ := p0
            obtain rfl : u3 = _ := p3
            refine ob_call rfl ?_ (Calls.pO hst (appendUint_any _ _ S ne (by omega) ((hst.base 3 rfl : IsBytes _ _ _).sub (mask_is _ _)) (by omega)))
            go_simp
            try exact wrap64 hu1
          · -- 5: t39 := Op.move (t0)
            intro zx1 zx2 zx3 zx4 L V W hL hd hw hst 
            refine ob_c rfl ?_ hst rfl
            go_simp
            try with_reducible rfl
          · -- 6: t40 := Op.move (t5)
            intro zx1 zx2 zx3 zx4 L V W hL hd hw hst 
            refine ob_c rfl ?_ hst rfl
            go_simp
            try with_reducible rfl
          · -- 7: t41 := Op.indexAddr 36 (t39) (t40)
            intro zx1 zx2 zx3 zx4 L V W hL hd hw hst u5 e5 p5 u6 e6 p6
            obtain rfl : u5 = _ := p5
            obtain rfl : u6 = _ := p6
            refine ob_c rfl ?_ hst rfl
            go_simp
            try with_reducible rfl
          · -- 8: t42 := Op.load 27 (t41)
            intro zx1 zx2 zx3 zx4 L V W hL hd hw hst u7 e7 p7
            obtain rfl : u7 = _ := p7
            exact ob_c rfl (run_load_mid rfl rfl ((hst.base 1 rfl : World.rangeAt _ _ _ _) |> Mono.range _ _ _ _ _ (mask_is _ _)) Try.underlying27 rfl rfl) hst rfl
          · -- 9: t43 := Op.call { callee := value (func 15), args := #[t38, t42], argTypes := #[22, 27] }
            intro zx1 zx2 zx3 zx4 L V W hL hd hw hst u4 e4 p4 u8 e8 p8
            have hb4 := p4
            obtain rfl : u8 = _ := p8
            refine ob_call rfl ?_ (Calls.pN hst (HAP.out _ _ _ (hb4.1.sub (mask_is _ _)) ((hst.base 2 rfl : IsVals _ _ _).sub rdVal_up (mask_is _ _)) (by rw [List.length_append]; omega)))
            go_simp
            try rfl
          · -- 10: t4 := Op.assign (t43)
            intro zx1 zx2 zx3 zx4 L V W hL hd hw hst u9 e9 p9
            have hb9 := p9
            refine ob_v u9 rfl ?_ hst rfl hb9
            go_simp
        case en =>
          intro V W hst u0 e0 p0 u1 e1 p1 u2 e2 p2 u3 e3 p3 u4 e4 p4 u5 e5 p5 u6 e6 p6 u7 e7 p7 u8 e8 p8 u9 e9 p9 u10 e10 p10
          obtain rfl : u0 = _ := p0
          obtain rfl : u1 = _ := p1
          obtain rfl : u2 = _ := p2
          obtain rfl : u3 = _ := p3
          have hb4 := p4
          obtain rfl : u5 = _ := p5
          obtain rfl : u6 = _ := p6
          obtain rfl : u7 = _ := p7
          obtain rfl : u8 = _ := p8
          have hb9 := p9
          have hb10 := p10
          simp only [EndAll, Act.put, List.getElem_toArray, List.getElem_cons_succ, List.getElem_cons_zero, List.setIfInBounds_toArray, List.set_cons_zero, List.set_cons_succ]
          rw [show osC [] (fun _ => true) V = [] from rfl] at hst
          have h5 := (hst.facts (fs' := [(IsFcs · (.slice (some ⟨g1, o1, none⟩) n lq) l)]) (fun P hP => by simp only [List.mem_cons, List.not_mem_nil, or_false] at hP ⊢; subst hP; simp)).keep (Mono.bytes _ _) (hb10.1.sub (mask_is _ _))
          rw [← HS2.out] at h5
          clear hst hb4 hb9 hb10 e0 e1 e2 e3 e4 e5 e6 e7 e8 e9 e10 h4
          go_wp2_with fail
          go_roundw
          case rel => exact ⟨k + 1, by omega, by go_num, fun i hi hik => HV1.out i hi hik, h5⟩
          case measure => simp [intOf]; omega
    · obtain rfl : k = n := by omega
      have hB : strm (l.take k) = strm l := by rw [← HN.out, List.take_length]
      rw [hB] at hst
      clear hB
      obtain ⟨bb, bq, rfl, -⟩ := (hst.is 0 rfl : IsBytes _ _ _).out
      obtain ⟨B, hB⟩ : ∃ B, strm l = B := ⟨_, rfl⟩
      obtain ⟨nb, hnb⟩ : ∃ n, B.length = n := ⟨_, rfl⟩
      rw [hB, hnb] at hst ⊢
      have hBl : B.length ≤ 22020096 := by have := HOK.out.2.2; have := HOK.out.2.1; rw [hB] at *; omega
      have HB := Lib.hid (And.intro hB hnb)
      clear hB hnb
      go_wp2_with fail
      go_loopw [7, 8] (fun av iv wr => ∃ (j p : Nat), j ≤ k ∧ iv = .int .i64 j ∧ av = .int .i64 p ∧ (strm (l.take j)).length = p ∧ St w wr [] [(IsBytes · (.slice bb nb bq) B), (IsFcs · (.slice lb k lq) l)]) (fun _ iv _ => k - (intOf iv).toNat)
      case atStart => exact ⟨0, 0, by omega, rfl, rfl, rfl, hst⟩
      case round =>
        clear hst
        obtain ⟨k2, p, hj, rfl, rfl, hp, hst⟩ := hrel
        by_cases hlt : k2 < k
        · have hkl : k2 < l.length := by rw [HN.out]; exact hlt
          obtain ⟨g1, o1, vb, vq, rfl, hvs, hrg⟩ := (hst.is 1 rfl : IsFcs _ _ _).fcs k2 hkl
          have hoka := HOK.out.1 _ (List.getElem_mem hkl)
          have hba := bulk_at l HOK.out.2.1 k2 hkl
          obtain ⟨hfit, hI, s1, s2, s3, s4⟩ := fits_of hoka hba
          have hel := (enc_le20 hoka hba)
          have hat := strm_at l k2 hkl
          have hs2 := strm_take l k2 hkl
          have hvd := HV.out k2 hkl hlt
          obtain ⟨a, ha⟩ : ∃ a, l[k2] = a := ⟨_, rfl⟩
          rw [ha] at hvs hrg hoka hba hfit hI s1 s2 s3 s4 hel hat hs2 hvd
          have hsm := fun w gb gc ha hb => same_any w a a gb vb gc vq ha hb
          have hn64 : a.enc.length < 2 ^ 64 := by omega
          have hru := readU_at hn64 (strm (l.take k2)) (a.enc ++ strm (l.drop (k2 + 1))) (strm l) (by rw [hat]; simp) (p : Int) (by rw [hp])
          have hrf := rdFc_at (f := a) hvd hfit (strm (l.take k2) ++ Wire.encU a.enc.length) (strm (l.drop (k2 + 1))) (strm l) (by rw [hat])
          obtain ⟨nx, hnx⟩ : ∃ n, (strm (l.take k2) ++ Wire.encU a.enc.length).length = n := ⟨_, rfl⟩
          obtain ⟨nx2, hnx2⟩ : ∃ n, (strm (l.take k2) ++ Wire.encU a.enc.length ++ a.enc).length = n := ⟨_, rfl⟩
          have hp2 : (strm (l.take (k2 + 1))).length = nx2 := by rw [hs2, ← hnx2]; unfold Fc.frame; simp
          obtain ⟨E, hE⟩ : ∃ E, a.enc = E := ⟨_, rfl⟩
          obtain ⟨ne, hne⟩ : ∃ n, E.length = n := ⟨_, rfl⟩
          have hsub1 : nx2 = nx + ne := by rw [← hnx2, ← hnx, ← hne, ← hE]; exact List.length_append
          have hsub0 : (nx2 : Int) - (nx : Int) = (ne : Int) := by omega
          have hle2 : nx2 ≤ 22020096 := by rw [← hnx2]; have := congrArg List.length hat; simp only [List.length_append] at this ⊢; rw [HB.out.1] at this; omega
          rw [hnx] at hru hrf
          rw [hnx2] at hrf
          rw [hE, hne, HB.out.1] at hru
          rw [HB.out.1] at hrf
          have HP2 := Lib.hid hp2
          have HSUB := Lib.hid hsub0
          have HRU := Lib.hid hru
          have HRF := Lib.hid hrf
          have hne2 : ne ≤ 22020096 := by omega
          have HSM := Lib.hid hsm
          clear hsm hp2 hru hrf hnx hnx2 hE hne hvd hfit hI s1 s2 s3 s4 hel hoka hba ha hkl hat hs2 hp hn64 hsub0 hsub1
          obtain ⟨fs, fq, fk, fr, ft, fy, fe, fl⟩ := a
          simp only [Fc.val, Fc.cellsA] at *
          obtain ⟨fn, hfn⟩ : ∃ n, fl.length = n := ⟨_, rfl⟩
          rw [hfn] at hvs hrg HSM
          have HFN := Lib.hid hfn
          clear hfn
          have h2 := (hst.keep (Mono.seq rdVal_up _ _) hvs).keep (Mono.range _ _ _) hrg
          clear hst hvs hrg
          go_wp2_with fail
          have hru := readUint_any wr _ _ (p : Int) (h2.is 2 rfl)
          rw [HRU.out] at hru
          refine (Calls.sV h2 hru).mono ?_
          rintro e w3 ⟨rfl, h3⟩
          clear h2 hru
          go_wp2_with fail
          refine (read_c h3 (h3.is 2 rfl) (by omega) HRF.out).mono ?_
          rintro e w6 ⟨gb, gc, rfl, h6⟩
          simp only [Fc.val, Fc.cellsA] at h6 ⊢
          rw [HFN.out] at h6 ⊢
          clear h3
          go_upto_region 16 with (refine wpList_store_row rfl 27 (.tmp 12) (.tmp 61) rfl w6.heap.size #[.string fs, .int .i64 fq, .int .i64 fk, .int .i64 fr, .string ft, .string fy, .int .i64 fe, .slice gb fn gc] rfl rfl 27 _ (heap_alloc_new _ _) fact_info rfl (fact_one _ _ _ _ _ _ _ _ _ _) ?_)
          have h8 := h6.newC #[.string ⟨#[]⟩, .int .i64 0, .int .i64 0, .int .i64 0, .string ⟨#[]⟩, .string ⟨#[]⟩, .int .i64 0, .slice none 0 0] #[.string fs, .int .i64 fq, .int .i64 fk, .int .i64 fr, .string ft, .string fy, .int .i64 fe, .slice gb fn gc] 27
          generalize World.setRow _ _ _ = W7 at h8 ⊢
          generalize w6.heap.size = g7 at h8 ⊢
          have hsub : (nx2 : Int) - (nx : Int) = (ne : Int) := HSUB.out
          clear h6
          refine wp_region_st [pVal ?c16_0, pVal ?c16_1, pVal ?c16_2, pVal ?c16_3, pVal ?c16_4, pVal ?c16_5, pVal ?c16_6, pVal (.agg #[.string fs, .int .i64 fq, .int .i64 fk, .int .i64 fr, .string ft, .string fy, .int .i64 fe, .slice gb fn gc]), pVal ?c16_8, pVal ?c16_9, pVal ?c16_10, pVal (.agg #[.string fs, .int .i64 fq, .int .i64 fk, .int .i64 fr, .string ft, .string fy, .int .i64 fe, .slice vb fn vq]), pVal (.bool true), pVal ?c16_13, pVal ?c16_14, pVal ?c16_15, pVal ?c16_16, pVal ?c16_17, pVal ?c16_18, pVal ?c16_19, pVal ?c16_20, pVal (.bool false), pVal ?c16_22] (osC []) 95 [0, 1, 3, 7, 15, 31, 63, 127, 127, 127, 895, 1919, 4095, 8191, 16383, 32767, 65535, 65535, 262143, 524287, 65535, 2097151, 4194303] [[], [(0, 64)], [(1, 65)], [(2, 66)], [(2, 66), (3, 67)], [(4, 68), (2, 66)], [(5, 69)], [(6, 70)], [(6, 70)], [(6, 70)], [(6, 70), (9, 73), (8, 72)], [(6, 70), (10, 74)], [(6, 70), (11, 75), (7, 71)], [(6, 70), (12, 76)], [(13, 77), (6, 70)], [(14, 78)], [(15, 79)], [(15, 79)], [(15, 79), (17, 81), (16, 80)], [(15, 79), (18, 82)], [(15, 79)], [(15, 79), (20, 84), (19, 83)], [(21, 85), (15, 79)]] [(0, 64), (1, 65), (2, 66), (3, 67), (4, 68), (5, 69), (6, 70), (7, 71), (8, 72), (9, 73), (10, 74), (11, 75), (12, 76), (13, 77), (14, 78), (15, 79), (16, 80), (17, 81), (18, 82), (19, 83), (20, 84), (21, 85), (22, 86)] (by kernel_rfl) (by kernel_rfl) rfl rfl h8 osC0 osC1 ?ob ?en
          case ob =>
            refine ⟨?_, ?_, ?_, ?_, ?_, ?_, ?_, ?_, ?_, ?_, ?_, ?_, ?_, ?_, ?_, ?_, ?_, ?_, ?_, ?_, ?_, ?_, ?_, trivial⟩
            · -- 0: t64 := Op.move (t11)
              intro zx1 zx2 zx3 zx4 L V W hL hd hw hst 
              refine ob_c rfl ?_ hst rfl
              go_simp
              try with_reducible rfl
            · -- 1: t65 := Op.binOp BinOp.neq 31 (t64) (const (int IntKind.i64 0)) 31
              intro zx1 zx2 zx3 zx4 L V W hL hd hw hst u0 e0 p0
              obtain rfl : u0 = _ := p0
              refine ob_c rfl ?_ hst rfl
              go_simp
              try with_reducible rfl
            · -- 2: t66 := Op.move (t65)
              intro zx1 zx2 zx3 zx4 L V W hL hd hw hst u1 e1 p1
              obtain rfl : u1 = _ := p1
              refine ob_c rfl ?_ hst rfl
              go_simp
              try with_reducible rfl
            · -- 3: t67 := Op.move (t14)
              intro zx1 zx2 zx3 zx4 L V W hL hd hw hst u2 e2 p2
              obtain rfl : u2 = _ := p2
              refine ob_c (by first | rfl | (simp [wantE, dstOf, zx1]; done)) ?_ hst rfl
              go_simp
              try with_reducible rfl
            · -- 4: t68 := Op.binOp BinOp.neq 31 (t67) (const (int IntKind.i64 0)) 31
              intro zx1 zx2 zx3 zx4 L V W hL hd hw hst u3 e3 p3 u2 e2 p2
              obtain rfl : u3 = _ := p3
              obtain rfl : u2 = _ := p2
              refine ob_c (by first | rfl | (simp [wantE, dstOf, zx1]; done)) ?_ hst rfl
              go_simp
              try with_reducible rfl
            · -- 5: t69 := Op.pick (t66) (const (bool true)) (t68)
              intro zx1 zx2 zx3 zx4 L V W hL hd hw hst u2 e2 p2 u4 e4 p4
              obtain rfl : u2 = _ := p2
              obtain rfl : u4 = _ := p4
              refine ob_c rfl ?_ hst rfl
              go_simp
              try with_reducible rfl
            · -- 6: t70 := Op.move (t69)
              intro zx1 zx2 zx3 zx4 L V W hL hd hw hst u5 e5 p5
              obtain rfl : u5 = _ := p5
              refine ob_c rfl ?_ hst rfl
              go_simp
              try with_reducible rfl
            · -- 7: t71 := Op.load 27 (t12)
              intro zx1 zx2 zx3 zx4 L V W hL hd hw hst u6 e6 p6
              obtain rfl : u6 = _ := p6
              exact ob_c (by first | rfl | (simp [wantE, dstOf, zx1]; done)) (run_load_mid rfl rfl ((hst.base 0 rfl : IsCells _ _ _) |> Mono.cells _ _ _ _ (mask_is _ _) |>.range) Try.underlying27 rfl rfl) hst rfl
            · -- 8: t72 := Op.move (t0)
              intro zx1 zx2 zx3 zx4 L V W hL hd hw hst u6 e6 p6
              obtain rfl : u6 = _ := p6
              refine ob_c (by first | rfl | (simp [wantE, dstOf, zx1]; done)) ?_ hst rfl
              go_simp
              try with_reducible rfl
            · -- 9: t73 := Op.move (t8)
              intro zx1 zx2 zx3 zx4 L V W hL hd hw hst u6 e6 p6
              obtain rfl : u6 = _ := p6
              refine ob_c (by first | rfl | (simp [wantE, dstOf, zx1]; done)) ?_ hst rfl
              go_simp
              try with_reducible rfl
            · -- 10: t74 := Op.indexAddr 36 (t72) (t73)
              intro zx1 zx2 zx3 zx4 L V W hL hd hw hst u8 e8 p8 u9 e9 p9 u6 e6 p6
              obtain rfl : u8 = _ := p8
              obtain rfl : u9 = _ := p9
              obtain rfl : u6 = _ := p6
              refine ob_c (by first | rfl | (simp [wantE, dstOf, zx1]; done)) ?_ hst rfl
              go_simp
              try with_reducible rfl
            · -- 11: t75 := Op.load 27 (t74)
              intro zx1 zx2 zx3 zx4 L V W hL hd hw hst u10 e10 p10 u6 e6 p6
              obtain rfl : u10 = _ := p10
              obtain rfl : u6 = _ := p6
              exact ob_c (by first | rfl | (simp [wantE, dstOf, zx1]; done)) (run_load_mid rfl rfl ((hst.base 2 rfl : World.rangeAt _ _ _ _) |> Mono.range _ _ _ _ _ (mask_is _ _)) Try.underlying27 rfl rfl) hst rfl
            · -- 12: t76 := Op.call { callee := value (func 17), args := #[t71, t75], argTypes := #[27, 27] }
              intro zx1 zx2 zx3 zx4 L V W hL hd hw hst u7 e7 p7 u11 e11 p11 u6 e6 p6
              obtain rfl : u7 = _ := p7
              obtain rfl : u11 = _ := p11
              obtain rfl : u6 = _ := p6
              refine ob_call (by first | rfl | (simp [wantE, dstOf, zx1]; done)) ?_ (Calls.pV hst (HSM.out _ _ _ ((hst.base 1 rfl : IsVals _ _ _).sub rdVal_up (mask_is _ _)) ((hst.base 3 rfl : IsVals _ _ _).sub rdVal_up (mask_is _ _))))
              go_simp
              try rfl
            · -- 13: t77 := Op.unOp UnOp.not 4 (t76)
              intro zx1 zx2 zx3 zx4 L V W hL hd hw hst u12 e12 p12 u6 e6 p6
              obtain rfl : u12 = _ := p12
              obtain rfl : u6 = _ := p6
              refine ob_c (by first | rfl | (simp [wantE, dstOf, zx1]; done)) ?_ hst rfl
              go_simp
              try with_reducible rfl
            · -- 14: t78 := Op.pick (t70) (const (bool true)) (t77)
              intro zx1 zx2 zx3 zx4 L V W hL hd hw hst u6 e6 p6 u13 e13 p13
              obtain rfl : u6 = _ := p6
              obtain rfl : u13 = _ := p13
              refine ob_c rfl ?_ hst rfl
              go_simp
              try with_reducible rfl
            · -- 15: t79 := Op.move (t78)
              intro zx1 zx2 zx3 zx4 L V W hL hd hw hst u14 e14 p14
              obtain rfl : u14 = _ := p14
              refine ob_c rfl ?_ hst rfl
              go_simp
              try with_reducible rfl
            · -- 16: t80 := Op.move (t13)
              intro zx1 zx2 zx3 zx4 L V W hL hd hw hst u15 e15 p15
              obtain rfl : u15 = _ := p15
              refine ob_c (by first | rfl | (simp [wantE, dstOf, zx1]; done)) ?_ hst rfl
              go_simp
              try with_reducible rfl
            · -- 17: t81 := Op.move (t10)
              intro zx1 zx2 zx3 zx4 L V W hL hd hw hst u15 e15 p15
              obtain rfl : u15 = _ := p15
              refine ob_c (by first | rfl | (simp [wantE, dstOf, zx1]; done)) ?_ hst rfl
              go_simp
              try with_reducible rfl
            · -- 18: t82 := Op.binOp BinOp.sub 3 (t80) (t81) 3
              intro zx1 zx2 zx3 zx4 L V W hL hd hw hst u16 e16 p16 u17 e17 p17 u15 e15 p15
              obtain rfl : u16 = _ := p16
              obtain rfl : u17 = _ := p17
              obtain rfl : u15 = _ := p15
              refine ob_c (by first | rfl | (simp [wantE, dstOf, zx1]; done)) ?_ hst rfl
              go_simp
              try with_reducible rfl
            · -- 19: t83 := Op.convert 3 38 (t82)
              intro zx1 zx2 zx3 zx4 L V W hL hd hw hst u18 e18 p18 u15 e15 p15
              obtain rfl : u18 = _ := p18
              obtain rfl : u15 = _ := p15
              refine ob_c (by first | rfl | (simp [wantE, dstOf, zx1]; done)) ?_ hst rfl
              go_simp
              try with_reducible rfl
            · -- 20: t84 := Op.move (t9)
              intro zx1 zx2 zx3 zx4 L V W hL hd hw hst u15 e15 p15
              obtain rfl : u15 = _ := p15
              refine ob_c (by first | rfl | (simp [wantE, dstOf, zx1]; done)) ?_ hst rfl
              go_simp
              try with_reducible rfl
            · -- 21: t85 := Op.binOp BinOp.neq 38 (t83) (t84) 38
              intro zx1 zx2 zx3 zx4 L V W hL hd hw hst u19 e19 p19 u20 e20 p20 u15 e15 p15
              obtain rfl : u19 = _ := p19
              obtain rfl : u20 = _ := p20
              obtain rfl : u15 = _ := p15
              refine ob_c (by first | rfl | (simp [wantE, dstOf, zx1]; done)) ?_ hst rfl
              go_simp
              exact wrap64i (by omega)
            · -- 22: t86 := Op.pick (t79) (const (bool true)) (t85)
              intro zx1 zx2 zx3 zx4 L V W hL hd hw hst u15 e15 p15 u21 e21 p21
              obtain rfl : u15 = _ := p15
              obtain rfl : u21 = _ := p21
              refine ob_c rfl ?_ hst rfl
              go_simp
              try with_reducible rfl
          case en =>
            intro V W hst u0 e0 p0 u1 e1 p1 u2 e2 p2 u3 e3 p3 u4 e4 p4 u5 e5 p5 u6 e6 p6 u7 e7 p7 u8 e8 p8 u9 e9 p9 u10 e10 p10 u11 e11 p11 u12 e12 p12 u13 e13 p13 u14 e14 p14 u15 e15 p15 u16 e16 p16 u17 e17 p17 u18 e18 p18 u19 e19 p19 u20 e20 p20 u21 e21 p21 u22 e22 p22
            obtain rfl : u0 = _ := p0
            obtain rfl : u1 = _ := p1
            obtain rfl : u2 = _ := p2
            obtain rfl : u3 = _ := p3
            obtain rfl : u4 = _ := p4
            obtain rfl : u5 = _ := p5
            obtain rfl : u6 = _ := p6
            obtain rfl : u7 = _ := p7
            obtain rfl : u8 = _ := p8
            obtain rfl : u9 = _ := p9
            obtain rfl : u10 = _ := p10
            obtain rfl : u11 = _ := p11
            obtain rfl : u12 = _ := p12
            obtain rfl : u13 = _ := p13
            obtain rfl : u14 = _ := p14
            obtain rfl : u15 = _ := p15
            obtain rfl : u16 = _ := p16
            obtain rfl : u17 = _ := p17
            obtain rfl : u18 = _ := p18
            obtain rfl : u19 = _ := p19
            obtain rfl : u20 = _ := p20
            obtain rfl : u21 = _ := p21
            obtain rfl : u22 = _ := p22
            simp only [EndAll, Act.put, List.getElem_toArray, List.getElem_cons_succ, List.getElem_cons_zero, List.setIfInBounds_toArray, List.set_cons_zero, List.set_cons_succ]
            rw [show osC [] (fun _ => true) V = [] from rfl] at hst
            have h9 := hst.facts (fs' := [(IsBytes · (.slice bb nb bq) B), (IsFcs · (.slice (some ⟨g1, o1, none⟩) k lq) l)]) (fun P hP => by simp only [List.mem_cons, List.not_mem_nil, or_false] at hP ⊢; rcases hP with rfl | rfl <;> simp)
            clear hst e0 e1 e2 e3 e4 e5 e6 e7 e8 e9 e10 e11 e12 e13 e14 e15 e16 e17 e18 e19 e20 e21 e22 h8
            go_wp2_with fail
            go_roundw
            case rel => exact ⟨k2 + 1, nx2, by omega, by go_num, rfl, HP2.out, h9⟩
            case measure => simp [intOf]; omega
        · obtain rfl : k2 = k := by omega
          have hpe : p = nb := by rw [← hp, ← HB.out.2, ← HB.out.1, ← HN.out, List.take_length]
          subst hpe
          go_wp2_with fail
          go_ret
          exact ⟨rfl, hst.below⟩
end Go.Proofs.Ytfpkibfofainaaa
