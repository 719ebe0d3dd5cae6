/- The walk over asofref31.Append. -/
import Derived.Test.YtnfgapdpnihicaaZRe31
import Derived.Test.YtnfgapdpnihicaaZWh31
set_option linter.unusedVariables false
set_option linter.unusedSimpArgs false
namespace Go.Proofs.Ytnfgapdpnihicaa
open Go Go.RowKit
open Wl

theorem write_keeps {d D : Dk} {c : Int} (hd : d.Ok) {i : Nat} (hi : i < d.sec.length) {b : List UInt8} (hb : b.length = 128) (h : d.write i b = (D, c)) : D.Ok ∧ D.sec.length = d.sec.length := by
  obtain ⟨h1, h2, h3⟩ := dk_write_ok hd i hi b hb
  rw [h] at h1
  rw [← h1] at h2 h3
  exact ⟨h2, h3⟩
set_option maxRecDepth 8000 in
set_option maxHeartbeats 8000000 in
theorem refAppend_any (w : World) (v : Value) (d : Dk) (hv : IsDk w v d) (f m : Int) (hf : -9223372036854775808 ≤ f ∧ f ≤ 9223372036854775807) (hm : -9223372036854775808 ≤ m ∧ m ≤ 9223372036854775807) (rv : Value) (rs : List (List UInt8)) (hrs : IsLists w rv rs) (hrn : rs.length ≤ 1048576) (hrr : ∀ r ∈ rs, r.length ≤ 1048576) {D : Dk} {c : Int} (hc : d.app f m rs = (D, c)) :
    Calls Try.prog 22 #[v, .int .i64 f, .int .i64 m, rv] w fun e w' => ∃ b q, e = .returned (.tuple #[dkS b q D, .int .i64 c]) ∧ IsDk w' (dkS b q D) D ∧ Below w.heap.size w w' := by
  obtain ⟨bd, qd, rfl⟩ := hv.shape
  obtain ⟨rb, rq, rfl, -, -, -, -⟩ := id hrs.out
  unfold Dk.app at hc
  obtain ⟨N, hN⟩ : ∃ x, rs.length = x := ⟨_, rfl⟩
  rw [hN] at hrs
  have h0 := ((((St.start w).putOld (Mono.lists _ _) hrs).putOld (Mono.dk _ _) hv).alloc (.cells (dkA bd qd d) 24)).alloc (.cells #[.slice none 0 0, .int .i64 0, .int .i64 0, .bool false] 24)
  simp only [al_size] at h0
  have h1 := h0.perm (os' := [(w.heap.size, _), (w.heap.size + 1, _)]) (List.Perm.swap _ _ _)
  have HC := Lib.hid hc
  have HN := Lib.hid (And.intro hN (And.intro hrn hrr))
  rw [hN]
  have hN64 : N ≤ 1048576 := by omega
  clear hv hc hrs hrn hrr hN h0
  obtain ⟨ft, hft⟩ : ∃ b, d.fits f m = b := ⟨_, rfl⟩
  have HF := Lib.hid hft
  clear hft
  obtain ⟨st, hst0⟩ : ∃ b, d.stopped = b := ⟨_, rfl⟩
  have HST := Lib.hid hst0
  clear hst0
  go_enter Try.func22, Try.ntmps22
  go_wp2_with (refine wpList_load_row rfl 24 (.tmp 4) rfl w.heap.size rfl 24 _ (0, 0) _ (h1.at_ 0 rfl) Try.underlying24 rfl disk_info ?_)
  refine (Calls.sV h1 (refFits_any _ _ d (h1.is 0 rfl) f m hf hm)).mono ?_
  rintro e w1 ⟨rfl, h2⟩
  rw [HF.out]
  clear h1
  generalize hg4 : w.heap.size = g4 at h2 ⊢
  generalize hg8 : g4 + 1 = g8 at h2 ⊢
  cases ft with
  | false =>
    have hr := HC.out
    rw [HF.out, if_pos rfl] at hr
    cases hr
    have hz := h2.setRow (os1 := [_]) (cs' := #[.slice none 0 0, .int .i64 0, .int .i64 0, .bool false])
    go_wp2_with (refine wpList_store_row rfl 24 (.tmp 8) (.tmp 22) rfl g8 #[.slice none 0 0, .int .i64 0, .int .i64 0, .bool false] rfl rfl 24 _ (h2.at_ 1 rfl) disk_info rfl (one4 rfl _ _ _) ?_)
    try simp only [Exit.inBlock, Exit.then]
    exact ret_disk g8 (.slice none 0 0) 0 0 false rfl rfl (hz.at_ 1 rfl) rfl ⟨none, 0, rfl, dk_zero _, hg4 ▸ hz.below⟩
  | true =>
    have hr := HC.out
    rw [HF.out, if_neg (by decide), HST.out] at hr
    obtain ⟨hok, p, k2, rfl, rfl, hk1, hk2⟩ := Dk.fits_iff HF.out
    have hdn := hok.many
    have HOK := Lib.hid hok
    have HR := Lib.hid hr
    have HK2 := Lib.hid (And.intro hk2 hdn)
    clear hr HC hok hk2 hdn
    obtain ⟨c0, c1, c2, c3⟩ := (isCells_of (h2.at_ 0 rfl)).c4
    rw [HST.out] at c3
    cases st with
    | true =>
      have hr := HR.out
      rw [if_pos rfl] at hr
      cases hr
      clear c0 c1 c2
      go_upto_region 4 with fail
      clear c3
      have hz := h2.setRow (os1 := [_]) (cs' := dkA bd qd d)
      go_wp2_with (first | (refine wpList_load_row rfl 24 (.tmp 4) rfl g4 rfl 24 _ (0, 0) _ (h2.at_ 0 rfl) Try.underlying24 rfl disk_info ?_) | (refine wpList_store_row rfl 24 (.tmp 8) (.tmp 25) rfl g8 (dkA bd qd d) rfl rfl 24 _ (h2.at_ 1 rfl) disk_info rfl (one4 rfl _ _ _) ?_))
      try simp only [Exit.inBlock, Exit.then]
      exact ret_disk g8 (.slice bd d.sec.length qd) d.left d.tear d.stopped rfl rfl (hz.at_ 1 rfl) rfl ⟨bd, qd, rfl, hz.is 0 rfl, hg4 ▸ hz.below⟩
    | false =>
      have hr := HR.out
      rw [if_neg (by decide)] at hr
      have HR2 := Lib.hid hr
      clear hr HR
      go_upto_region 5 with fail
      clear c0 c1 c2 c3
      go_wp2_with fail
      go_loopw [10] (fun iv wr => ∃ k : Nat, k ≤ N ∧ iv = .int .i64 k ∧ Hid (∀ j (hj : j < rs.length), j < k → rs[j].length ≤ 8192) ∧ St w wr [(g4, .cells (dkA bd qd d) 24 (0, 0)), (g8, .cells #[.slice none 0 0, .int .i64 0, .int .i64 0, .bool false] 24 (0, 0))] [(IsDk · (dkS bd qd d) d), (IsLists · (.slice rb N rq) rs)]) (fun iv _ => N - (intOf iv).toNat)
      case atStart => exact ⟨0, by omega, rfl, Lib.hid (fun j _ h => absurd h (by omega)), h2⟩
      case round =>
        clear h2
        obtain ⟨k, hk, rfl, hlong, hst⟩ := hrel
        by_cases hlt : k < N
        · have hlti : (k : Int) < (N : Int) := by omega
          have hkl : k < rs.length := by rw [HN.out.1]; exact hlt
          obtain ⟨_, _, e, -, -, -, hat⟩ := (hst.is 1 rfl : IsLists _ _ _).out
          rw [HN.out.1] at e
          cases e
          obtain ⟨gb, off, u, rfl, hcell, hu⟩ := hat k hkl
          obtain ⟨ub, uc, rfl, -⟩ := hu.out
          obtain ⟨L, hL⟩ : ∃ x, rs[k].length = x := ⟨_, rfl⟩
          rw [hL] at hcell hu
          by_cases hbig : 8192 < L
          · have hbigi : (8192 : Int) < (L : Int) := by omega
            have hlg := Wl.long_yes hkl (by rw [hL]; exact hbig)
            have hr := HR2.out
            rw [if_pos hlg] at hr
            cases hr
            clear hat hL HR2 hlg hlong hu
            go_upto_region 9 with fail
            clear hcell
            have hz := hst.setRow (os1 := [_]) (cs' := #[.slice none 0 0, .int .i64 0, .int .i64 0, .bool false])
            go_wp2_with (refine wpList_store_row rfl 24 (.tmp 8) (.tmp 38) rfl g8 #[.slice none 0 0, .int .i64 0, .int .i64 0, .bool false] rfl rfl 24 _ (hst.at_ 1 rfl) disk_info rfl (one4 rfl _ _ _) ?_)
            try simp only [Exit.inBlock, Exit.then]
            exact ret_disk g8 (.slice none 0 0) 0 0 false rfl rfl (hz.at_ 1 rfl) rfl ⟨none, 0, rfl, dk_zero _, hg4 ▸ hz.below⟩
          · have hbigi : ¬ (8192 : Int) < (L : Int) := by omega
            have hl2 : Hid (∀ j (hj : j < rs.length), j < k + 1 → rs[j].length ≤ 8192) := Lib.hid fun j hj hjk => by
              rcases Nat.lt_or_ge j k with h9 | h9
              · exact hlong.out j hj h9
              · have : j = k := by omega
                subst this
                omega
            clear hat hL hlong hu
            go_wp2_with fail
            go_roundw
            case rel => exact ⟨k + 1, by omega, by go_num, hl2, hst⟩
            case measure => simp [intOf]; omega
        · obtain rfl : N = k := by omega
          have hlti : ¬ (N : Int) < (N : Int) := by omega
          have hlg := Wl.long_no (rs := rs) (fun j hj => hlong.out j hj (by rw [HN.out.1] at hj; exact hj))
          clear hlong
          have hr := HR2.out
          rw [if_neg (by rw [hlg]; decide)] at hr
          clear HR2 hlg
          obtain ⟨⟨RS, E, C⟩, hsc⟩ : ∃ r, d.scan p k2 = r := ⟨_, rfl⟩
          have hsok := fun h : C = 0 => Dk.scan_ok (d := d) (f := p) (m := k2) (rs := RS) (E := E) (by rw [hsc, h])
          have HSOK := Lib.hid hsok
          rw [hsc] at hr
          dsimp only at hr
          have HR3 := Lib.hid hr
          have HSC := Lib.hid hsc
          clear hr hsok hsc
          have hscan := fun W h1 h2 => refScan_any W (fun _ => false) h1 (dkS bd qd d) d h2 p k2 hf hm
          rw [HSC.out] at hscan
          dsimp only at hscan
          have HSCAN := Lib.hid hscan
          clear hscan
          go_wp2_with (refine wpList_load_row rfl 24 (.tmp 4) rfl g4 rfl 24 _ (0, 0) _ (hst.at_ 0 rfl) Try.underlying24 rfl disk_info ?_)
          refine (HSCAN.out _ (fun _ h => by cases h) (hst.is 0 rfl)).mono ?_
          rintro e w3 ⟨lb, ln, lq, rfl, -, hb3⟩
          have h3 := hst.call hb3
          clear hst hb3 HSCAN
          by_cases hC : C = 0
          case neg =>
            have hr := HR3.out
            rw [if_pos hC] at hr
            cases hr
            have hCb := bne_of hC
            go_upto_region 12 with fail
            have hz := h3.setRow (os1 := [_]) (cs' := #[.slice none 0 0, .int .i64 0, .int .i64 0, .bool false])
            go_wp2_with (refine wpList_store_row rfl 24 (.tmp 8) (.tmp 49) rfl g8 #[.slice none 0 0, .int .i64 0, .int .i64 0, .bool false] rfl rfl 24 _ (h3.at_ 1 rfl) disk_info rfl (one4 rfl _ _ _) ?_)
            try simp only [Exit.inBlock, Exit.then]
            exact ret_disk g8 (.slice none 0 0) 0 0 false rfl rfl (hz.at_ 1 rfl) rfl ⟨none, 0, rfl, dk_zero _, hg4 ▸ hz.below⟩
          subst hC
          have hr := HR3.out
          rw [if_neg (fun h => h rfl)] at hr
          obtain ⟨-, hstp, p', k', hpp, hkk, -, -, hE1, hE2, -⟩ := HSOK.out rfl
          obtain rfl : p = p' := by omega
          obtain rfl : k2 = k' := by omega
          have HR4 := Lib.hid hr
          clear hr HR3 HSOK HSC hpp hkk
          by_cases hN0 : N = 0
          · subst hN0
            have hr := HR4.out
            rw [if_pos HN.out.1] at hr
            cases hr
            go_upto_region 14 with fail
            have hz := h3.setRow (os1 := [_]) (cs' := dkA bd qd d)
            go_wp2_with (first | (refine wpList_load_row rfl 24 (.tmp 4) rfl g4 rfl 24 _ (0, 0) _ (h3.at_ 0 rfl) Try.underlying24 rfl disk_info ?_) | (refine wpList_store_row rfl 24 (.tmp 8) (.tmp 54) rfl g8 (dkA bd qd d) rfl rfl 24 _ (h3.at_ 1 rfl) disk_info rfl (one4 rfl _ _ _) ?_))
            try simp only [Exit.inBlock, Exit.then]
            exact ret_disk g8 (.slice bd d.sec.length qd) d.left d.tear d.stopped rfl rfl (hz.at_ 1 rfl) rfl ⟨bd, qd, rfl, hz.is 0 rfl, hg4 ▸ hz.below⟩
          have hNb : ((N : Int) == 0) = false := beq_of (by omega)
          have hr := HR4.out
          rw [if_neg (by rw [HN.out.1]; exact hN0)] at hr
          clear HR4
          have hsec := fun W h => refSectors_any W (.slice rb N rq) rs h HN.out.2.1 HN.out.2.2
          obtain ⟨n, hn⟩ : ∃ n, sizeL rs = n := ⟨_, rfl⟩
          rw [show needs (stream rs).length = n from hn] at hr hsec
          have hn1 : 1 ≤ n := by rw [← hn]; exact sizeL_pos _
          have HR5 := Lib.hid hr
          have HSEC := Lib.hid hsec
          have HNN := Lib.hid hn
          clear hr hsec hn
          have hk4 : (p : Int) + (k2 : Int) ≤ 4096 := by have := HK2.out; omega
          have hw1 : IntKind.i64.wrap ((p : Int) + (k2 : Int)) = (p : Int) + k2 := by rw [IntKind.wrap_i64]; omega
          have hw2 : IntKind.i64.wrap ((p : Int) + (k2 : Int) - (E : Int)) = (p : Int) + k2 - E := by rw [IntKind.wrap_i64]; omega
          go_wp2_with fail
          refine (Calls.sV h3 (HSEC.out _ (h3.is 1 rfl))).mono ?_
          rintro e w4 ⟨rfl, h4⟩
          clear h3 HSEC
          by_cases hfull : (p : Int) + k2 - E < n
          · have hr := HR5.out
            rw [if_pos hfull] at hr
            cases hr
            go_upto_region 17 with fail
            have hz := h4.setRow (os1 := [_]) (cs' := #[.slice none 0 0, .int .i64 0, .int .i64 0, .bool false])
            go_wp2_with (refine wpList_store_row rfl 24 (.tmp 8) (.tmp 64) rfl g8 #[.slice none 0 0, .int .i64 0, .int .i64 0, .bool false] rfl rfl 24 _ (h4.at_ 1 rfl) disk_info rfl (one4 rfl _ _ _) ?_)
            try simp only [Exit.inBlock, Exit.then]
            exact ret_disk g8 (.slice none 0 0) 0 0 false rfl rfl (hz.at_ 1 rfl) rfl ⟨none, 0, rfl, dk_zero _, hg4 ▸ hz.below⟩
          have hr := HR5.out
          rw [if_neg hfull] at hr
          have hpe : ((p : Int) + (k2 : Int)).toNat = p + k2 := by omega
          rw [hpe] at hr
          unfold sched at hr
          clear HR5
          obtain ⟨s, hs⟩ : ∃ s, stream rs = s := ⟨_, rfl⟩
          rw [hs] at hr
          obtain ⟨TL, hTL⟩ : ∃ T, ((if E + n < p + k2 then [(E + n, zeroSec)] else []) ++ [(E, headS s)]) = T := ⟨_, rfl⟩
          rw [hTL] at hr
          have HTL := Lib.hid hTL
          have HRR := Lib.hid hr
          have hn96 : n ≤ 4096 := by omega
          have hEn : E + n ≤ p + k2 := by omega
          have hpie := fun W S hS h => refPieces_any W S hS (.slice rb N rq) rs h HN.out.2.1 HN.out.2.2 HNN.out hn96
          rw [hs] at hpie
          have HPIE := Lib.hid hpie
          clear hr hs hTL hpe hpie
          go_wp2_with fail
          refine (HPIE.out _ _ h4.ltS (h4.is 1 rfl)).mono ?_
          rintro e w5 ⟨pb, pq, rfl, hls5, hb5⟩
          obtain ⟨PL, hPL⟩ : ∃ l, headS s :: pcs (n - 1) (s.drop 127) = l := ⟨_, rfl⟩
          rw [hPL] at hls5
          have hPn : PL.length = n := by rw [← hPL, List.length_cons, pcs_len]; omega
          have hP0 : PL[0]? = some (headS s) := by rw [← hPL]; rfl
          have hPi : ∀ i, 1 ≤ i → i < n → PL[i]? = some (piece (s.drop (127 + 128 * (i - 1)))) := fun i h1 h2 => by
            obtain ⟨j, rfl⟩ : ∃ j, i = j + 1 := ⟨i - 1, by omega⟩
            rw [← hPL, List.getElem?_cons_succ, List.getElem?_eq_getElem (by rw [pcs_len]; omega), pcs_get, List.drop_drop]
            rfl
          have HP := Lib.hid (And.intro hPn (And.intro hP0 hPi))
          have h5 := ((h4.call hb5).put (Mono.lists _ _) hls5).facts (fs' := [(IsDk · (dkS bd qd d) d), (IsLists · (.slice pb n pq) PL)]) (fun P hP => by simp only [List.mem_cons, List.not_mem_nil, or_false] at hP ⊢; rcases hP with rfl | rfl <;> simp)
          have HK3 := Lib.hid (And.intro HK2.out.1 hEn)
          clear h4 HPIE hPL hPn hP0 hPi hls5 hb5 hw2
          go_wp2_with fail
          go_loopw [16] (fun iv wr => ∃ (i : Nat) (di : Dk) (bi : Option Addr) (qi : Nat) (t : List UInt8), 1 ≤ i ∧ i ≤ n ∧ iv = .int .i64 i ∧ Hid (t = s.drop (127 + 128 * (i - 1))) ∧ Hid (di.puts (secs E i (n - i) t ++ TL) = (D, c)) ∧ Hid (di.Ok ∧ di.sec.length = d.sec.length) ∧ St w wr [(g4, .cells (dkA bi qi di) 24 (0, 0)), (g8, .cells #[.slice none 0 0, .int .i64 0, .int .i64 0, .bool false] 24 (0, 0))] [(IsDk · (dkS bi qi di) di), (IsLists · (.slice pb n pq) PL)]) (fun iv _ => n - (intOf iv).toNat)
          case atStart => exact ⟨1, d, bd, qd, s.drop 127, by omega, by omega, rfl, Lib.hid (by rw [Nat.sub_self, Nat.mul_zero]), HRR, Lib.hid ⟨HOK.out, rfl⟩, h5⟩
          case round =>
            clear h5 HRR
            obtain ⟨i, di, bi, qi, t, hi1, hin, rfl, ht, HPU, HDI, hst⟩ := hrel
            by_cases hlt : i < n
            · have hii : (i : Int) < (n : Int) := by omega
              have hni : ¬ (n : Int) ≤ (i : Int) := by omega
              obtain ⟨j, hj⟩ : ∃ j, n - i = j + 1 := ⟨n - i - 1, by omega⟩
              have hp := HPU.out
              rw [hj] at hp
              unfold secs at hp
              rw [List.cons_append] at hp
              have HP1 := Lib.hid hp
              clear hp HPU
              have hgi := HP.out.2.2 i hi1 hlt
              rw [← ht.out] at hgi
              obtain ⟨hil, hgl⟩ := List.getElem?_eq_some_iff.1 hgi
              obtain ⟨_, _, e, -, -, -, hat⟩ := (hst.get 1 rfl : IsLists _ _ _).out
              rw [HP.out.1] at e
              cases e
              obtain ⟨gb, off, u, rfl, hcell, hu⟩ := hat i hil
              rw [hgl] at hu
              obtain ⟨ub, uc, rfl, -⟩ := hu.out
              rw [piece_len] at hcell hu
              obtain ⟨⟨D1, c1⟩, hwr⟩ : ∃ r, di.write ((E + i : Nat) : Int) (piece t) = r := ⟨_, rfl⟩
              have hw : IntKind.i64.wrap ((E : Int) + (i : Int)) = ((E + i : Nat) : Int) := by rw [IntKind.wrap_i64]; omega
              have HDI1 := Lib.hid (write_keeps HDI.out.1 (show E + i < di.sec.length by rw [HDI.out.2]; have := HK3.out; omega) (piece_len t) hwr)
              have HWR := Lib.hid hwr
              obtain ⟨Q, hQ⟩ : ∃ Q, E + i = Q := ⟨_, rfl⟩
              have HWR2 := Lib.hid (show di.write (Q : Int) (piece t) = (D1, c1) by rw [← hQ]; exact hwr)
              rw [hQ] at hw
              have h6 := (hst.put (Mono.bytes _ _) hu).put (P := fun x => x.cell? ⟨gb, off + i, none⟩ = some (.slice ub 128 uc)) (Mono.cell _ _) hcell
              clear hat hil hgl hgi hu hcell hst hwr hQ
              go_upto_region 22 with fail
              refine wp_region_st [pVal (dkS bi qi di), pVal ?c22_1, pVal ?c22_2, pVal (.int .i64 Q), pVal ?c22_4, pVal ?c22_5, pVal (.pointer (some ⟨gb, off + i, none⟩)), pVal (.slice ub 128 uc), pDkT D1 c1, pDkT D1 c1, pDk D1, pVal (.int .i64 c1), pAny, pVal ?c22_13] (osS 12 10 24 g4 (.cells (dkA bi qi di) 24 (0, 0)) [] [(g8, .cells #[.slice none 0 0, .int .i64 0, .int .i64 0, .bool false] 24 (0, 0))]) 116 [0, 0, 0, 6, 0, 0, 48, 112, 255, 511, 1023, 1023, 2047, 8191] [[], [], [], [(2, 75), (1, 74)], [], [], [(5, 78), (4, 77)], [(6, 79)], [(7, 80), (3, 76), (0, 73)], [(8, 81)], [(9, 72)], [(9, 72)], [(10, 82)], [(11, 83)]] [(0, 73), (1, 74), (2, 75), (3, 76), (4, 77), (5, 78), (6, 79), (7, 80), (8, 81), (9, 72), (10, 82), (11, 83), (13, 13)] (by kernel_rfl) (by kernel_rfl) rfl rfl h6 osS0 (osS1 (by decide)) ?ob ?en
              case ob =>
                refine ⟨?_, ?_, ?_, ?_, ?_, ?_, ?_, ?_, ?_, ?_, ?_, ?_, ?_, ?_, trivial⟩
                · -- 0: t73 := Op.load 24 (t4)
                  intro zx1 zx2 zx3 zx4 L V W hL hd hw hst 
                  refine ob_c (by first | rfl | (simp [wantE, dstOf, zx1]; done)) ?_ hst rfl
                  have hg := hst.find (g := g4) (o := dkB bi qi di) (by rw [osS_old (hw 12 rfl (by decide))]; simp)
                  exact run_load_own rfl rfl hg Try.underlying24 rfl disk_info
                · -- 1: t74 := Op.move (t12)
                  intro zx1 zx2 zx3 zx4 L V W hL hd hw hst 
                  refine ob_c rfl ?_ hst rfl
                  go_simp
                  try with_reducible rfl
                · -- 2: t75 := Op.move (t16)
                  intro zx1 zx2 zx3 zx4 L V W hL hd hw hst 
                  refine ob_c rfl ?_ hst rfl
                  go_simp
                  try with_reducible rfl
                · -- 3: t76 := Op.binOp BinOp.add 3 (t74) (t75) 3
                  intro zx1 zx2 zx3 zx4 L V W hL hd hw hst u1 e1 p1 u2 e2 p2
                  obtain rfl : u1 = _ := p1
                  obtain rfl : u2 = _ := p2
                  refine ob_c (by first | rfl | (simp [wantE, dstOf, zx1]; done)) ?_ hst rfl
                  go_simp
                  try rw [hw]
                · -- 4: t77 := Op.move (t15)
                  intro zx1 zx2 zx3 zx4 L V W hL hd hw hst 
                  refine ob_c rfl ?_ hst rfl
                  go_simp
                  try with_reducible rfl
                · -- 5: t78 := Op.move (t16)
                  intro zx1 zx2 zx3 zx4 L V W hL hd hw hst 
                  refine ob_c rfl ?_ hst rfl
                  go_simp
                  try with_reducible rfl
                · -- 6: t79 := Op.indexAddr 22 (t77) (t78)
                  intro zx1 zx2 zx3 zx4 L V W hL hd hw hst u4 e4 p4 u5 e5 p5
                  obtain rfl : u4 = _ := p4
                  obtain rfl : u5 = _ := p5
                  refine ob_c (by first | rfl | (simp [wantE, dstOf, zx1]; done)) ?_ hst rfl
                  go_simp
                  all_goals (exact fun h => absurd h (by omega))
                · -- 7: t80 := Op.load 42 (t79)
                  intro zx1 zx2 zx3 zx4 L V W hL hd hw hst u6 e6 p6
                  obtain rfl : u6 = _ := p6
                  have hz := mask_is _ _ _ _ (hst.base 0 rfl : World.cell? _ _ = some _)
                  refine ob_c (by first | rfl | (simp [wantE, dstOf, zx1]; done)) ?_ hst rfl
                  go_simp
                  try with_reducible rfl
                · -- 8: t81 := Op.call { callee := value (func 45), args := #[t73, t76, t80], argTypes := #[24, 3, 42] }
                  intro zx1 zx2 zx3 zx4 L V W hL hd hw hst u0 e0 p0 u3 e3 p3 u7 e7 p7
                  obtain rfl : u0 = _ := p0
                  obtain rfl : u3 = _ := p3
                  obtain rfl : u7 = _ := p7
                  refine ob_call (by first | rfl | (simp [wantE, dstOf, zx1]; done)) ?_ (refWrite_p hst (d := di) HDI.out.1 HWR2.out (hst.base 2 rfl) ((hst.base 1 rfl : IsBytes _ _ _).sub (mask_is _ _)))
                  go_simp
                  try rfl
                · -- 9: t72 := Op.move (t81)
                  intro zx1 zx2 zx3 zx4 L V W hL hd hw hst u8 e8 p8
                  refine ob_v u8 rfl ?_ hst (osS_keep (hw 12 rfl (by decide)) (by decide)) p8
                  go_simp
                · -- 10: t82 := Op.extract (t72) 0
                  intro zx1 zx2 zx3 zx4 L V W hL hd hw hst u9 e9 p9
                  obtain ⟨bm, qm, rfl, kmm⟩ := p9
                  refine ob_v (dkS bm qm D1) rfl ?_ hst (osS_keep (hw 12 rfl (by decide)) (by decide)) ⟨bm, qm, rfl, kmm⟩
                  go_simp
                · -- 11: t83 := Op.extract (t72) 1
                  intro zx1 zx2 zx3 zx4 L V W hL hd hw hst u9 e9 p9
                  obtain ⟨bm, qm, rfl, kmm⟩ := p9
                  refine ob_c rfl ?_ hst rfl
                  go_simp
                  try with_reducible rfl
                · -- 12: tNone := Op.store 24 (t4) (t82)
                  intro zx1 zx2 zx3 zx4 L V W hL hd hw hst u10 e10 p10
                  obtain ⟨bx22, qx22, rfl, kx⟩ := p10
                  exact ob_set (k := 10) (g := g4) rfl rfl rfl rfl e10 rfl (by decide) hL rfl disk_info (one4 rfl _ _ _) hst
                · -- 13: t13 := Op.assign (t83)
                  intro zx1 zx2 zx3 zx4 L V W hL hd hw hst u11 e11 p11
                  obtain rfl : u11 = _ := p11
                  refine ob_c rfl ?_ hst rfl
                  go_simp
                  try with_reducible rfl
              case en =>
                intro V W hst u0 e0 p0 u1 e1 p1 u2 e2 p2 u3 e3 p3 u4 e4 p4 u5 e5 p5 u6 e6 p6 u7 e7 p7 u8 e8 p8 u9 e9 p9 u10 e10 p10 u11 e11 p11 u13 e13 p13
                obtain rfl : u0 = _ := p0
                obtain rfl : u1 = _ := p1
                obtain rfl : u2 = _ := p2
                obtain rfl : u3 = _ := p3
                obtain rfl : u4 = _ := p4
                obtain rfl : u5 = _ := p5
                obtain rfl : u6 = _ := p6
                obtain rfl : u7 = _ := p7
                obtain ⟨ba, qa, rfl, ka⟩ := p8
                obtain ⟨bm, qm, rfl, kmm⟩ := p9
                obtain ⟨bx22, qx22, rfl, kx⟩ := p10
                obtain rfl : u11 = _ := p11
                obtain rfl : u13 = _ := p13
                simp only [EndAll, Act.put, List.getElem_toArray, List.getElem_cons_succ, List.getElem_cons_zero, List.setIfInBounds_toArray, List.set_cons_zero, List.set_cons_succ]
                have h7 := hst.put (Mono.dk _ _) kx
                rw [osS_end e10] at h7
                clear hst kx kmm ka
                by_cases hc1 : c1 = 0
                · subst hc1
                  have hnp := (Dk.puts_ok HWR.out).symm.trans HP1.out
                  have hji : n - (i + 1) = j := by omega
                  rw [← hji] at hnp
                  have HNP := Lib.hid hnp
                  clear hnp HP1 HWR HWR2 hji hj h6
                  go_wp2_with fail
                  go_roundw
                  case rel => exact ⟨i + 1, D1, bx22, qx22, t.drop 128, by omega, by omega, by go_num, Lib.hid (by rw [ht.out, List.drop_drop]; congr 1; omega), HNP, Lib.hid ⟨HDI1.out.1, HDI1.out.2.trans HDI.out.2⟩, h7.facts (fun P hP => by simp only [List.mem_cons, List.not_mem_nil, or_false] at hP ⊢; rcases hP with rfl | rfl <;> simp)⟩
                  case measure => simp [intOf]; omega
                · have hnp := (Dk.puts_bad HWR.out hc1).symm.trans HP1.out
                  cases hnp
                  have hcb := bne_of hc1
                  clear HP1 HWR HWR2 hj h6
                  go_upto_region 24 with fail
                  have hz := h7.setRow (os1 := [_]) (cs' := dkA bx22 qx22 D)
                  go_wp2_with (first | (refine wpList_load_row rfl 24 (.tmp 4) rfl g4 rfl 24 _ (0, 0) _ (h7.at_ 0 rfl) Try.underlying24 rfl disk_info ?_) | (refine wpList_store_row rfl 24 (.tmp 8) (.tmp 86) rfl g8 (dkA bx22 qx22 D) rfl rfl 24 _ (h7.at_ 1 rfl) disk_info rfl (one4 rfl _ _ _) ?_))
                  try simp only [Exit.inBlock, Exit.then]
                  exact ret_disk g8 (.slice bx22 D.sec.length qx22) D.left D.tear D.stopped rfl rfl (hz.at_ 1 rfl) rfl ⟨bx22, qx22, rfl, hz.is 0 rfl, hg4 ▸ hz.below⟩
            · obtain rfl : n = i := by omega
              have hii : ¬ (n : Int) < (n : Int) := by omega
              have hp := HPU.out
              rw [Nat.sub_self] at hp
              unfold secs at hp
              rw [List.nil_append, ← HTL.out] at hp
              clear HPU ht
              have hw : IntKind.i64.wrap ((E : Int) + (n : Int)) = ((E + n : Nat) : Int) := by rw [IntKind.wrap_i64]; omega
              obtain ⟨h00, hgl⟩ := List.getElem?_eq_some_iff.1 HP.out.2.1
              obtain ⟨_, _, e, -, -, -, hat⟩ := (hst.get 1 rfl : IsLists _ _ _).out
              rw [HP.out.1] at e
              cases e
              obtain ⟨gb, off, u, rfl, hcell, hu⟩ := hat 0 h00
              rw [hgl] at hu
              obtain ⟨ub, uc, rfl, -⟩ := hu.out
              rw [headS_len] at hcell hu
              rw [Nat.add_zero] at hcell
              have h6 := ((hst.put (Mono.bytes _ _) hu).put (P := fun x => x.cell? ⟨gb, off, none⟩ = some (.slice ub 128 uc)) (Mono.cell _ _) hcell).facts (fs' := [(fun x => x.cell? ⟨gb, off, none⟩ = some (.slice ub 128 uc)), (IsBytes · (.slice ub 128 uc) (headS s)), (IsDk · (dkS bi qi di) di)]) (fun P hP => by simp only [List.mem_cons, List.not_mem_nil, or_false] at hP ⊢; rcases hP with rfl | rfl | rfl <;> simp)
              clear hat h00 hgl hu hcell hst
              have hn0 : ¬ (n : Int) ≤ 0 := by omega
              obtain ⟨Q, hQ⟩ : ∃ Q, E + n = Q := ⟨_, rfl⟩
              rw [hQ] at hp hw
              by_cases hroom : Q < p + k2
              · have hroomI : (Q : Int) < (p : Int) + (k2 : Int) := by omega
                rw [if_pos hroom] at hp
                obtain ⟨⟨D1, c1⟩, hwr⟩ : ∃ r, di.write (Q : Int) zeroSec = r := ⟨_, rfl⟩
                have HDI1 := Lib.hid (write_keeps HDI.out.1 (show Q < di.sec.length by rw [HDI.out.2]; have := HK3.out; omega) zeroSec_len hwr)
                have HWR := Lib.hid hwr
                have HP2 := Lib.hid hp
                clear hp hwr
                go_upto_region 26 with fail
                refine wp_region_st [pVal (dkS bi qi di), pVal ?c26_1, pVal ?c26_2, pVal (.int .i64 Q), pBytes zeroSec, pDkT D1 c1, pDkT D1 c1, pDk D1, pVal (.int .i64 c1), pAny, pVal ?c26_10] (osS 9 7 24 g4 (.cells (dkA bi qi di) 24 (0, 0)) [] [(g8, .cells #[.slice none 0 0, .int .i64 0, .int .i64 0, .bool false] 24 (0, 0))]) 116 [0, 0, 0, 6, 0, 31, 63, 127, 127, 255, 1023] [[], [], [], [(2, 98), (1, 97)], [], [(4, 100), (3, 99), (0, 96)], [(5, 101)], [(6, 95)], [(6, 95)], [(7, 102)], [(8, 103)]] [(0, 96), (1, 97), (2, 98), (3, 99), (4, 100), (5, 101), (6, 95), (7, 102), (8, 103), (10, 13)] (by kernel_rfl) (by kernel_rfl) rfl rfl h6 osS0 (osS1 (by decide)) ?ob ?en
                case ob =>
                  refine ⟨?_, ?_, ?_, ?_, ?_, ?_, ?_, ?_, ?_, ?_, ?_, trivial⟩
                  · -- 0: t96 := Op.load 24 (t4)
                    intro zx1 zx2 zx3 zx4 L V W hL hd hw hst 
                    refine ob_c (by first | rfl | (simp [wantE, dstOf, zx1]; done)) ?_ hst rfl
                    have hg := hst.find (g := g4) (o := dkB bi qi di) (by rw [osS_old (hw 9 rfl (by decide))]; simp)
                    exact run_load_own rfl rfl hg Try.underlying24 rfl disk_info
                  · -- 1: t97 := Op.move (t12)
                    intro zx1 zx2 zx3 zx4 L V W hL hd hw hst 
                    refine ob_c rfl ?_ hst rfl
                    go_simp
                    try with_reducible rfl
                  · -- 2: t98 := Op.move (t14)
                    intro zx1 zx2 zx3 zx4 L V W hL hd hw hst 
                    refine ob_c rfl ?_ hst rfl
                    go_simp
                    try with_reducible rfl
                  · -- 3: t99 := Op.binOp BinOp.add 3 (t97) (t98) 3
                    intro zx1 zx2 zx3 zx4 L V W hL hd hw hst u1 e1 p1 u2 e2 p2
                    obtain rfl : u1 = _ := p1
                    obtain rfl : u2 = _ := p2
                    refine ob_c (by first | rfl | (simp [wantE, dstOf, zx1]; done)) ?_ hst rfl
                    go_simp
                    try rw [hw]
                  · -- 4: t100 := Op.call { callee := value (func 46), args := #[], argTypes := #[] }
                    intro zx1 zx2 zx3 zx4 L V W hL hd hw hst 
                    refine ob_call (by first | rfl | (simp [wantE, dstOf, zx1]; done)) ?_ (Calls.pB hst (refZeros_any _))
                    go_simp
                    try rfl
                  · -- 5: t101 := Op.call { callee := value (func 45), args := #[t96, t99, t100], argTypes := #[24, 3, 42] }
                    intro zx1 zx2 zx3 zx4 L V W hL hd hw hst u0 e0 p0 u3 e3 p3 u4 e4 p4
                    obtain rfl : u0 = _ := p0
                    obtain rfl : u3 = _ := p3
                    obtain ⟨bz, qz, rfl, kz⟩ := p4
                    refine ob_call (by first | rfl | (simp [wantE, dstOf, zx1]; done)) ?_ (refWrite_p hst (d := di) HDI.out.1 HWR.out (hst.base 2 rfl) (kz.sub (mask_is _ _)))
                    go_simp
                    try rfl
                  · -- 6: t95 := Op.move (t101)
                    intro zx1 zx2 zx3 zx4 L V W hL hd hw hst u5 e5 p5
                    refine ob_v u5 rfl ?_ hst (osS_keep (hw 9 rfl (by decide)) (by decide)) p5
                    go_simp
                  · -- 7: t102 := Op.extract (t95) 0
                    intro zx1 zx2 zx3 zx4 L V W hL hd hw hst u6 e6 p6
                    obtain ⟨bm, qm, rfl, kmm⟩ := p6
                    refine ob_v (dkS bm qm D1) rfl ?_ hst (osS_keep (hw 9 rfl (by decide)) (by decide)) ⟨bm, qm, rfl, kmm⟩
                    go_simp
                  · -- 8: t103 := Op.extract (t95) 1
                    intro zx1 zx2 zx3 zx4 L V W hL hd hw hst u6 e6 p6
                    obtain ⟨bm, qm, rfl, kmm⟩ := p6
                    refine ob_c rfl ?_ hst rfl
                    go_simp
                    try with_reducible rfl
                  · -- 9: tNone := Op.store 24 (t4) (t102)
                    intro zx1 zx2 zx3 zx4 L V W hL hd hw hst u7 e7 p7
                    obtain ⟨bx26, qx26, rfl, kx⟩ := p7
                    exact ob_set (k := 7) (g := g4) rfl rfl rfl rfl e7 rfl (by decide) hL rfl disk_info (one4 rfl _ _ _) hst
                  · -- 10: t13 := Op.assign (t103)
                    intro zx1 zx2 zx3 zx4 L V W hL hd hw hst u8 e8 p8
                    obtain rfl : u8 = _ := p8
                    refine ob_c rfl ?_ hst rfl
                    go_simp
                    try with_reducible rfl
                case en =>
                  intro V W hst u0 e0 p0 u1 e1 p1 u2 e2 p2 u3 e3 p3 u4 e4 p4 u5 e5 p5 u6 e6 p6 u7 e7 p7 u8 e8 p8 u10 e10 p10
                  obtain rfl : u0 = _ := p0
                  obtain rfl : u1 = _ := p1
                  obtain rfl : u2 = _ := p2
                  obtain rfl : u3 = _ := p3
                  obtain ⟨bz, qz, rfl, kz⟩ := p4
                  obtain ⟨ba, qa, rfl, ka⟩ := p5
                  obtain ⟨bm, qm, rfl, kmm⟩ := p6
                  obtain ⟨bx26, qx26, rfl, kx⟩ := p7
                  obtain rfl : u8 = _ := p8
                  obtain rfl : u10 = _ := p10
                  simp only [EndAll, Act.put, List.getElem_toArray, List.getElem_cons_succ, List.getElem_cons_zero, List.setIfInBounds_toArray, List.set_cons_zero, List.set_cons_succ]
                  have h7 := hst.put (Mono.dk _ _) kx
                  rw [osS_end e7] at h7
                  clear hst kx kmm ka kz
                  by_cases hc1 : c1 = 0
                  · subst hc1
                    have hnp := (Dk.puts_ok HWR.out).symm.trans HP2.out
                    have HWF := Lib.hid (Dk.puts_one.symm.trans hnp)
                    clear hnp HP2 HWR h6
                    go_upto_region 29 with fail
                    refine wp_region_st [pVal (dkS bx26 qx26 D1), pVal ?c29a_1, pVal ?c29a_2, pVal (.pointer (some ⟨gb, off, none⟩)), pVal (.slice ub 128 uc), pDkT D c, pDk D, pVal (.int .i64 c), pAny, pVal ?c29a_9] (osS 8 6 24 g8 (.cells #[.slice none 0 0, .int .i64 0, .int .i64 0, .bool false] 24 (0, 0)) [(g4, .cells (dkA bx26 qx26 D1) 24 (0, 0))] []) 116 [0, 0, 0, 4, 12, 31, 63, 63, 255, 511] [[], [], [], [(2, 110)], [(3, 111)], [(4, 112), (1, 109), (0, 108)], [(5, 113)], [(5, 113)], [(6, 114)], [(7, 115)]] [(0, 108), (1, 109), (2, 110), (3, 111), (4, 112), (5, 113), (6, 114), (7, 115), (9, 9)] (by kernel_rfl) (by kernel_rfl) rfl rfl h7 osS0 (osS1 (by decide)) ?ob ?en
                    case ob =>
                      refine ⟨?_, ?_, ?_, ?_, ?_, ?_, ?_, ?_, ?_, ?_, trivial⟩
                      · -- 0: t108 := Op.load 24 (t4)
                        intro zx1 zx2 zx3 zx4 L V W hL hd hw hst 
                        refine ob_c (by first | rfl | (simp [wantE, dstOf, zx1]; done)) ?_ hst rfl
                        have hg := hst.find (g := g4) (o := dkB bx26 qx26 D1) (osS_mem (by simp) _ _)
                        exact run_load_own rfl rfl hg Try.underlying24 rfl disk_info
                      · -- 1: t109 := Op.move (t12)
                        intro zx1 zx2 zx3 zx4 L V W hL hd hw hst 
                        refine ob_c rfl ?_ hst rfl
                        go_simp
                        try with_reducible rfl
                      · -- 2: t110 := Op.move (t15)
                        intro zx1 zx2 zx3 zx4 L V W hL hd hw hst 
                        refine ob_c rfl ?_ hst rfl
                        go_simp
                        try with_reducible rfl
                      · -- 3: t111 := Op.indexAddr 22 (t110) (const (int IntKind.i64 0))
                        intro zx1 zx2 zx3 zx4 L V W hL hd hw hst u2 e2 p2
                        obtain rfl : u2 = _ := p2
                        refine ob_c (by first | rfl | (simp [wantE, dstOf, zx1]; done)) ?_ hst rfl
                        go_simp
                        all_goals (exact fun h => absurd h (by omega))
                      · -- 4: t112 := Op.load 42 (t111)
                        intro zx1 zx2 zx3 zx4 L V W hL hd hw hst u3 e3 p3
                        obtain rfl : u3 = _ := p3
                        have hz := mask_is _ _ _ _ (hst.base 1 rfl : World.cell? _ _ = some _)
                        refine ob_c (by first | rfl | (simp [wantE, dstOf, zx1]; done)) ?_ hst rfl
                        go_simp
                        try with_reducible rfl
                      · -- 5: t113 := Op.call { callee := value (func 45), args := #[t108, t109, t112], argTypes := #[24, 3, 42] }
                        intro zx1 zx2 zx3 zx4 L V W hL hd hw hst u0 e0 p0 u1 e1 p1 u4 e4 p4
                        obtain rfl : u0 = _ := p0
                        obtain rfl : u1 = _ := p1
                        obtain rfl : u4 = _ := p4
                        refine ob_call (by first | rfl | (simp [wantE, dstOf, zx1]; done)) ?_ (refWrite_p hst (d := D1) HDI1.out.1 HWF.out (hst.base 0 rfl) ((hst.base 2 rfl : IsBytes _ _ _).sub (mask_is _ _)))
                        go_simp
                        try rfl
                      · -- 6: t114 := Op.extract (t113) 0
                        intro zx1 zx2 zx3 zx4 L V W hL hd hw hst u5 e5 p5
                        obtain ⟨ba, qa, rfl, ka⟩ := p5
                        refine ob_v (dkS ba qa D) rfl ?_ hst (osS_keep (hw 8 rfl (by decide)) (by decide)) ⟨ba, qa, rfl, ka⟩
                        go_simp
                      · -- 7: t115 := Op.extract (t113) 1
                        intro zx1 zx2 zx3 zx4 L V W hL hd hw hst u5 e5 p5
                        obtain ⟨ba, qa, rfl, ka⟩ := p5
                        refine ob_c rfl ?_ hst rfl
                        go_simp
                        try with_reducible rfl
                      · -- 8: tNone := Op.store 24 (t8) (t114)
                        intro zx1 zx2 zx3 zx4 L V W hL hd hw hst u6 e6 p6
                        obtain ⟨bx29a, qx29a, rfl, kx⟩ := p6
                        exact ob_set (k := 6) (g := g8) rfl rfl rfl rfl e6 rfl (by decide) hL rfl disk_info (one4 rfl _ _ _) hst
                      · -- 9: t9 := Op.assign (t115)
                        intro zx1 zx2 zx3 zx4 L V W hL hd hw hst u7 e7 p7
                        obtain rfl : u7 = _ := p7
                        refine ob_c rfl ?_ hst rfl
                        go_simp
                        try with_reducible rfl
                    case en =>
                      intro V W hst u0 e0 p0 u1 e1 p1 u2 e2 p2 u3 e3 p3 u4 e4 p4 u5 e5 p5 u6 e6 p6 u7 e7 p7 u9 e9 p9
                      obtain rfl : u0 = _ := p0
                      obtain rfl : u1 = _ := p1
                      obtain rfl : u2 = _ := p2
                      obtain rfl : u3 = _ := p3
                      obtain rfl : u4 = _ := p4
                      obtain ⟨ba, qa, rfl, ka⟩ := p5
                      obtain ⟨bx29a, qx29a, rfl, kx⟩ := p6
                      obtain rfl : u7 = _ := p7
                      obtain rfl : u9 = _ := p9
                      simp only [EndAll, Act.put, List.getElem_toArray, List.getElem_cons_succ, List.getElem_cons_zero, List.setIfInBounds_toArray, List.set_cons_zero, List.set_cons_succ]
                      have h9 := hst.put (Mono.dk _ _) kx
                      rw [osS_end e6] at h9
                      clear hst kx ka
                      go_wp2_with fail
                      try simp only [Exit.inBlock, Exit.then]
                      exact ret_disk g8 (.slice bx29a D.sec.length qx29a) D.left D.tear D.stopped rfl rfl (h9.at_ 1 rfl) rfl ⟨bx29a, qx29a, rfl, h9.is 0 rfl, hg4 ▸ h9.below⟩
                  · have hnp := (Dk.puts_bad HWR.out hc1).symm.trans HP2.out
                    cases hnp
                    have hcb := bne_of hc1
                    clear HP2 HWR h6
                    go_upto_region 28 with fail
                    have hz := h7.setRow (os1 := [_]) (cs' := dkA bx26 qx26 D)
                    go_wp2_with (first | (refine wpList_load_row rfl 24 (.tmp 4) rfl g4 rfl 24 _ (0, 0) _ (h7.at_ 0 rfl) Try.underlying24 rfl disk_info ?_) | (refine wpList_store_row rfl 24 (.tmp 8) (.tmp 106) rfl g8 (dkA bx26 qx26 D) rfl rfl 24 _ (h7.at_ 1 rfl) disk_info rfl (one4 rfl _ _ _) ?_))
                    try simp only [Exit.inBlock, Exit.then]
                    exact ret_disk g8 (.slice bx26 D.sec.length qx26) D.left D.tear D.stopped rfl rfl (hz.at_ 1 rfl) rfl ⟨bx26, qx26, rfl, hz.is 0 rfl, hg4 ▸ hz.below⟩
              · have hroomI : ¬ (Q : Int) < (p : Int) + (k2 : Int) := by omega
                rw [if_neg hroom, List.nil_append] at hp
                have HWF := Lib.hid (Dk.puts_one.symm.trans hp)
                clear hp
                go_upto_region 29 with fail
                refine wp_region_st [pVal (dkS bi qi di), pVal ?c29b_1, pVal ?c29b_2, pVal (.pointer (some ⟨gb, off, none⟩)), pVal (.slice ub 128 uc), pDkT D c, pDk D, pVal (.int .i64 c), pAny, pVal ?c29b_9] (osS 8 6 24 g8 (.cells #[.slice none 0 0, .int .i64 0, .int .i64 0, .bool false] 24 (0, 0)) [(g4, .cells (dkA bi qi di) 24 (0, 0))] []) 116 [0, 0, 0, 4, 12, 31, 63, 63, 255, 511] [[], [], [], [(2, 110)], [(3, 111)], [(4, 112), (1, 109), (0, 108)], [(5, 113)], [(5, 113)], [(6, 114)], [(7, 115)]] [(0, 108), (1, 109), (2, 110), (3, 111), (4, 112), (5, 113), (6, 114), (7, 115), (9, 9)] (by kernel_rfl) (by kernel_rfl) rfl rfl h6 osS0 (osS1 (by decide)) ?ob ?en
                case ob =>
                  refine ⟨?_, ?_, ?_, ?_, ?_, ?_, ?_, ?_, ?_, ?_, trivial⟩
                  · -- 0: t108 := Op.load 24 (t4)
                    intro zx1 zx2 zx3 zx4 L V W hL hd hw hst 
                    refine ob_c (by first | rfl | (simp [wantE, dstOf, zx1]; done)) ?_ hst rfl
                    have hg := hst.find (g := g4) (o := dkB bi qi di) (osS_mem (by simp) _ _)
                    exact run_load_own rfl rfl hg Try.underlying24 rfl disk_info
                  · -- 1: t109 := Op.move (t12)
                    intro zx1 zx2 zx3 zx4 L V W hL hd hw hst 
                    refine ob_c rfl ?_ hst rfl
                    go_simp
                    try with_reducible rfl
                  · -- 2: t110 := Op.move (t15)
                    intro zx1 zx2 zx3 zx4 L V W hL hd hw hst 
                    refine ob_c rfl ?_ hst rfl
                    go_simp
                    try with_reducible rfl
                  · -- 3: t111 := Op.indexAddr 22 (t110) (const (int IntKind.i64 0))
                    intro zx1 zx2 zx3 zx4 L V W hL hd hw hst u2 e2 p2
                    obtain rfl : u2 = _ := p2
                    refine ob_c (by first | rfl | (simp [wantE, dstOf, zx1]; done)) ?_ hst rfl
                    go_simp
                    all_goals (exact fun h => absurd h (by omega))
                  · -- 4: t112 := Op.load 42 (t111)
                    intro zx1 zx2 zx3 zx4 L V W hL hd hw hst u3 e3 p3
                    obtain rfl : u3 = _ := p3
                    have hz := mask_is _ _ _ _ (hst.base 0 rfl : World.cell? _ _ = some _)
                    refine ob_c (by first | rfl | (simp [wantE, dstOf, zx1]; done)) ?_ hst rfl
                    go_simp
                    try with_reducible rfl
                  · -- 5: t113 := Op.call { callee := value (func 45), args := #[t108, t109, t112], argTypes := #[24, 3, 42] }
                    intro zx1 zx2 zx3 zx4 L V W hL hd hw hst u0 e0 p0 u1 e1 p1 u4 e4 p4
                    obtain rfl : u0 = _ := p0
                    obtain rfl : u1 = _ := p1
                    obtain rfl : u4 = _ := p4
                    refine ob_call (by first | rfl | (simp [wantE, dstOf, zx1]; done)) ?_ (refWrite_p hst (d := di) HDI.out.1 HWF.out (hst.base 2 rfl) ((hst.base 1 rfl : IsBytes _ _ _).sub (mask_is _ _)))
                    go_simp
                    try rfl
                  · -- 6: t114 := Op.extract (t113) 0
                    intro zx1 zx2 zx3 zx4 L V W hL hd hw hst u5 e5 p5
                    obtain ⟨ba, qa, rfl, ka⟩ := p5
                    refine ob_v (dkS ba qa D) rfl ?_ hst (osS_keep (hw 8 rfl (by decide)) (by decide)) ⟨ba, qa, rfl, ka⟩
                    go_simp
                  · -- 7: t115 := Op.extract (t113) 1
                    intro zx1 zx2 zx3 zx4 L V W hL hd hw hst u5 e5 p5
                    obtain ⟨ba, qa, rfl, ka⟩ := p5
                    refine ob_c rfl ?_ hst rfl
                    go_simp
                    try with_reducible rfl
                  · -- 8: tNone := Op.store 24 (t8) (t114)
                    intro zx1 zx2 zx3 zx4 L V W hL hd hw hst u6 e6 p6
                    obtain ⟨bx29b, qx29b, rfl, kx⟩ := p6
                    exact ob_set (k := 6) (g := g8) rfl rfl rfl rfl e6 rfl (by decide) hL rfl disk_info (one4 rfl _ _ _) hst
                  · -- 9: t9 := Op.assign (t115)
                    intro zx1 zx2 zx3 zx4 L V W hL hd hw hst u7 e7 p7
                    obtain rfl : u7 = _ := p7
                    refine ob_c rfl ?_ hst rfl
                    go_simp
                    try with_reducible rfl
                case en =>
                  intro V W hst u0 e0 p0 u1 e1 p1 u2 e2 p2 u3 e3 p3 u4 e4 p4 u5 e5 p5 u6 e6 p6 u7 e7 p7 u9 e9 p9
                  obtain rfl : u0 = _ := p0
                  obtain rfl : u1 = _ := p1
                  obtain rfl : u2 = _ := p2
                  obtain rfl : u3 = _ := p3
                  obtain rfl : u4 = _ := p4
                  obtain ⟨ba, qa, rfl, ka⟩ := p5
                  obtain ⟨bx29b, qx29b, rfl, kx⟩ := p6
                  obtain rfl : u7 = _ := p7
                  obtain rfl : u9 = _ := p9
                  simp only [EndAll, Act.put, List.getElem_toArray, List.getElem_cons_succ, List.getElem_cons_zero, List.setIfInBounds_toArray, List.set_cons_zero, List.set_cons_succ]
                  have h9 := hst.put (Mono.dk _ _) kx
                  rw [osS_end e6] at h9
                  clear hst kx ka
                  go_wp2_with fail
                  try simp only [Exit.inBlock, Exit.then]
                  exact ret_disk g8 (.slice bx29b D.sec.length qx29b) D.left D.tear D.stopped rfl rfl (h9.at_ 1 rfl) rfl ⟨bx29b, qx29b, rfl, h9.is 0 rfl, hg4 ▸ h9.below⟩
end Go.Proofs.Ytnfgapdpnihicaa
