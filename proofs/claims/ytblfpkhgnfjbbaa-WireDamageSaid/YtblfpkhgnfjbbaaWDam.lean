/- WireDamage: the plain law, and the walk. -/
import Derived.Test.YtblfpkhgnfjbbaaWBeg
import Derived.Test.YtblfpkhgnfjbbaaFlip
import Derived.Test.YtblfpkhgnfjbbaaRegP
set_option linter.unusedVariables false
namespace Go.Proofs.Ytblfpkhgnfjbbaa
open Go.RowKit

theorem sum4_inj {a b : BitVec 32} (h : sum4 a = sum4 b) : a = b := by
  have ha := a.isLt
  have hb := b.isLt
  obtain ⟨y0, y1, y2, y3, e, z0, z1, z2, z3⟩ := sum4_bytes a
  obtain ⟨x0, x1, x2, x3, e', t0, t1, t2, t3⟩ := sum4_bytes b
  rw [e, e'] at h
  simp only [List.cons.injEq, and_true] at h
  obtain ⟨rfl, rfl, rfl, rfl⟩ := h
  exact BitVec.eq_of_toNat_eq (by omega)
theorem readF_bad {n : Nat} {x y : List UInt8} (hn : n ≤ 8192) (hx : x.length = n) (hy : y.length = 4) (h : y ≠ sum4 (Wire.sumOf x)) : Wire.readF (Wire.encU n ++ x ++ y) 0 = ([], 0, 40) := by
  have hd : Wire.decF (Wire.encU n ++ x ++ y) = .error 40 := by
    unfold Wire.decF
    rw [List.append_assoc, Wire.dec_enc _ (by omega)]
    simp only
    rw [if_neg (by omega), if_neg (by simp only [List.length_append]; omega), if_neg]
    have e1 : ((Wire.encU n ++ (x ++ y)).drop (Wire.encU n).length) = x ++ y := List.drop_left
    have e2 : ((Wire.encU n ++ (x ++ y)).drop ((Wire.encU n).length + n)) = y := by
      rw [← List.drop_drop, e1, ← hx, List.drop_left]
    rw [e1, e2, ← hy, List.take_length, ← hx, List.take_left]
    exact h
  unfold Wire.readF
  rw [if_neg (by omega)]
  show (match Wire.decF ((Wire.encU n ++ x ++ y).drop 0) with | .error c => ([], 0, c) | .ok (n, k) => (n, (0 : Int) + k, 0)) = _
  rw [List.drop_zero, hd]
theorem flip_sum {p : List UInt8} {f bits : Nat} (hf : f ≤ 8 * p.length) (h : Crc.maskTo (8 * p.length) f bits 32 ≠ 0) : sum4 (Wire.sumOf p) ≠ sum4 (Wire.sumOf (Crc.flipTo p f bits 32)) := fun e => h ((Crc.ext_flip 0#32 p f bits hf).1 (sum4_inj e).symm)
theorem flip_ne {p : List UInt8} {f bits : Nat} (hf : f ≤ 8 * p.length) (h : Crc.maskTo (8 * p.length) f bits 32 ≠ 0) : Crc.flipTo p f bits 32 ≠ p := fun e => h ((Crc.ext_flip 0#32 p f bits hf).1 (by rw [e]))

set_option maxRecDepth 4000 in
set_option maxHeartbeats 8000000 in
theorem damage_walk (w : World) (pv : Value) (p : List UInt8) (hp : IsBytes w pv p) (hpl : p.length ≤ 140737488351232) (cut : Int) (hcut : -9223372036854775808 ≤ cut ∧ cut ≤ 9223372036854775807) (s : BitVec 32) :
    Calls Try.prog 7 #[pv, .int .i64 cut, .int .u32 s.toNat] w fun e w' => e = .returned (.bool true) ∧ Below w.heap.size w w' := by
  obtain ⟨hi1, hi2⟩ := hcut
  obtain ⟨pb, pq, rfl, hpc, hpq, -⟩ := hp.out
  have HP := Lib.hid hp
  clear hp
  have key : ∃ c : Nat, (c : Int) ≤ 9223372036854775807 ∧ ((cut < 0 ∧ -(cut + 1) = (c : Int)) ∨ (¬ cut < 0 ∧ cut = (c : Int))) := by
    by_cases h : cut < 0
    · exact ⟨(-(cut + 1)).toNat, by omega, .inl ⟨h, by omega⟩⟩
    · exact ⟨cut.toNat, by omega, .inr ⟨h, by omega⟩⟩
  obtain ⟨c, hc, hcc⟩ := key
  obtain ⟨n, hn⟩ : ∃ n, p.length = n := ⟨_, rfl⟩
  have HN := Lib.hid hn
  rw [hn] at hpl hpc HP ⊢
  clear hn
  go_enter Try.func7, Try.ntmps7
  go_wp2_with fail
  refine (example_any _).mono ?_
  rintro e w1 ⟨rfl, hb1⟩
  have h1 := ((St.start w).call hb1).putOld (P := (IsBytes · (.slice pb n pq) p)) (Mono.bytes _ _) HP.out
  clear hb1
  by_cases hbig : 8192 < n
  · have hbig : (8192 : Int) < (n : Int) := by omega
    go_wp2_with fail
    go_ret
    exact ⟨rfl, h1.below⟩
  have hn8 : n ≤ 8192 := by omega
  have hbig : ¬ (8192 : Int) < (n : Int) := by omega
  have hF := encF_length p
  rw [HN.out] at hF
  obtain ⟨A, hA⟩ : ∃ A, (Wire.encF p).length = A := ⟨_, rfl⟩
  obtain ⟨k, hk⟩ : ∃ k, (Wire.encU n).length = k := ⟨_, rfl⟩
  have hk0 := Wire.encU_pos n
  have hk10 := Wire.encU_len10 (n := n) (by omega)
  rw [hk] at hk0 hk10 hF
  rw [hA] at hF
  obtain ⟨P, hP⟩ : ∃ P, k + n = P := ⟨_, rfl⟩
  have e1 : (A : Int) - 4 = (P : Int) := by omega
  have e2 : (P : Int) - (n : Int) = (k : Int) := by omega
  have e3 : ¬ (k : Int) < 1 := by omega
  have hAP : A = P + 4 := by omega
  have hP2 : P ≤ 8202 := by omega
  have HA := Lib.hid (And.intro hA (And.intro hk (And.intro hP hAP)))
  clear hA hk hP hF hAP
  obtain ⟨f, e4, hf⟩ : ∃ f : Nat, (c : Int) % (8 * (n : Int) + 1) = (f : Int) ∧ f ≤ 8 * n := ⟨c % (8 * n + 1), by rw [show (8 * (n : Int) + 1) = ((8 * n + 1 : Nat) : Int) from by omega]; exact (Int.natCast_emod c (8 * n + 1)).symm, by have := Nat.mod_lt c (show 0 < 8 * n + 1 by omega); omega⟩
  obtain ⟨f2, e5, hf2⟩ : ∃ f : Nat, (c : Int) % 33 = (f : Int) ∧ f ≤ 32 := ⟨c % 33, by omega, by omega⟩
  have HE := Lib.hid (And.intro e1 (And.intro e2 (And.intro e3 (And.intro e4 e5))))
  clear e1 e2 e3 e4 e5
  go_upto_if 27 with fail
  go_cut [1] from 28 to 30 (fun u wx => u = .int .i64 c ∧ wx = w1)
  case first =>
    rcases hcc with ⟨hneg, hcv⟩ | ⟨hneg, rfl⟩
    · go_wp2_with fail
      go_meet
      case rel => exact ⟨rfl, rfl⟩
    · go_wp2_with fail
      go_meet
      case rel => exact ⟨rfl, rfl⟩
  case rest =>
    obtain ⟨rfl, rfl⟩ := hcut
    go_wp2_with fail
    refine (Calls.okS h1 (fun _ h => by simp [keys] at h) (appendFrame_any _ _ [] _ p (IsBytes.none _) (h1.is 0 rfl) (by rw [HN.out]; simp; omega))).mono ?_
    rintro e w8 ⟨b8, c8, rfl, h8⟩
    rw [HA.out.1] at h8 ⊢
    have q8 : A ≤ c8 := by obtain ⟨_, _, e, h, -⟩ := (h8.is 0 rfl : IsBytes _ _ _).out; have := HA.out.1; cases e; omega
    obtain ⟨e1, e2, e3, e4, e5⟩ := HE.out
    go_wp2_with fail
    refine (flip_any _ _ p (h8.is 1 rfl) f (by rw [HN.out]; exact hf) (by rw [HN.out]; exact hpl) s).mono ?_
    rintro e w9 ⟨dv, rfl, hd, hb9⟩
    have h9 := (h8.call hb9).putOwn hd (fun _ h => by simp [keys] at h)
    rw [HN.out]
    obtain ⟨any, hany⟩ : ∃ any, decide (Crc.maskTo (8 * n) f s.toNat 32 ≠ 0) = any := ⟨_, rfl⟩
    rw [hany]
    obtain ⟨dl, hdl⟩ : ∃ dl, Crc.flipTo p f s.toNat 32 = dl := ⟨_, rfl⟩
    have hdn : dl.length = n := by rw [← hdl, Crc.flipTo_length, HN.out]
    rw [hdl] at h9
    have HANY := Lib.hid (And.intro hany hdl)
    clear hany hdl hb9 h8 hd
    have hpart := (h9.get 1 rfl : IsBytes _ _ _).part P A c8 (by have := HA.out.2.2.2; omega) (by have := HA.out.1; omega) q8 (Nat.le_refl _)
    have hhead := (h9.get 1 rfl : IsBytes _ _ _).take k (by have := HA.out.1; omega)
    obtain ⟨sl, hsl⟩ : ∃ sl, sum4 (Wire.sumOf p) = sl := ⟨_, rfl⟩
    have hs4 : sl.length = 4 := by rw [← hsl]; rfl
    have htail : ((Wire.encF p).take A).drop P = sl := by
      rw [← HA.out.1, List.take_length]
      unfold Wire.encF
      rw [HN.out, hsl, List.drop_append_of_le_length (by rw [List.length_append, HA.out.2.1, HN.out]; have := HA.out.2.2.1; omega), List.drop_of_length_le (by rw [List.length_append, HA.out.2.1, HN.out]; have := HA.out.2.2.1; omega), List.nil_append]
    have hhd : (Wire.encF p).take k = Wire.encU n := by
      unfold Wire.encF
      rw [HN.out, List.append_assoc, ← HA.out.2.1, List.take_left]
    have hcP : ¬ c8 = P := by omega
    rw [htail, if_neg hcP] at hpart
    rw [hhd] at hhead
    clear htail hhd
    have h10 := ((h9.put (Mono.bytes _ _) hpart).put (Mono.bytes _ _) hhead).put (Mono.bytes _ _) (h9.get 0 rfl : IsBytes _ _ _)
    clear hpart hhead h9
    obtain ⟨b9, c9, rfl, -⟩ := (h10.is 0 rfl : IsBytes _ _ _).out
    rw [hdn] at h10 ⊢
    have HLN := Lib.hid (And.intro hdn (And.intro hs4 (And.intro (show (Wire.encU n).length ≤ 10 by have := HA.out.2.1; omega) hn8)))
    have x1 : (k : Int) ≤ (c8 : Int) := by have := HA.out.2.2.1; have := HA.out.2.2.2; omega
    have x2 : (P : Int) ≤ (A : Int) := by omega
    have x3 : (P : Int) ≤ (c8 : Int) := by omega
    have x4 : (A : Int) ≤ (c8 : Int) := by omega
    have x5 : (0 : Int) ≤ (P : Int) := by omega
    have x6 : (P : Int) ≤ 9223372036854775807 := by omega
    have x7 : -9223372036854775808 ≤ (P : Int) := by omega
    have hwr : IntKind.i64.wrap (P : Int) = (P : Int) := wrap_small _ (by omega) (by omega)
    go_upto_if 53 with fail
    go_cut [12, 13, 14, 15] from 54 to 74 (fun _ _ _ _ wx => St w wx [] [(IsBytes · (.slice (b8.map (·.add P)) (A - P) (c8 - P)) sl), (IsBytes · (.slice b8 A c8) (Wire.encF p))])
    case first =>
      have hfacts : ∀ (d : List (World → Prop)) (Q : World → Prop), Q ∈ [(IsBytes · (.slice (b8.map (·.add P)) (A - P) (c8 - P)) sl), (IsBytes · (.slice b8 A c8) (Wire.encF p))] → Q ∈ d ++ [(IsBytes · (.slice b9 n c9) dl), (IsBytes · (.slice b8 k c8) (Wire.encU n)), (IsBytes · (.slice (b8.map (·.add P)) (A - P) (c8 - P)) sl), (IsBytes · (.slice b9 n c9) dl), (IsBytes · (.slice b8 A c8) (Wire.encF p)), (IsBytes · (.slice pb n pq) p)] := fun d Q hQ => by
        refine List.mem_append_right _ ?_
        simp only [List.mem_cons, List.not_mem_nil, or_false] at hQ ⊢
        rcases hQ with rfl | rfl <;> simp
      cases any with
      | false =>
        go_wp2_with fail
        go_meet
        case rel => exact h10.facts (hfacts [])
      | true =>
        have hne : sl ≠ sum4 (Wire.sumOf dl) := by
          rw [← hsl, ← HANY.out.2]
          exact flip_sum (by rw [HN.out]; exact hf) (by rw [HN.out]; exact of_decide_eq_true HANY.out.1)
        go_upto_region 12 with fail
        refine wp_region_sto [pAny, pVal ?c12_1, pVal ?c12_2, pVal (.slice b8 k c8), pAny, pVal ?c12_5, pAny, pVal ?c12_7, pVal ?c12_8, pVal ?c12_9, pVal (.int .i64 P), pVal (.slice (b8.map (·.add P)) (A - P) (c8 - P)), pBytes (Wire.encU n ++ dl ++ sl), pBytes (Wire.encU n ++ dl ++ sl)] (fun oo => osC ([] ++ oo)) (ow4 0 4 6 12 5 (Wire.encU n) dl) 106 [0, 0, 0, 6, 15, 0, 63, 0, 0, 256, 768, 1920, 4095, 8191] [[], [], [], [(2, 56), (1, 55)], [(3, 57), (0, 54)], [], [(5, 59), (4, 58)], [], [], [(8, 62)], [(9, 63)], [(10, 64), (7, 61)], [(11, 65), (6, 60)], [(12, 66)]] [(0, 54), (1, 55), (2, 56), (3, 57), (4, 58), (5, 59), (6, 60), (7, 61), (8, 62), (9, 63), (10, 64), (11, 65), (12, 66), (13, 12)] (by kernel_rfl) (by kernel_rfl) rfl rfl h10 ow4_none (fun _ _ _ => rfl) (ow4_all (by decide)) (fun _ _ _ => rfl) ?ob ?en
        case ob =>
          refine ⟨?_, ?_, ?_, ?_, ?_, ?_, ?_, ?_, ?_, ?_, ?_, ?_, ?_, ?_, trivial⟩
          · -- 0: t54 := Op.buildSlice 22 0 #[]
            intro zx1 zx2 zx3 zx4 L V W hL hd hw oo hoo hst 
            exact ob4_build rfl (by decide) (by decide) (by decide) osC_perm (fun _ _ => rfl) rfl rfl Try.underlying22 (by kernel_rfl) hL (hw 4 rfl (by decide)) (hw 6 rfl (by decide)) (hw 12 rfl (by decide)) hoo hst
          · -- 1: t55 := Op.move (t8)
            intro zx1 zx2 zx3 zx4 L V W hL hd hw oo hoo hst 
            refine opW_mono ?_ fun v W' h => ⟨oo, hoo, h⟩
            refine ob_c rfl ?_ hst rfl
            go_simp
            try with_reducible rfl
          · -- 2: t56 := Op.move (t9)
            intro zx1 zx2 zx3 zx4 L V W hL hd hw oo hoo hst 
            refine opW_mono ?_ fun v W' h => ⟨oo, hoo, h⟩
            refine ob_c rfl ?_ hst rfl
            go_simp
            try with_reducible rfl
          · -- 3: t57 := Op.slice 22 (t55) none (some (t56)) none
            intro zx1 zx2 zx3 zx4 L V W hL hd hw oo hoo hst u1 e1 p1 u2 e2 p2
            obtain rfl : u1 = _ := p1
            obtain rfl : u2 = _ := p2
            refine opW_mono ?_ fun v W' h => ⟨oo, hoo, h⟩
            refine ob_c rfl ?_ hst rfl
            go_simp
          · -- 4: t58 := Op.call { callee := builtin Builtin.append, args := #[t54, t57], argTypes := #[22, 22] }
            intro zx1 zx2 zx3 zx4 L V W hL hd hw oo hoo hst u0 e0 p0 u3 e3 p3
            obtain rfl : u3 = _ := p3
            exact ob4_app1 rfl (by decide) (by decide) (by decide) osC_perm (fun _ _ => rfl) rfl rfl Try.underlying22 Try.underlying22 byte_info (by rw [e0]; rfl) rfl (hst.base 1 rfl) (by have := HLN.out; omega) (hd 0 rfl) hL (hw 6 rfl (by decide)) (hw 12 rfl (by decide)) hoo hst
          · -- 5: t59 := Op.move (t10)
            intro zx1 zx2 zx3 zx4 L V W hL hd hw oo hoo hst 
            refine opW_mono ?_ fun v W' h => ⟨oo, hoo, h⟩
            refine ob_c rfl ?_ hst rfl
            go_simp
            try with_reducible rfl
          · -- 6: t60 := Op.call { callee := builtin Builtin.append, args := #[t58, t59], argTypes := #[22, 22] }
            intro zx1 zx2 zx3 zx4 L V W hL hd hw oo hoo hst u4 e4 p4 u5 e5 p5
            obtain rfl : u5 = _ := p5
            exact ob4_app2 rfl (by decide) (by decide) (by decide) osC_perm (fun _ _ => rfl) rfl rfl Try.underlying22 Try.underlying22 byte_info (by rw [e4]; rfl) rfl (hst.base 0 rfl) (by have := HLN.out; omega) (hd 0 rfl) (hd 4 rfl) hL (hw 12 rfl (by decide)) hoo hst
          · -- 7: t61 := Op.move (t8)
            intro zx1 zx2 zx3 zx4 L V W hL hd hw oo hoo hst 
            refine opW_mono ?_ fun v W' h => ⟨oo, hoo, h⟩
            refine ob_c rfl ?_ hst rfl
            go_simp
            try with_reducible rfl
          · -- 8: t62 := Op.move (t8)
            intro zx1 zx2 zx3 zx4 L V W hL hd hw oo hoo hst 
            refine opW_mono ?_ fun v W' h => ⟨oo, hoo, h⟩
            refine ob_c rfl ?_ hst rfl
            go_simp
            try with_reducible rfl
          · -- 9: t63 := Op.call { callee := builtin Builtin.len, args := #[t62], argTypes := #[22] }
            intro zx1 zx2 zx3 zx4 L V W hL hd hw oo hoo hst u8 e8 p8
            obtain rfl : u8 = _ := p8
            refine opW_mono ?_ fun v W' h => ⟨oo, hoo, h⟩
            refine ob_c rfl ?_ hst rfl
            go_simp
            try with_reducible rfl
          · -- 10: t64 := Op.binOp BinOp.sub 3 (t63) (const (int IntKind.i64 4)) 3
            intro zx1 zx2 zx3 zx4 L V W hL hd hw oo hoo hst u9 e9 p9
            obtain rfl : u9 = _ := p9
            refine opW_mono ?_ fun v W' h => ⟨oo, hoo, h⟩
            refine ob_c rfl ?_ hst rfl
            go_simp
            try rw [hwr]
          · -- 11: t65 := Op.slice 22 (t61) (some (t64)) none none
            intro zx1 zx2 zx3 zx4 L V W hL hd hw oo hoo hst u7 e7 p7 u10 e10 p10
            obtain rfl : u7 = _ := p7
            obtain rfl : u10 = _ := p10
            refine opW_mono ?_ fun v W' h => ⟨oo, hoo, h⟩
            refine ob_c rfl ?_ hst rfl
            go_simp
          · -- 12: t66 := Op.call { callee := builtin Builtin.append, args := #[t60, t65], argTypes := #[22, 22] }
            intro zx1 zx2 zx3 zx4 L V W hL hd hw oo hoo hst u6 e6 p6 u11 e11 p11
            obtain rfl : u11 = _ := p11
            exact ob4_app3 rfl (by decide) (by decide) (by decide) osC_perm (fun _ _ => rfl) rfl rfl Try.underlying22 Try.underlying22 byte_info (by rw [e6]; rfl) rfl (hst.base 2 rfl) (by have := HLN.out; omega) (hd 0 rfl) (hd 4 rfl) (hd 6 rfl) hL hoo hst
          · -- 13: t12 := Op.assign (t66)
            intro zx1 zx2 zx3 zx4 L V W hL hd hw oo hoo hst u12 e12 p12
            refine opW_mono ?_ fun v W' h => ⟨oo, hoo, h⟩
            refine ob_v u12 rfl ?_ hst rfl p12
            go_simp
        case en =>
          intro V W hst u0 e0 p0 u1 e1 p1 u2 e2 p2 u3 e3 p3 u4 e4 p4 u5 e5 p5 u6 e6 p6 u7 e7 p7 u8 e8 p8 u9 e9 p9 u10 e10 p10 u11 e11 p11 u12 e12 p12 u13 e13 p13
          obtain rfl : u1 = _ := p1
          obtain rfl : u2 = _ := p2
          obtain rfl : u3 = _ := p3
          obtain rfl : u5 = _ := p5
          obtain rfl : u7 = _ := p7
          obtain rfl : u8 = _ := p8
          obtain rfl : u9 = _ := p9
          obtain rfl : u10 = _ := p10
          obtain rfl : u11 = _ := p11
          obtain ⟨b12, q12, rfl, hb12⟩ := p12
          obtain ⟨b13, q13, rfl, hb13⟩ := p13
          simp only [EndAll, Act.put, List.setIfInBounds_toArray, List.set_cons_zero, List.set_cons_succ]
          have h12 := hst.put (Mono.bytes _ _) hb13
          rw [show osC ([] ++ []) (fun _ => true) V = [] from rfl] at h12
          clear hst e0 e1 e2 e3 e4 e5 e6 e7 e8 e9 e10 e11 e12 e13
          obtain ⟨bl, hbl⟩ : ∃ bl, Wire.encU n ++ dl ++ sl = bl := ⟨_, rfl⟩
          rw [hbl] at h12 ⊢
          go_wp2_with fail
          refine (readFrame_any _ _ _ 0 (h12.is 0 rfl : IsBytes _ _ _)).mono ?_
          rintro e w13 ⟨pv', rfl, -, hb13⟩
          rw [← hbl, readF_bad hn8 hdn HLN.out.2.1 hne]
          have h13 := h12.call hb13
          clear hb13 h12
          go_wp2_with fail
          go_meet
          case rel => exact h13.facts (hfacts [_])
    case rest =>
      have hcut := hcut
      clear h10 h1
      go_wp2_with fail
      refine (flip_any _ _ sl (hcut.is 0 rfl) f2 (by rw [hs4]; omega) (by rw [hs4]; decide) s).mono ?_
      rintro e w16 ⟨dv2, rfl, hd2, hb16⟩
      have h16 := (hcut.call hb16).putOwn hd2 (fun _ h => by simp [keys] at h)
      rw [hs4]
      obtain ⟨any2, hany2⟩ : ∃ any, decide (Crc.maskTo (8 * 4) f2 s.toNat 32 ≠ 0) = any := ⟨_, rfl⟩
      rw [hany2]
      obtain ⟨dl2, hdl2⟩ : ∃ dl, Crc.flipTo sl f2 s.toNat 32 = dl := ⟨_, rfl⟩
      have hdn2 : dl2.length = 4 := by rw [← hdl2, Crc.flipTo_length, hs4]
      rw [hdl2] at h16
      clear hd2 hb16 hcut
      obtain ⟨b16, c16, rfl, -⟩ := (h16.is 0 rfl : IsBytes _ _ _).out
      rw [hdn2] at h16 ⊢
      have HANY2 := Lib.hid (And.intro hany2 hdl2)
      clear hany2 hdl2
      cases any2 with
      | false =>
        go_wp2_with fail
        go_ret
        exact ⟨rfl, h16.below⟩
      | true =>
        have hne2 : dl2 ≠ sum4 (Wire.sumOf p) := by
          rw [hsl, ← HANY2.out.2]
          exact flip_ne (by rw [hs4]; omega) (by rw [hs4]; exact of_decide_eq_true HANY2.out.1)
        have htk : (Wire.encF p).take P = Wire.encU n ++ p := by
          unfold Wire.encF
          rw [HN.out, ← HA.out.2.2.1, ← HA.out.2.1, ← HN.out, ← List.length_append, List.take_left]
        have hfr := (h16.is 2 rfl : IsBytes _ _ _).take P (by have := HA.out; omega)
        rw [htk] at hfr
        clear htk
        have hd2 := (h16.is 0 rfl : IsBytes _ _ _)
        have hEP : (Wire.encU n ++ p).length = P := by rw [List.length_append, HA.out.2.1, HN.out]; exact HA.out.2.2.1
        obtain ⟨EP, hEP2⟩ : ∃ l, Wire.encU n ++ p = l := ⟨_, rfl⟩
        rw [hEP2] at hfr hEP
        have ho0 := OwnBytes.made 5 w16 w16.heap.size (Nat.le_refl _)
        have hb0 : Below w16.heap.size w16 (w16.alloc (.cells #[] 5)) := (Below.refl _ _).alloc (Nat.le_refl _) _
        have hfr0 := hfr.below hb0 rfl
        go_wp2_with (first
          | (at_builtin; refine wpList_append_bytes rfl (.tmp 88) (.tmp 93) 22 22 rfl w16.heap.size 5 Try.underlying22 byte_info _ [] rfl ho0 _ EP rfl (hfr0.src Try.underlying22) (by simp only [List.length_nil]; omega) hb0.size ?_; intro v3 w1 ho1 hg1; have hb1 := Below.grown hb0 hg1 hb0.size (fun k hk => (World.ownsRow.lt ho0 k hk).1); rw [List.nil_append] at ho1)
          | (at_builtin; refine wpList_append_bytes rfl (.tmp 94) (.tmp 95) 22 22 rfl w16.heap.size 5 Try.underlying22 byte_info _ EP rfl ho1 _ dl2 rfl ((hd2.below hb1 rfl).src Try.underlying22) (by rw [hEP, hdn2]; omega) hb1.size ?_; intro v4 w4 ho4 hg4; have hb4 := Below.grown hb1 hg4 hb1.size (fun k hk => (World.ownsRow.lt ho1 k hk).1)))
        refine (readFrame_any _ _ _ 0 ho4.is).mono ?_
        rintro e w13 ⟨pv', rfl, -, hb13⟩
        rw [← hEP2, readF_bad hn8 HN.out hdn2 hne2]
        have hb := h16.below.trans ((hb4.trans (hb13.mono hb4.size)).mono h16.below.size)
        clear hb13 ho4 hb4 h16
        go_wp2_with fail
        go_ret
        exact ⟨rfl, hb⟩
end Go.Proofs.Ytblfpkhgnfjbbaa
