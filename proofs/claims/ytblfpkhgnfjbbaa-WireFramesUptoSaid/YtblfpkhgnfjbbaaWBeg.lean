/- WireBeginnings: the plain law, and the walk. -/
import Derived.Test.YtblfpkhgnfjbbaaWOne
import Derived.Test.YtblfpkhgnfjbbaaWLen
set_option linter.unusedVariables false
namespace Go.Proofs.Ytblfpkhgnfjbbaa
open Go.RowKit

theorem encF_length (p : List UInt8) : (Wire.encF p).length = (Wire.encU p.length).length + (p.length + 4) := by
  unfold Wire.encF sum4
  simp only [List.length_append, List.length_cons, List.length_nil]
  omega
theorem decF_short {p : List UInt8} {j : Nat} (hp : p.length ≤ 8192) (hj : j < (Wire.encF p).length) : Wire.decF ((Wire.encF p).take j) = .error 41 := by
  have hlen := encF_length p
  unfold Wire.decF
  have he : Wire.encF p = Wire.encU p.length ++ (p ++ sum4 (Wire.sumOf p)) := by unfold Wire.encF; rw [List.append_assoc]
  by_cases h : j < (Wire.encU p.length).length
  · have : (Wire.encF p).take j = (Wire.encU p.length).take j := by rw [he, List.take_append_of_le_length (by omega)]
    rw [this, Wire.dec_short (by omega) h]
  · have : (Wire.encF p).take j = Wire.encU p.length ++ (p ++ sum4 (Wire.sumOf p)).take (j - (Wire.encU p.length).length) := by rw [he, List.take_append, List.take_of_length_le (by omega)]
    rw [this, Wire.dec_enc _ (by omega)]
    simp only
    rw [if_neg (by omega), if_pos]
    rw [← this, List.length_take]
    omega
theorem readU_short {n j : Nat} (hn : n < 2 ^ 64) (hj : j < (Wire.encU n).length) : Wire.readU ((Wire.encU n).take j) 0 = (0, 0, 41) := by
  unfold Wire.readU
  rw [if_neg (by omega)]
  show (match Wire.dec (((Wire.encU n).take j).drop 0) with | .error c => (0, 0, c) | .ok (n, k) => (n, (0 : Int) + k, 0)) = _
  rw [List.drop_zero, Wire.dec_short hn hj]
theorem readT_short {s : List UInt8} {j : Nat} (hs : s.length < 2 ^ 64) (hj : j < (Wire.encT s).length) : Wire.readT ((Wire.encT s).take j) 0 = ([], 0, 41) := by
  unfold Wire.readT
  rw [if_neg (by omega)]
  show (match Wire.decT (((Wire.encT s).take j).drop 0) with | .error c => ([], 0, c) | .ok (n, k) => (n, (0 : Int) + k, 0)) = _
  rw [List.drop_zero, Wire.decT_short hs hj]
theorem readF_short {p : List UInt8} {j : Nat} (hp : p.length ≤ 8192) (hj : j < (Wire.encF p).length) : Wire.readF ((Wire.encF p).take j) 0 = ([], 0, 41) := by
  unfold Wire.readF
  rw [if_neg (by omega)]
  show (match Wire.decF (((Wire.encF p).take j).drop 0) with | .error c => ([], 0, c) | .ok (n, k) => (n, (0 : Int) + k, 0)) = _
  rw [List.drop_zero, decF_short hp hj]
theorem encU_apart {n m : Nat} (hn : n < 2 ^ 64) (hm : m < 2 ^ 64) (h : n ≠ m) : Wire.encU n ≠ (Wire.encU m).take (Wire.encU n).length := fun e => h (Wire.encU_inj_take hn hm (t := (Wire.encU m).drop (Wire.encU n).length) (u := []) (by
  rw [List.append_nil]
  conv => lhs; rw [e]
  rw [List.length_take]
  conv => lhs; arg 2; rw [show min (Wire.encU n).length (Wire.encU m).length = (Wire.encU n).length from by have := congrArg List.length e; rw [List.length_take] at this; omega]
  exact List.take_append_drop _ _))
/-- An Append function onto nil: the slice it gives, kept. -/
theorem Calls.okS {w0 W : World} {f : FuncId} {args : Array Value} {os : List (Nat × Obj)} {fs : List (World → Prop)} {x : List UInt8} (h : St w0 W os fs) (hos : ∀ k ∈ keys os, k < W.heap.size)
    (hc : Calls Try.prog f args W fun e w' => ∃ v, e = .returned v ∧ OwnBytes 5 W.heap.size w' v ([] ++ x) ∧ Below W.heap.size W w') :
    Calls Try.prog f args W fun e w' => ∃ b c, e = .returned (.slice b x.length c) ∧ St w0 w' os ((IsBytes · (.slice b x.length c) x) :: fs) :=
  (Calls.ok h hos hc).mono fun _ w' ⟨v, h1, h2⟩ => by
    obtain ⟨b, c, rfl, hk⟩ := h2.get 0 rfl
    exact ⟨b, c, h1, h2.pop.put (Mono.bytes _ _) hk⟩

set_option maxRecDepth 4000 in
set_option maxHeartbeats 4000000 in
theorem beginnings_walk (w : World) (s0 s1 : BitVec 64) (s : ByteArray) (hs : s.size ≤ 140737488351232) (pv : Value) (p : List UInt8) (hp : IsBytes w pv p) (hpl : p.length ≤ 140737488351232) (cut : Int) (hcut : -9223372036854775808 ≤ cut ∧ cut ≤ 9223372036854775807) :
    Calls Try.prog 5 #[.int .u64 s0.toNat, .int .u64 s1.toNat, .string s, pv, .int .i64 cut] w fun e w' => e = .returned (.bool true) ∧ Below w.heap.size w w' := by
  obtain ⟨n, hn, hn'⟩ : ∃ n : Nat, s0.toNat = n ∧ n < 2 ^ 64 := ⟨_, rfl, s0.isLt⟩
  obtain ⟨m, hm, hm'⟩ : ∃ m : Nat, s1.toNat = m ∧ m < 2 ^ 64 := ⟨_, rfl, s1.isLt⟩
  rw [hn, hm]
  clear hn hm s0 s1
  obtain ⟨hi1, hi2⟩ := hcut
  obtain ⟨pb, pq, rfl, -⟩ := hp.out
  have HP := Lib.hid hp
  clear hp
  go_enter Try.func5, Try.ntmps5
  go_wp2_with fail
  refine (example_any _).mono ?_
  rintro e w1 ⟨rfl, hb1⟩
  have h1 := ((St.start w).call hb1).putOld (P := (IsBytes · (.slice pb p.length pq) p)) (Mono.bytes _ _) HP.out
  clear hb1
  go_wp2_with fail
  refine (Calls.okS h1 (fun _ h => by simp [keys] at h) (appendUint_any _ _ [] n hn' (IsBytes.none _) (by decide))).mono ?_
  rintro e w2 ⟨b2, c2, rfl, h2⟩
  go_wp2_with fail
  refine (Calls.okS h2 (fun _ h => by simp [keys] at h) (appendUint_any _ _ [] m hm' (IsBytes.none _) (by decide))).mono ?_
  rintro e w4 ⟨b4, c4, rfl, h4⟩
  clear h1 h2
  have q2 : (Wire.encU n).length ≤ c2 := by obtain ⟨_, _, e, h, -⟩ := (h4.is 1 rfl : IsBytes _ _ _).out; cases e; exact h
  have q4 : (Wire.encU m).length ≤ c4 := by obtain ⟨_, _, e, h, -⟩ := (h4.is 0 rfl : IsBytes _ _ _).out; cases e; exact h
  go_upto_region 3 with fail
  go_cut [49] from 30 to 49 (fun u wx => u = .bool false ∧ St w wx [] [(IsBytes · (.slice b2 (Wire.encU n).length c2) (Wire.encU n)), (IsBytes · (.slice pb p.length pq) p)])
  case first =>
    by_cases hnm : n = m
    · subst hnm
      have hnm : (n : Int) = (n : Int) := rfl
      refine wp_region_st [pVal ?c3A_0, pVal ?c3A_1, pVal (.bool false), pVal ?c3A_3, pVal ?c3A_4, pVal ?c3A_5, pVal ?c3A_6, pVal ?c3A_7, pVal ?c3A_8, pVal ?c3A_9, pVal ?c3A_10, pVal ?c3A_11, pVal ?c3A_12, pVal ?c3A_13, pVal ?c3A_14, pVal ?c3A_15, pVal ?c3A_16, pVal ?c3A_17, pVal ?c3A_18, pVal ?c3A_19] (osC []) 121 [0, 0, 3, 7, 15, 31, 15, 79, 255, 511, 1023, 2047, 4095, 2047, 2047, 18431, 59391, 124927, 262143, 524287] [[], [], [(1, 31), (0, 30)], [(2, 32)], [(3, 33)], [(3, 33), (4, 34)], [(3, 33)], [(3, 33), (6, 36)], [(3, 33), (7, 37), (5, 35)], [(8, 38), (3, 33)], [(9, 39)], [(10, 40)], [(10, 40), (11, 41)], [(10, 40)], [(10, 40)], [(10, 40), (14, 44)], [(10, 40), (15, 45), (13, 43)], [(10, 40), (16, 46)], [(10, 40), (17, 47), (12, 42)], [(18, 48), (10, 40)]] [(0, 30), (1, 31), (2, 32), (3, 33), (4, 34), (5, 35), (6, 36), (7, 37), (8, 38), (9, 39), (10, 40), (11, 41), (12, 42), (13, 43), (14, 44), (15, 45), (16, 46), (17, 47), (18, 48), (19, 49)] (by kernel_rfl) (by kernel_rfl) rfl rfl h4 osC0 osC1 ?ob ?en
      case ob =>
        refine ⟨?_, ?_, ?_, ?_, ?_, ?_, ?_, ?_, ?_, ?_, ?_, ?_, ?_, ?_, ?_, ?_, ?_, ?_, ?_, ?_, trivial⟩
        · -- 0: t30 := Op.move (t0)
          intro zx1 zx2 zx3 zx4 L V W hL hd hw hst 
          refine ob_c rfl ?_ hst rfl
          go_simp
          try with_reducible rfl
        · -- 1: t31 := Op.move (t1)
          intro zx1 zx2 zx3 zx4 L V W hL hd hw hst 
          refine ob_c rfl ?_ hst rfl
          go_simp
          try with_reducible rfl
        · -- 2: t32 := Op.binOp BinOp.neq 23 (t30) (t31) 23
          intro zx1 zx2 zx3 zx4 L V W hL hd hw hst u0 e0 p0 u1 e1 p1
          obtain rfl : u0 = _ := p0
          obtain rfl : u1 = _ := p1
          refine ob_c rfl ?_ hst rfl
          go_simp
          try simp [hnm]
        · -- 3: t33 := Op.move (t32)
          intro zx1 zx2 zx3 zx4 L V W hL hd hw hst u2 e2 p2
          obtain rfl : u2 = _ := p2
          refine ob_c rfl ?_ hst rfl
          go_simp
          try with_reducible rfl
        · -- 4: t34 := Op.move (t12)
          intro zx1 zx2 zx3 zx4 L V W hL hd hw hst u3 e3 p3
          obtain rfl : u3 = _ := p3
          refine ob_o ?_ hst ?_
          · first | rfl | (simp [wantE, dstOf, zx1]; done)
          · rfl
        · -- 5: t35 := Op.call { callee := builtin Builtin.len, args := #[t34], argTypes := #[22] }
          intro zx1 zx2 zx3 zx4 L V W hL hd hw hst u4 e4 p4 u3 e3 p3
          obtain rfl : u4 = _ := p4
          obtain rfl : u3 = _ := p3
          refine ob_o ?_ hst ?_
          · first | rfl | (simp [wantE, dstOf, zx1]; done)
          · rfl
        · -- 6: t36 := Op.move (t13)
          intro zx1 zx2 zx3 zx4 L V W hL hd hw hst u3 e3 p3
          obtain rfl : u3 = _ := p3
          refine ob_o ?_ hst ?_
          · first | rfl | (simp [wantE, dstOf, zx1]; done)
          · rfl
        · -- 7: t37 := Op.call { callee := builtin Builtin.len, args := #[t36], argTypes := #[22] }
          intro zx1 zx2 zx3 zx4 L V W hL hd hw hst u6 e6 p6 u3 e3 p3
          obtain rfl : u6 = _ := p6
          obtain rfl : u3 = _ := p3
          refine ob_o ?_ hst ?_
          · first | rfl | (simp [wantE, dstOf, zx1]; done)
          · rfl
        · -- 8: t38 := Op.binOp BinOp.leq 3 (t35) (t37) 3
          intro zx1 zx2 zx3 zx4 L V W hL hd hw hst u5 e5 p5 u7 e7 p7 u3 e3 p3
          obtain rfl : u5 = _ := p5
          obtain rfl : u7 = _ := p7
          obtain rfl : u3 = _ := p3
          refine ob_o ?_ hst ?_
          · first | rfl | (simp [wantE, dstOf, zx1]; done)
          · rfl
        · -- 9: t39 := Op.pick (t33) (t38) (const (bool false))
          intro zx1 zx2 zx3 zx4 L V W hL hd hw hst u3 e3 p3 u8 e8 p8
          obtain rfl : u3 = _ := p3
          obtain rfl : u8 = _ := p8
          refine ob_c rfl ?_ hst rfl
          go_simp
          try with_reducible rfl
        · -- 10: t40 := Op.move (t39)
          intro zx1 zx2 zx3 zx4 L V W hL hd hw hst u9 e9 p9
          obtain rfl : u9 = _ := p9
          refine ob_c rfl ?_ hst rfl
          go_simp
          try with_reducible rfl
        · -- 11: t41 := Op.move (t12)
          intro zx1 zx2 zx3 zx4 L V W hL hd hw hst u10 e10 p10
          obtain rfl : u10 = _ := p10
          refine ob_o ?_ hst ?_
          · first | rfl | (simp [wantE, dstOf, zx1]; done)
          · rfl
        · -- 12: t42 := Op.convert 22 9 (t41)
          intro zx1 zx2 zx3 zx4 L V W hL hd hw hst u11 e11 p11 u10 e10 p10
          obtain rfl : u11 = _ := p11
          obtain rfl : u10 = _ := p10
          refine ob_o ?_ hst ?_
          · first | rfl | (simp [wantE, dstOf, zx1]; done)
          · rfl
        · -- 13: t43 := Op.move (t13)
          intro zx1 zx2 zx3 zx4 L V W hL hd hw hst u10 e10 p10
          obtain rfl : u10 = _ := p10
          refine ob_o ?_ hst ?_
          · first | rfl | (simp [wantE, dstOf, zx1]; done)
          · rfl
        · -- 14: t44 := Op.move (t12)
          intro zx1 zx2 zx3 zx4 L V W hL hd hw hst u10 e10 p10
          obtain rfl : u10 = _ := p10
          refine ob_o ?_ hst ?_
          · first | rfl | (simp [wantE, dstOf, zx1]; done)
          · rfl
        · -- 15: t45 := Op.call { callee := builtin Builtin.len, args := #[t44], argTypes := #[22] }
          intro zx1 zx2 zx3 zx4 L V W hL hd hw hst u14 e14 p14 u10 e10 p10
          obtain rfl : u14 = _ := p14
          obtain rfl : u10 = _ := p10
          refine ob_o ?_ hst ?_
          · first | rfl | (simp [wantE, dstOf, zx1]; done)
          · rfl
        · -- 16: t46 := Op.slice 22 (t43) none (some (t45)) none
          intro zx1 zx2 zx3 zx4 L V W hL hd hw hst u13 e13 p13 u15 e15 p15 u10 e10 p10
          obtain rfl : u13 = _ := p13
          obtain rfl : u15 = _ := p15
          obtain rfl : u10 = _ := p10
          refine ob_o ?_ hst ?_
          · first | rfl | (simp [wantE, dstOf, zx1]; done)
          · rfl
        · -- 17: t47 := Op.convert 22 9 (t46)
          intro zx1 zx2 zx3 zx4 L V W hL hd hw hst u16 e16 p16 u10 e10 p10
          obtain rfl : u16 = _ := p16
          obtain rfl : u10 = _ := p10
          refine ob_o ?_ hst ?_
          · first | rfl | (simp [wantE, dstOf, zx1]; done)
          · rfl
        · -- 18: t48 := Op.binOp BinOp.eql 9 (t42) (t47) 9
          intro zx1 zx2 zx3 zx4 L V W hL hd hw hst u12 e12 p12 u17 e17 p17 u10 e10 p10
          obtain rfl : u12 = _ := p12
          obtain rfl : u17 = _ := p17
          obtain rfl : u10 = _ := p10
          refine ob_o ?_ hst ?_
          · first | rfl | (simp [wantE, dstOf, zx1]; done)
          · rfl
        · -- 19: t49 := Op.pick (t40) (t48) (const (bool false))
          intro zx1 zx2 zx3 zx4 L V W hL hd hw hst u10 e10 p10 u18 e18 p18
          obtain rfl : u10 = _ := p10
          obtain rfl : u18 = _ := p18
          refine ob_c rfl ?_ hst rfl
          go_simp
          try with_reducible rfl
      case en =>
        intro V W hst u0 e0 p0 u1 e1 p1 u2 e2 p2 u3 e3 p3 u4 e4 p4 u5 e5 p5 u6 e6 p6 u7 e7 p7 u8 e8 p8 u9 e9 p9 u10 e10 p10 u11 e11 p11 u12 e12 p12 u13 e13 p13 u14 e14 p14 u15 e15 p15 u16 e16 p16 u17 e17 p17 u18 e18 p18 u19 e19 p19
        obtain rfl : u0 = _ := p0
        obtain rfl : u1 = _ := p1
        obtain rfl : u2 = _ := p2
        obtain rfl : u3 = _ := p3
        obtain rfl : u4 = _ := p4
        obtain rfl : u5 = _ := p5
        obtain rfl : u6 = _ := p6
        obtain rfl : u7 = _ := p7
        obtain rfl : u8 = _ := p8
        obtain rfl : u9 = _ := p9
        obtain rfl : u10 = _ := p10
        obtain rfl : u11 = _ := p11
        obtain rfl : u12 = _ := p12
        obtain rfl : u13 = _ := p13
        obtain rfl : u14 = _ := p14
        obtain rfl : u15 = _ := p15
        obtain rfl : u16 = _ := p16
        obtain rfl : u17 = _ := p17
        obtain rfl : u18 = _ := p18
        obtain rfl : u19 = _ := p19
        simp only [EndAll, Act.put, List.setIfInBounds_toArray, List.set_cons_zero, List.set_cons_succ]
        have h9 := hst.facts (fs' := [(IsBytes · (.slice b2 (Wire.encU n).length c2) (Wire.encU n)), (IsBytes · (.slice pb p.length pq) p)]) (fun P hP => by simp only [List.mem_cons, List.not_mem_nil, or_false] at hP; rcases hP with rfl | rfl <;> first | exact List.mem_cons_self | exact List.mem_cons_of_mem _ List.mem_cons_self | exact List.mem_cons_of_mem _ (List.mem_cons_of_mem _ List.mem_cons_self) | exact List.mem_cons_of_mem _ (List.mem_cons_of_mem _ (List.mem_cons_of_mem _ List.mem_cons_self)))
        clear hst e0 e1 e2 e3 e4 e5 e6 e7 e8 e9 e10 e11 e12 e13 e14 e15 e16 e17 e18 e19
        go_wp2_with fail
        go_meet
        case rel => exact ⟨rfl, h9⟩
    · have hnm : ¬ (n : Int) = (m : Int) := by omega
      by_cases hle : (Wire.encU n).length ≤ (Wire.encU m).length
      · have hne := encU_apart hn' hm' (fun e => hnm (by rw [e]))
        have hle : ((Wire.encU n).length : Int) ≤ ((Wire.encU m).length : Int) := by omega
        have h5 := h4.put (Mono.bytes _ _) ((h4.get 0 rfl : IsBytes _ _ _).take (Wire.encU n).length (by omega))
        have r1 : ((Wire.encU n).length : Int) ≤ (c4 : Int) := by omega
        refine wp_region_st [pVal ?c3C_0, pVal ?c3C_1, pVal (.bool true), pVal ?c3C_3, pVal ?c3C_4, pVal ?c3C_5, pVal ?c3C_6, pVal ?c3C_7, pVal (.bool true), pVal ?c3C_9, pVal ?c3C_10, pVal ?c3C_11, pVal (.string ⟨(Wire.encU n).toArray⟩), pVal ?c3C_13, pVal ?c3C_14, pVal ?c3C_15, pVal ?c3C_16, pVal (.string ⟨((Wire.encU m).take (Wire.encU n).length).toArray⟩), pVal (.bool false), pVal ?c3C_19] (osC []) 121 [0, 0, 3, 7, 15, 31, 15, 79, 255, 511, 1023, 2047, 4095, 2047, 2047, 18431, 59391, 124927, 262143, 524287] [[], [], [(1, 31), (0, 30)], [(2, 32)], [(3, 33)], [(3, 33), (4, 34)], [(3, 33)], [(3, 33), (6, 36)], [(3, 33), (7, 37), (5, 35)], [(8, 38), (3, 33)], [(9, 39)], [(10, 40)], [(10, 40), (11, 41)], [(10, 40)], [(10, 40)], [(10, 40), (14, 44)], [(10, 40), (15, 45), (13, 43)], [(10, 40), (16, 46)], [(10, 40), (17, 47), (12, 42)], [(18, 48), (10, 40)]] [(0, 30), (1, 31), (2, 32), (3, 33), (4, 34), (5, 35), (6, 36), (7, 37), (8, 38), (9, 39), (10, 40), (11, 41), (12, 42), (13, 43), (14, 44), (15, 45), (16, 46), (17, 47), (18, 48), (19, 49)] (by kernel_rfl) (by kernel_rfl) rfl rfl h5 osC0 osC1 ?ob ?en
        case ob =>
          refine ⟨?_, ?_, ?_, ?_, ?_, ?_, ?_, ?_, ?_, ?_, ?_, ?_, ?_, ?_, ?_, ?_, ?_, ?_, ?_, ?_, trivial⟩
          · -- 0: t30 := Op.move (t0)
            intro zx1 zx2 zx3 zx4 L V W hL hd hw hst 
            refine ob_c rfl ?_ hst rfl
            go_simp
            try with_reducible rfl
          · -- 1: t31 := Op.move (t1)
            intro zx1 zx2 zx3 zx4 L V W hL hd hw hst 
            refine ob_c rfl ?_ hst rfl
            go_simp
            try with_reducible rfl
          · -- 2: t32 := Op.binOp BinOp.neq 23 (t30) (t31) 23
            intro zx1 zx2 zx3 zx4 L V W hL hd hw hst u0 e0 p0 u1 e1 p1
            obtain rfl : u0 = _ := p0
            obtain rfl : u1 = _ := p1
            refine ob_c rfl ?_ hst rfl
            go_simp
            try simp [hnm]
          · -- 3: t33 := Op.move (t32)
            intro zx1 zx2 zx3 zx4 L V W hL hd hw hst u2 e2 p2
            obtain rfl : u2 = _ := p2
            refine ob_c rfl ?_ hst rfl
            go_simp
            try with_reducible rfl
          · -- 4: t34 := Op.move (t12)
            intro zx1 zx2 zx3 zx4 L V W hL hd hw hst u3 e3 p3
            obtain rfl : u3 = _ := p3
            refine ob_c (by first | rfl | (simp [wantE, dstOf, zx1]; done)) ?_ hst rfl
            go_simp
            try with_reducible rfl
          · -- 5: t35 := Op.call { callee := builtin Builtin.len, args := #[t34], argTypes := #[22] }
            intro zx1 zx2 zx3 zx4 L V W hL hd hw hst u4 e4 p4 u3 e3 p3
            obtain rfl : u4 = _ := p4
            obtain rfl : u3 = _ := p3
            refine ob_c (by first | rfl | (simp [wantE, dstOf, zx1]; done)) ?_ hst rfl
            go_simp
            try with_reducible rfl
          · -- 6: t36 := Op.move (t13)
            intro zx1 zx2 zx3 zx4 L V W hL hd hw hst u3 e3 p3
            obtain rfl : u3 = _ := p3
            refine ob_c (by first | rfl | (simp [wantE, dstOf, zx1]; done)) ?_ hst rfl
            go_simp
            try with_reducible rfl
          · -- 7: t37 := Op.call { callee := builtin Builtin.len, args := #[t36], argTypes := #[22] }
            intro zx1 zx2 zx3 zx4 L V W hL hd hw hst u6 e6 p6 u3 e3 p3
            obtain rfl : u6 = _ := p6
            obtain rfl : u3 = _ := p3
            refine ob_c (by first | rfl | (simp [wantE, dstOf, zx1]; done)) ?_ hst rfl
            go_simp
            try with_reducible rfl
          · -- 8: t38 := Op.binOp BinOp.leq 3 (t35) (t37) 3
            intro zx1 zx2 zx3 zx4 L V W hL hd hw hst u5 e5 p5 u7 e7 p7 u3 e3 p3
            obtain rfl : u5 = _ := p5
            obtain rfl : u7 = _ := p7
            obtain rfl : u3 = _ := p3
            refine ob_c (by first | rfl | (simp [wantE, dstOf, zx1]; done)) ?_ hst rfl
            go_simp
            try simp [hle]
          · -- 9: t39 := Op.pick (t33) (t38) (const (bool false))
            intro zx1 zx2 zx3 zx4 L V W hL hd hw hst u3 e3 p3 u8 e8 p8
            obtain rfl : u3 = _ := p3
            obtain rfl : u8 = _ := p8
            refine ob_c rfl ?_ hst rfl
            go_simp
            try with_reducible rfl
          · -- 10: t40 := Op.move (t39)
            intro zx1 zx2 zx3 zx4 L V W hL hd hw hst u9 e9 p9
            obtain rfl : u9 = _ := p9
            refine ob_c rfl ?_ hst rfl
            go_simp
            try with_reducible rfl
          · -- 11: t41 := Op.move (t12)
            intro zx1 zx2 zx3 zx4 L V W hL hd hw hst u10 e10 p10
            obtain rfl : u10 = _ := p10
            refine ob_c (by first | rfl | (simp [wantE, dstOf, zx1]; done)) ?_ hst rfl
            go_simp
            try with_reducible rfl
          · -- 12: t42 := Op.convert 22 9 (t41)
            intro zx1 zx2 zx3 zx4 L V W hL hd hw hst u11 e11 p11 u10 e10 p10
            obtain rfl : u11 = _ := p11
            obtain rfl : u10 = _ := p10
            refine ob_c (by first | rfl | (simp [wantE, dstOf, zx1]; done)) ?_ hst rfl
            exact run_conv rfl (by simp [zx1]) (str_of ((hst.base 2 rfl : IsBytes _ _ _).sub (mask_is _ _)))
          · -- 13: t43 := Op.move (t13)
            intro zx1 zx2 zx3 zx4 L V W hL hd hw hst u10 e10 p10
            obtain rfl : u10 = _ := p10
            refine ob_c (by first | rfl | (simp [wantE, dstOf, zx1]; done)) ?_ hst rfl
            go_simp
            try with_reducible rfl
          · -- 14: t44 := Op.move (t12)
            intro zx1 zx2 zx3 zx4 L V W hL hd hw hst u10 e10 p10
            obtain rfl : u10 = _ := p10
            refine ob_c (by first | rfl | (simp [wantE, dstOf, zx1]; done)) ?_ hst rfl
            go_simp
            try with_reducible rfl
          · -- 15: t45 := Op.call { callee := builtin Builtin.len, args := #[t44], argTypes := #[22] }
            intro zx1 zx2 zx3 zx4 L V W hL hd hw hst u14 e14 p14 u10 e10 p10
            obtain rfl : u14 = _ := p14
            obtain rfl : u10 = _ := p10
            refine ob_c (by first | rfl | (simp [wantE, dstOf, zx1]; done)) ?_ hst rfl
            go_simp
            try with_reducible rfl
          · -- 16: t46 := Op.slice 22 (t43) none (some (t45)) none
            intro zx1 zx2 zx3 zx4 L V W hL hd hw hst u13 e13 p13 u15 e15 p15 u10 e10 p10
            obtain rfl : u13 = _ := p13
            obtain rfl : u15 = _ := p15
            obtain rfl : u10 = _ := p10
            refine ob_c (by first | rfl | (simp [wantE, dstOf, zx1]; done)) ?_ hst rfl
            go_simp
            try with_reducible rfl
          · -- 17: t47 := Op.convert 22 9 (t46)
            intro zx1 zx2 zx3 zx4 L V W hL hd hw hst u16 e16 p16 u10 e10 p10
            obtain rfl : u16 = _ := p16
            obtain rfl : u10 = _ := p10
            refine ob_c (by first | rfl | (simp [wantE, dstOf, zx1]; done)) ?_ hst rfl
            exact run_conv rfl (by simp [zx1]) (str_of ((hst.base 0 rfl : IsBytes _ _ _).sub (mask_is _ _)))
          · -- 18: t48 := Op.binOp BinOp.eql 9 (t42) (t47) 9
            intro zx1 zx2 zx3 zx4 L V W hL hd hw hst u12 e12 p12 u17 e17 p17 u10 e10 p10
            obtain rfl : u12 = _ := p12
            obtain rfl : u17 = _ := p17
            obtain rfl : u10 = _ := p10
            refine ob_c (by first | rfl | (simp [wantE, dstOf, zx1]; done)) ?_ hst rfl
            go_simp
            try simp [hne]
          · -- 19: t49 := Op.pick (t40) (t48) (const (bool false))
            intro zx1 zx2 zx3 zx4 L V W hL hd hw hst u10 e10 p10 u18 e18 p18
            obtain rfl : u10 = _ := p10
            obtain rfl : u18 = _ := p18
            refine ob_c rfl ?_ hst rfl
            go_simp
            try with_reducible rfl
        case en =>
          intro V W hst u0 e0 p0 u1 e1 p1 u2 e2 p2 u3 e3 p3 u4 e4 p4 u5 e5 p5 u6 e6 p6 u7 e7 p7 u8 e8 p8 u9 e9 p9 u10 e10 p10 u11 e11 p11 u12 e12 p12 u13 e13 p13 u14 e14 p14 u15 e15 p15 u16 e16 p16 u17 e17 p17 u18 e18 p18 u19 e19 p19
          obtain rfl : u0 = _ := p0
          obtain rfl : u1 = _ := p1
          obtain rfl : u2 = _ := p2
          obtain rfl : u3 = _ := p3
          obtain rfl : u4 = _ := p4
          obtain rfl : u5 = _ := p5
          obtain rfl : u6 = _ := p6
          obtain rfl : u7 = _ := p7
          obtain rfl : u8 = _ := p8
          obtain rfl : u9 = _ := p9
          obtain rfl : u10 = _ := p10
          obtain rfl : u11 = _ := p11
          obtain rfl : u12 = _ := p12
          obtain rfl : u13 = _ := p13
          obtain rfl : u14 = _ := p14
          obtain rfl : u15 = _ := p15
          obtain rfl : u16 = _ := p16
          obtain rfl : u17 = _ := p17
          obtain rfl : u18 = _ := p18
          obtain rfl : u19 = _ := p19
          simp only [EndAll, Act.put, List.setIfInBounds_toArray, List.set_cons_zero, List.set_cons_succ]
          have h9 := hst.facts (fs' := [(IsBytes · (.slice b2 (Wire.encU n).length c2) (Wire.encU n)), (IsBytes · (.slice pb p.length pq) p)]) (fun P hP => by simp only [List.mem_cons, List.not_mem_nil, or_false] at hP; rcases hP with rfl | rfl <;> first | exact List.mem_cons_self | exact List.mem_cons_of_mem _ List.mem_cons_self | exact List.mem_cons_of_mem _ (List.mem_cons_of_mem _ List.mem_cons_self) | exact List.mem_cons_of_mem _ (List.mem_cons_of_mem _ (List.mem_cons_of_mem _ List.mem_cons_self)))
          clear hst e0 e1 e2 e3 e4 e5 e6 e7 e8 e9 e10 e11 e12 e13 e14 e15 e16 e17 e18 e19
          go_wp2_with fail
          go_meet
          case rel => exact ⟨rfl, h9⟩
      · have hle : ¬ ((Wire.encU n).length : Int) ≤ ((Wire.encU m).length : Int) := by omega
        refine wp_region_st [pVal ?c3B_0, pVal ?c3B_1, pVal (.bool true), pVal ?c3B_3, pVal ?c3B_4, pVal ?c3B_5, pVal ?c3B_6, pVal ?c3B_7, pVal (.bool false), pVal ?c3B_9, pVal ?c3B_10, pVal ?c3B_11, pVal ?c3B_12, pVal ?c3B_13, pVal ?c3B_14, pVal ?c3B_15, pVal ?c3B_16, pVal ?c3B_17, pVal ?c3B_18, pVal ?c3B_19] (osC []) 121 [0, 0, 3, 7, 15, 31, 15, 79, 255, 511, 1023, 2047, 4095, 2047, 2047, 18431, 59391, 124927, 262143, 524287] [[], [], [(1, 31), (0, 30)], [(2, 32)], [(3, 33)], [(3, 33), (4, 34)], [(3, 33)], [(3, 33), (6, 36)], [(3, 33), (7, 37), (5, 35)], [(8, 38), (3, 33)], [(9, 39)], [(10, 40)], [(10, 40), (11, 41)], [(10, 40)], [(10, 40)], [(10, 40), (14, 44)], [(10, 40), (15, 45), (13, 43)], [(10, 40), (16, 46)], [(10, 40), (17, 47), (12, 42)], [(18, 48), (10, 40)]] [(0, 30), (1, 31), (2, 32), (3, 33), (4, 34), (5, 35), (6, 36), (7, 37), (8, 38), (9, 39), (10, 40), (11, 41), (12, 42), (13, 43), (14, 44), (15, 45), (16, 46), (17, 47), (18, 48), (19, 49)] (by kernel_rfl) (by kernel_rfl) rfl rfl h4 osC0 osC1 ?ob ?en
        case ob =>
          refine ⟨?_, ?_, ?_, ?_, ?_, ?_, ?_, ?_, ?_, ?_, ?_, ?_, ?_, ?_, ?_, ?_, ?_, ?_, ?_, ?_, trivial⟩
          · -- 0: t30 := Op.move (t0)
            intro zx1 zx2 zx3 zx4 L V W hL hd hw hst 
            refine ob_c rfl ?_ hst rfl
            go_simp
            try with_reducible rfl
          · -- 1: t31 := Op.move (t1)
            intro zx1 zx2 zx3 zx4 L V W hL hd hw hst 
            refine ob_c rfl ?_ hst rfl
            go_simp
            try with_reducible rfl
          · -- 2: t32 := Op.binOp BinOp.neq 23 (t30) (t31) 23
            intro zx1 zx2 zx3 zx4 L V W hL hd hw hst u0 e0 p0 u1 e1 p1
            obtain rfl : u0 = _ := p0
            obtain rfl : u1 = _ := p1
            refine ob_c rfl ?_ hst rfl
            go_simp
            try simp [hnm]
          · -- 3: t33 := Op.move (t32)
            intro zx1 zx2 zx3 zx4 L V W hL hd hw hst u2 e2 p2
            obtain rfl : u2 = _ := p2
            refine ob_c rfl ?_ hst rfl
            go_simp
            try with_reducible rfl
          · -- 4: t34 := Op.move (t12)
            intro zx1 zx2 zx3 zx4 L V W hL hd hw hst u3 e3 p3
            obtain rfl : u3 = _ := p3
            refine ob_c (by first | rfl | (simp [wantE, dstOf, zx1]; done)) ?_ hst rfl
            go_simp
            try with_reducible rfl
          · -- 5: t35 := Op.call { callee := builtin Builtin.len, args := #[t34], argTypes := #[22] }
            intro zx1 zx2 zx3 zx4 L V W hL hd hw hst u4 e4 p4 u3 e3 p3
            obtain rfl : u4 = _ := p4
            obtain rfl : u3 = _ := p3
            refine ob_c (by first | rfl | (simp [wantE, dstOf, zx1]; done)) ?_ hst rfl
            go_simp
            try with_reducible rfl
          · -- 6: t36 := Op.move (t13)
            intro zx1 zx2 zx3 zx4 L V W hL hd hw hst u3 e3 p3
            obtain rfl : u3 = _ := p3
            refine ob_c (by first | rfl | (simp [wantE, dstOf, zx1]; done)) ?_ hst rfl
            go_simp
            try with_reducible rfl
          · -- 7: t37 := Op.call { callee := builtin Builtin.len, args := #[t36], argTypes := #[22] }
            intro zx1 zx2 zx3 zx4 L V W hL hd hw hst u6 e6 p6 u3 e3 p3
            obtain rfl : u6 = _ := p6
            obtain rfl : u3 = _ := p3
            refine ob_c (by first | rfl | (simp [wantE, dstOf, zx1]; done)) ?_ hst rfl
            go_simp
            try with_reducible rfl
          · -- 8: t38 := Op.binOp BinOp.leq 3 (t35) (t37) 3
            intro zx1 zx2 zx3 zx4 L V W hL hd hw hst u5 e5 p5 u7 e7 p7 u3 e3 p3
            obtain rfl : u5 = _ := p5
            obtain rfl : u7 = _ := p7
            obtain rfl : u3 = _ := p3
            refine ob_c (by first | rfl | (simp [wantE, dstOf, zx1]; done)) ?_ hst rfl
            go_simp
            try simp [hle]
          · -- 9: t39 := Op.pick (t33) (t38) (const (bool false))
            intro zx1 zx2 zx3 zx4 L V W hL hd hw hst u3 e3 p3 u8 e8 p8
            obtain rfl : u3 = _ := p3
            obtain rfl : u8 = _ := p8
            refine ob_c rfl ?_ hst rfl
            go_simp
            try with_reducible rfl
          · -- 10: t40 := Op.move (t39)
            intro zx1 zx2 zx3 zx4 L V W hL hd hw hst u9 e9 p9
            obtain rfl : u9 = _ := p9
            refine ob_c rfl ?_ hst rfl
            go_simp
            try with_reducible rfl
          · -- 11: t41 := Op.move (t12)
            intro zx1 zx2 zx3 zx4 L V W hL hd hw hst u10 e10 p10
            obtain rfl : u10 = _ := p10
            refine ob_o ?_ hst ?_
            · first | rfl | (simp [wantE, dstOf, zx1]; done)
            · rfl
          · -- 12: t42 := Op.convert 22 9 (t41)
            intro zx1 zx2 zx3 zx4 L V W hL hd hw hst u11 e11 p11 u10 e10 p10
            obtain rfl : u11 = _ := p11
            obtain rfl : u10 = _ := p10
            refine ob_o ?_ hst ?_
            · first | rfl | (simp [wantE, dstOf, zx1]; done)
            · rfl
          · -- 13: t43 := Op.move (t13)
            intro zx1 zx2 zx3 zx4 L V W hL hd hw hst u10 e10 p10
            obtain rfl : u10 = _ := p10
            refine ob_o ?_ hst ?_
            · first | rfl | (simp [wantE, dstOf, zx1]; done)
            · rfl
          · -- 14: t44 := Op.move (t12)
            intro zx1 zx2 zx3 zx4 L V W hL hd hw hst u10 e10 p10
            obtain rfl : u10 = _ := p10
            refine ob_o ?_ hst ?_
            · first | rfl | (simp [wantE, dstOf, zx1]; done)
            · rfl
          · -- 15: t45 := Op.call { callee := builtin Builtin.len, args := #[t44], argTypes := #[22] }
            intro zx1 zx2 zx3 zx4 L V W hL hd hw hst u14 e14 p14 u10 e10 p10
            obtain rfl : u14 = _ := p14
            obtain rfl : u10 = _ := p10
            refine ob_o ?_ hst ?_
            · first | rfl | (simp [wantE, dstOf, zx1]; done)
            · rfl
          · -- 16: t46 := Op.slice 22 (t43) none (some (t45)) none
            intro zx1 zx2 zx3 zx4 L V W hL hd hw hst u13 e13 p13 u15 e15 p15 u10 e10 p10
            obtain rfl : u13 = _ := p13
            obtain rfl : u15 = _ := p15
            obtain rfl : u10 = _ := p10
            refine ob_o ?_ hst ?_
            · first | rfl | (simp [wantE, dstOf, zx1]; done)
            · rfl
          · -- 17: t47 := Op.convert 22 9 (t46)
            intro zx1 zx2 zx3 zx4 L V W hL hd hw hst u16 e16 p16 u10 e10 p10
            obtain rfl : u16 = _ := p16
            obtain rfl : u10 = _ := p10
            refine ob_o ?_ hst ?_
            · first | rfl | (simp [wantE, dstOf, zx1]; done)
            · rfl
          · -- 18: t48 := Op.binOp BinOp.eql 9 (t42) (t47) 9
            intro zx1 zx2 zx3 zx4 L V W hL hd hw hst u12 e12 p12 u17 e17 p17 u10 e10 p10
            obtain rfl : u12 = _ := p12
            obtain rfl : u17 = _ := p17
            obtain rfl : u10 = _ := p10
            refine ob_o ?_ hst ?_
            · first | rfl | (simp [wantE, dstOf, zx1]; done)
            · rfl
          · -- 19: t49 := Op.pick (t40) (t48) (const (bool false))
            intro zx1 zx2 zx3 zx4 L V W hL hd hw hst u10 e10 p10 u18 e18 p18
            obtain rfl : u10 = _ := p10
            obtain rfl : u18 = _ := p18
            refine ob_c rfl ?_ hst rfl
            go_simp
            try with_reducible rfl
        case en =>
          intro V W hst u0 e0 p0 u1 e1 p1 u2 e2 p2 u3 e3 p3 u4 e4 p4 u5 e5 p5 u6 e6 p6 u7 e7 p7 u8 e8 p8 u9 e9 p9 u10 e10 p10 u11 e11 p11 u12 e12 p12 u13 e13 p13 u14 e14 p14 u15 e15 p15 u16 e16 p16 u17 e17 p17 u18 e18 p18 u19 e19 p19
          obtain rfl : u0 = _ := p0
          obtain rfl : u1 = _ := p1
          obtain rfl : u2 = _ := p2
          obtain rfl : u3 = _ := p3
          obtain rfl : u4 = _ := p4
          obtain rfl : u5 = _ := p5
          obtain rfl : u6 = _ := p6
          obtain rfl : u7 = _ := p7
          obtain rfl : u8 = _ := p8
          obtain rfl : u9 = _ := p9
          obtain rfl : u10 = _ := p10
          obtain rfl : u11 = _ := p11
          obtain rfl : u12 = _ := p12
          obtain rfl : u13 = _ := p13
          obtain rfl : u14 = _ := p14
          obtain rfl : u15 = _ := p15
          obtain rfl : u16 = _ := p16
          obtain rfl : u17 = _ := p17
          obtain rfl : u18 = _ := p18
          obtain rfl : u19 = _ := p19
          simp only [EndAll, Act.put, List.setIfInBounds_toArray, List.set_cons_zero, List.set_cons_succ]
          have h9 := hst.facts (fs' := [(IsBytes · (.slice b2 (Wire.encU n).length c2) (Wire.encU n)), (IsBytes · (.slice pb p.length pq) p)]) (fun P hP => by simp only [List.mem_cons, List.not_mem_nil, or_false] at hP; rcases hP with rfl | rfl <;> first | exact List.mem_cons_self | exact List.mem_cons_of_mem _ List.mem_cons_self | exact List.mem_cons_of_mem _ (List.mem_cons_of_mem _ List.mem_cons_self) | exact List.mem_cons_of_mem _ (List.mem_cons_of_mem _ (List.mem_cons_of_mem _ List.mem_cons_self)))
          clear hst e0 e1 e2 e3 e4 e5 e6 e7 e8 e9 e10 e11 e12 e13 e14 e15 e16 e17 e18 e19
          go_wp2_with fail
          go_meet
          case rel => exact ⟨rfl, h9⟩
  case rest =>
    obtain ⟨rfl, h6⟩ := hcut
    have key : ∃ c : Nat, (c : Int) ≤ 9223372036854775807 ∧ ((cut < 0 ∧ -(cut + 1) = (c : Int)) ∨ (¬ cut < 0 ∧ cut = (c : Int))) := by
      by_cases h : cut < 0
      · exact ⟨(-(cut + 1)).toNat, by omega, .inl ⟨h, by omega⟩⟩
      · exact ⟨cut.toNat, by omega, .inr ⟨h, by omega⟩⟩
    obtain ⟨c, hc, hcc⟩ := key
    have modk : ∀ a : Nat, 0 < a → ∃ k : Nat, (c : Int) % (a : Int) = (k : Int) ∧ k < a := fun a ha => ⟨c % a, by omega, Nat.mod_lt _ ha⟩
    have a1 := Wire.encU_pos n
    have a2 : 0 < (Wire.encT s.data.toList).length := by unfold Wire.encT; rw [List.length_append]; have := Wire.encU_pos s.data.toList.length; omega
    have a3 : 0 < (Wire.encF p).length := by rw [encF_length]; omega
    obtain ⟨A1, hA1⟩ : ∃ A, (Wire.encU n).length = A := ⟨_, rfl⟩
    obtain ⟨A2, hA2⟩ : ∃ A, (Wire.encT s.data.toList).length = A := ⟨_, rfl⟩
    obtain ⟨A3, hA3⟩ : ∃ A, (Wire.encF p).length = A := ⟨_, rfl⟩
    rw [hA1] at h6 a1 q2 ⊢
    rw [hA2] at a2
    rw [hA3] at a3
    obtain ⟨k1, e1, hk1⟩ := modk _ a1
    obtain ⟨k2, e2, hk2⟩ := modk _ a2
    obtain ⟨k3, e3, hk3⟩ := modk _ a3
    clear modk
    have z1 : ((A1 : Int) == 0) = false := by simp; omega
    have z2 : ((A2 : Int) == 0) = false := by simp; omega
    have z3 : ((A3 : Int) == 0) = false := by simp; omega
    have x1 : ((k1 : Nat) : Int) ≤ (c2 : Int) := by omega
    have HA := Lib.hid (And.intro hA1 (And.intro hA2 hA3))
    clear hA1 hA2 hA3
    have HE := Lib.hid (And.intro e1 (And.intro e2 e3))
    clear e1 e2 e3
    rcases hcc with ⟨hneg, hcv⟩ | ⟨hneg, rfl⟩
    all_goals
      go_upto_region 7 with fail
      go_wp2_with fail
      try rw [hcv]
      try clear hcv
      refine (Calls.okS h6 (fun _ h => by simp [keys] at h) (appendText_any _ _ [] s (IsBytes.none _) (by simp; omega))).mono ?_
      rintro e w7 ⟨b7, c7, rfl, h7⟩
      rw [HA.out.2.1] at h7 ⊢
      go_wp2_with fail
      refine (Calls.okS h7 (fun _ h => by simp [keys] at h) (appendFrame_any _ _ [] _ p (IsBytes.none _) (h7.is 2 rfl) (by simp; omega))).mono ?_
      rintro e w8 ⟨b8, c8, rfl, h8⟩
      rw [HA.out.2.2] at h8 ⊢
      have q7 : A2 ≤ c7 := by obtain ⟨_, _, e, h, -⟩ := (h8.is 1 rfl : IsBytes _ _ _).out; have := HA.out.2.1; cases e; omega
      have q8 : A3 ≤ c8 := by obtain ⟨_, _, e, h, -⟩ := (h8.is 0 rfl : IsBytes _ _ _).out; have := HA.out.2.2; cases e; omega
      have x2 : ((k2 : Nat) : Int) ≤ (c7 : Int) := by omega
      have x3 : ((k3 : Nat) : Int) ≤ (c8 : Int) := by omega
      clear h7
      obtain ⟨e1, e2, e3⟩ := HE.out
      go_wp2_with fail
      refine (readUint_any _ _ _ 0 ((h8.is 2 rfl : IsBytes _ _ _).take k1 (by have := HA.out.1; omega))).mono ?_
      rintro e w9 ⟨rfl, hb9⟩
      rw [readU_short hn' (by rw [HA.out.1]; exact hk1)]
      have h9 := h8.call hb9
      clear hb9 h8
      go_wp2_with fail
      refine (readText_any _ _ _ 0 ((h9.is 1 rfl : IsBytes _ _ _).take k2 (by have := HA.out.2.1; omega))).mono ?_
      rintro e w10 ⟨rfl, hb10⟩
      rw [readT_short (by simp; omega) (by rw [HA.out.2.1]; exact hk2)]
      have h10 := h9.call hb10
      clear hb10 h9
      go_wp2_with fail
      refine (readFrame_any _ _ _ 0 ((h10.is 0 rfl : IsBytes _ _ _).take k3 (by have := HA.out.2.2; omega))).mono ?_
      rintro e w11 ⟨pv, rfl, -, hb11⟩
      have h11 := h10.call hb11
      clear hb11 h10
      by_cases hbig : 8192 < p.length
      · have hbig : (8192 : Int) < (p.length : Int) := by omega
        go_wp2_with fail
        go_ret
        exact ⟨rfl, h11.below⟩
      · rw [readF_short (by omega) (by rw [HA.out.2.2]; exact hk3)]
        have hbig : ¬ (8192 : Int) < (p.length : Int) := by omega
        go_wp2_with fail
        go_ret
        exact ⟨rfl, h11.below⟩
end Go.Proofs.Ytblfpkhgnfjbbaa
