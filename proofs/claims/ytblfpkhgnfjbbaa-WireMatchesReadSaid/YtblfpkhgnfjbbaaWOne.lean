/- WireOneEncoding: the plain law, and the walk. -/
import Derived.Test.YtblfpkhgnfjbbaaEx04
import Derived.Test.YtblfpkhgnfjbbaaRegS
set_option linter.unusedVariables false
namespace Go.Proofs.Ytblfpkhgnfjbbaa
open Go.RowKit

theorem decU_err : ∀ (f i acc : Nat) (l : List UInt8) (c : Int), Wire.decU f i acc l = .error c → c ≠ 0
  | 0, i, acc, l, c, h => by unfold Wire.decU at h; cases h; decide
  | f + 1, i, acc, [], c, h => by unfold Wire.decU at h; cases h; decide
  | f + 1, i, acc, x :: l, c, h => by
    unfold Wire.decU at h
    split at h
    · split at h
      · cases h; decide
      · cases h
    · exact decU_err f _ _ l c h
theorem dec_err {l : List UInt8} {c : Int} (h : Wire.dec l = .error c) : c ≠ 0 := decU_err _ _ _ _ _ h
theorem readU_cases (l : List UInt8) (i : Int) : (∃ c, c ≠ 0 ∧ Wire.readU l i = (0, 0, c)) ∨ ∃ j m n : Nat, i = (j : Int) ∧ j < m ∧ m ≤ l.length ∧ Wire.readU l i = (n, (m : Int), 0) ∧ n < 2 ^ 64 ∧ (l.take m).drop j = Wire.encU n := by
  unfold Wire.readU
  by_cases h : i < 0 ∨ (l.length : Int) < i
  · exact .inl ⟨1, by decide, by rw [if_pos h]⟩
  · rw [if_neg h]
    cases hd : Wire.dec (l.drop i.toNat) with
    | error c => exact .inl ⟨c, dec_err hd, rfl⟩
    | ok nk =>
      obtain ⟨n, k⟩ := nk
      obtain ⟨h1, h2, h3, h4⟩ := Wire.dec_ok hd
      rw [List.length_drop] at h3
      refine .inr ⟨i.toNat, i.toNat + k, n, by omega, by omega, by omega, ?_, h1, ?_⟩
      · simp only
        congr 2
        omega
      · rw [← h4, List.drop_take, Nat.add_sub_cancel_left]
theorem readI_cases (l : List UInt8) (i : Int) : (∃ c, c ≠ 0 ∧ Wire.readI l i = (0, 0, c)) ∨ ∃ (j m : Nat) (n : Int), i = (j : Int) ∧ j < m ∧ m ≤ l.length ∧ Wire.readI l i = (n, (m : Int), 0) ∧ (-9223372036854775808 ≤ n ∧ n ≤ 9223372036854775807) ∧ (l.take m).drop j = Wire.encI n := by
  unfold Wire.readI
  rcases readU_cases l i with ⟨c, hc, h⟩ | ⟨j, m, n, h1, h2, h3, h4, h5, h6⟩
  · exact .inl ⟨c, hc, by rw [h]; simp [hc]⟩
  · refine .inr ⟨j, m, Wire.zag n, h1, h2, h3, by rw [h4]; simp, ?_, by rw [h6]; unfold Wire.encI; rw [Wire.zig_zag]⟩
    unfold Wire.zag
    split <;> omega
theorem readT_cases (l : List UInt8) (i : Int) : (∃ c, c ≠ 0 ∧ Wire.readT l i = ([], 0, c)) ∨ ∃ (j m : Nat) (s : List UInt8), i = (j : Int) ∧ j < m ∧ m ≤ l.length ∧ Wire.readT l i = (s, (m : Int), 0) ∧ s.length ≤ l.length ∧ (l.take m).drop j = Wire.encT s := by
  unfold Wire.readT
  by_cases h : i < 0 ∨ (l.length : Int) < i
  · exact .inl ⟨1, by decide, by rw [if_pos h]⟩
  · rw [if_neg h]
    cases hd : Wire.decT (l.drop i.toNat) with
    | error c =>
      refine .inl ⟨c, ?_, rfl⟩
      unfold Wire.decT at hd
      split at hd
      · rename_i c' hc'
        cases hd
        exact dec_err hc'
      · split at hd
        · cases hd; decide
        · cases hd
    | ok sk =>
      obtain ⟨s, k⟩ := sk
      obtain ⟨h1, h2, h3, h4⟩ := Wire.decT_ok hd
      have h5 : s.length ≤ k := by
        have := congrArg List.length h4
        unfold Wire.encT at this
        rw [List.length_take, List.length_append] at this
        omega
      rw [List.length_drop] at h3
      refine .inr ⟨i.toNat, i.toNat + k, s, by omega, by omega, by omega, ?_, by omega, ?_⟩
      · simp only
        congr 2
        omega
      · rw [← h4, List.drop_take, Nat.add_sub_cancel_left]

/-- The Append functions onto nil, in a drawn region. -/
theorem Calls.ok {w0 W : World} {f : FuncId} {args : Array Value} {os : List (Nat × Obj)} {fs : List (World → Prop)} {x : List UInt8} (h : St w0 W os fs) (hos : ∀ k ∈ keys os, k < W.heap.size)
    (hc : Calls Try.prog f args W fun e w' => ∃ v, e = .returned v ∧ OwnBytes 5 W.heap.size w' v ([] ++ x) ∧ Below W.heap.size W w') :
    Calls Try.prog f args W fun e w' => ∃ v, e = .returned v ∧ St w0 w' os ((pBytes x).p v :: fs) :=
  hc.mono fun _ w' ⟨v, h1, h2, h3⟩ => by
    rw [List.nil_append] at h2
    refine ⟨v, h1, ?_⟩
    have hs := (h.call h3).putOwn h2 hos
    refine hs.pop.put ((pBytes x).mono v) ?_
    have hk := hs.get 0 rfl
    obtain ⟨b, q, rfl, -⟩ := IsBytes.out hk
    exact ⟨b, q, rfl, hk⟩
theorem run_conv {P : Program} {ρ : Operand → Value} {o : Oper} {W : World} {src dst : TypeId} {x : Operand} {v r : Value} (ho : o.op = .convert src dst x) (hx : ρ x = v) (h : (convert src dst v).run P W = .ok r W) : (execOp ρ o).run P W = .ok (.value r) W := by
  unfold execOp
  simp only [ho, hx, Sem.run_bind, h, Result.andThen_ok, Sem.run_pure]
theorem St.base {w0 W : World} {os : List (Nat × Obj)} {fs F : List (World → Prop)} (h : St w0 W os (F ++ fs)) (i : Nat) {P : World → Prop} (hi : fs[i]? = some P) : P (sm os W) := h.fact P (List.mem_append_right _ (List.mem_of_getElem? hi))

set_option maxRecDepth 4000 in
set_option maxHeartbeats 4000000 in
theorem one_walk (w : World) (v : Value) (l : List UInt8) (hv : IsBytes w v l) (hl : l.length ≤ 140737488351232) (i : Int) (hi : -9223372036854775808 ≤ i ∧ i ≤ 9223372036854775807) :
    Calls Try.prog 10 #[v, .int .i64 i] w fun e w' => e = .returned (.bool true) ∧ Below w.heap.size w w' := by
  obtain ⟨bs, q, rfl, hlen, hcap, hnil, -⟩ := hv.out
  unfold maxLen at hcap
  obtain ⟨hi1, hi2⟩ := hi
  have HV := Lib.hid hv
  clear hv
  go_enter Try.func10, Try.ntmps10
  go_wp2_with fail
  refine (example_any _).mono ?_
  rintro e w1 ⟨rfl, hb1⟩
  have h1 := ((St.start w).call hb1).putOld (P := (IsBytes · (.slice bs l.length q) l)) (Mono.bytes _ _) HV.out
  clear hb1
  go_wp2_with fail
  refine (readUint_any _ _ l i (h1.is 0 rfl)).mono ?_
  rintro e w2 ⟨rfl, hb2⟩
  have h2 := h1.call hb2
  clear hb2 h1
  obtain ⟨n, x, c, hr⟩ : ∃ n x c, Wire.readU l i = (n, x, c) := ⟨_, _, _, rfl⟩
  rw [hr]
  go_upto_region 3 with fail
  go_cut [46] from 19 to 46 (fun u wx => u = .bool false ∧ St w wx [] [(IsBytes · (.slice bs l.length q) l)])
  case first =>
    rcases readU_cases l i with ⟨c', hc, h⟩ | ⟨j, m, n', rfl, hjm, hml, h, hn, hpart⟩
    · rw [hr] at h
      cases h
      refine wp_region_st [pVal ?c3e_0, pVal (.bool false), pVal ?c3e_2, pVal ?c3e_3, pVal ?c3e_4, pVal ?c3e_5, pVal ?c3e_6, pVal ?c3e_7, pVal ?c3e_8, pVal ?c3e_9, pVal ?c3e_10, pVal ?c3e_11, pVal ?c3e_12, pVal ?c3e_13, pVal ?c3e_14, pVal ?c3e_15, pVal ?c3e_16, pVal ?c3e_17, pVal ?c3e_18, pVal ?c3e_19, pVal ?c3e_20, pVal ?c3e_21, pVal ?c3e_22, pVal ?c3e_23, pVal ?c3e_24, pVal ?c3e_25, pVal ?c3e_26, pVal ?c3e_27] (osC []) 120 [0, 1, 3, 7, 15, 31, 63, 63, 255, 511, 1023, 2047, 2047, 6143, 16383, 32767, 65535, 131071, 262143, 524287, 131071, 131071, 131071, 7471103, 15859711, 33554431, 67108863, 134217727] [[], [(0, 19)], [(1, 20)], [(2, 21)], [(2, 21), (3, 22)], [(2, 21), (4, 23)], [(5, 24)], [(5, 24)], [(5, 24), (7, 26), (6, 25)], [(2, 21), (8, 27), (5, 24)], [(2, 21), (9, 28)], [(10, 29)], [(10, 29)], [(10, 29), (12, 31)], [(10, 29), (13, 32), (11, 30)], [(2, 21), (14, 33), (10, 29)], [(2, 21), (15, 34)], [(16, 35)], [(16, 35), (17, 36)], [(16, 35), (18, 37)], [(16, 35)], [(16, 35)], [(16, 35)], [(16, 35), (22, 41), (21, 40), (20, 39)], [(16, 35), (23, 42)], [(16, 35), (24, 43), (19, 38)], [(2, 21), (25, 44), (16, 35)], [(26, 45), (2, 21)]] [(0, 19), (1, 20), (2, 21), (3, 22), (4, 23), (5, 24), (6, 25), (7, 26), (8, 27), (9, 28), (10, 29), (11, 30), (12, 31), (13, 32), (14, 33), (15, 34), (16, 35), (17, 36), (18, 37), (19, 38), (20, 39), (21, 40), (22, 41), (23, 42), (24, 43), (25, 44), (26, 45), (27, 46)] (by kernel_rfl) (by kernel_rfl) rfl rfl h2 osC0 osC1 ?ob ?en
      case ob =>
        refine ⟨?_, ?_, ?_, ?_, ?_, ?_, ?_, ?_, ?_, ?_, ?_, ?_, ?_, ?_, ?_, ?_, ?_, ?_, ?_, ?_, ?_, ?_, ?_, ?_, ?_, ?_, ?_, ?_, trivial⟩
        · -- 0: t19 := Op.move (t8)
          intro zx1 zx2 zx3 zx4 L V W hL hd hw hst 
          refine ob_c rfl ?_ hst rfl
          go_simp
          try with_reducible rfl
        · -- 1: t20 := Op.binOp BinOp.eql 36 (t19) (const (int IntKind.i64 0)) 36
          intro zx1 zx2 zx3 zx4 L V W hL hd hw hst u0 e0 p0
          obtain rfl : u0 = _ := p0
          refine ob_c rfl ?_ hst rfl
          go_simp
          try simp [hc]
        · -- 2: t21 := Op.move (t20)
          intro zx1 zx2 zx3 zx4 L V W hL hd hw hst u1 e1 p1
          obtain rfl : u1 = _ := p1
          refine ob_c rfl ?_ hst rfl
          go_simp
          try with_reducible rfl
        · -- 3: t22 := Op.move (t1)
          intro zx1 zx2 zx3 zx4 L V W hL hd hw hst u2 e2 p2
          obtain rfl : u2 = _ := p2
          refine ob_o ?_ hst ?_
          · first | rfl | (simp [wantE, dstOf, zx1]; done)
          · rfl
        · -- 4: t23 := Op.binOp BinOp.lss 3 (t22) (const (int IntKind.i64 0)) 3
          intro zx1 zx2 zx3 zx4 L V W hL hd hw hst u3 e3 p3 u2 e2 p2
          obtain rfl : u3 = _ := p3
          obtain rfl : u2 = _ := p2
          refine ob_o ?_ hst ?_
          · first | rfl | (simp [wantE, dstOf, zx1]; done)
          · rfl
        · -- 5: t24 := Op.move (t23)
          intro zx1 zx2 zx3 zx4 L V W hL hd hw hst u4 e4 p4 u2 e2 p2
          obtain rfl : u4 = _ := p4
          obtain rfl : u2 = _ := p2
          refine ob_o ?_ hst ?_
          · first | rfl | (simp [wantE, dstOf, zx1]; done)
          · rfl
        · -- 6: t25 := Op.move (t7)
          intro zx1 zx2 zx3 zx4 L V W hL hd hw hst u5 e5 p5
          obtain rfl : u5 = _ := p5
          refine ob_o ?_ hst ?_
          · first | rfl | (simp [wantE, dstOf, zx1]; done)
          · rfl
        · -- 7: t26 := Op.move (t1)
          intro zx1 zx2 zx3 zx4 L V W hL hd hw hst u5 e5 p5
          obtain rfl : u5 = _ := p5
          refine ob_o ?_ hst ?_
          · first | rfl | (simp [wantE, dstOf, zx1]; done)
          · rfl
        · -- 8: t27 := Op.binOp BinOp.leq 3 (t25) (t26) 3
          intro zx1 zx2 zx3 zx4 L V W hL hd hw hst u6 e6 p6 u7 e7 p7 u5 e5 p5
          obtain rfl : u6 = _ := p6
          obtain rfl : u7 = _ := p7
          obtain rfl : u5 = _ := p5
          refine ob_o ?_ hst ?_
          · first | rfl | (simp [wantE, dstOf, zx1]; done)
          · rfl
        · -- 9: t28 := Op.pick (t24) (const (bool true)) (t27)
          intro zx1 zx2 zx3 zx4 L V W hL hd hw hst u5 e5 p5 u8 e8 p8 u2 e2 p2
          obtain rfl : u5 = _ := p5
          obtain rfl : u8 = _ := p8
          obtain rfl : u2 = _ := p2
          refine ob_o ?_ hst ?_
          · first | rfl | (simp [wantE, dstOf, zx1]; done)
          · rfl
        · -- 10: t29 := Op.move (t28)
          intro zx1 zx2 zx3 zx4 L V W hL hd hw hst u9 e9 p9 u2 e2 p2
          obtain rfl : u9 = _ := p9
          obtain rfl : u2 = _ := p2
          refine ob_o ?_ hst ?_
          · first | rfl | (simp [wantE, dstOf, zx1]; done)
          · rfl
        · -- 11: t30 := Op.move (t7)
          intro zx1 zx2 zx3 zx4 L V W hL hd hw hst u10 e10 p10
          obtain rfl : u10 = _ := p10
          refine ob_o ?_ hst ?_
          · first | rfl | (simp [wantE, dstOf, zx1]; done)
          · rfl
        · -- 12: t31 := Op.move (t0)
          intro zx1 zx2 zx3 zx4 L V W hL hd hw hst u10 e10 p10
          obtain rfl : u10 = _ := p10
          refine ob_o ?_ hst ?_
          · first | rfl | (simp [wantE, dstOf, zx1]; done)
          · rfl
        · -- 13: t32 := Op.call { callee := builtin Builtin.len, args := #[t31], argTypes := #[22] }
          intro zx1 zx2 zx3 zx4 L V W hL hd hw hst u12 e12 p12 u10 e10 p10
          obtain rfl : u12 = _ := p12
          obtain rfl : u10 = _ := p10
          refine ob_o ?_ hst ?_
          · first | rfl | (simp [wantE, dstOf, zx1]; done)
          · rfl
        · -- 14: t33 := Op.binOp BinOp.gtr 3 (t30) (t32) 3
          intro zx1 zx2 zx3 zx4 L V W hL hd hw hst u11 e11 p11 u13 e13 p13 u10 e10 p10
          obtain rfl : u11 = _ := p11
          obtain rfl : u13 = _ := p13
          obtain rfl : u10 = _ := p10
          refine ob_o ?_ hst ?_
          · first | rfl | (simp [wantE, dstOf, zx1]; done)
          · rfl
        · -- 15: t34 := Op.pick (t29) (const (bool true)) (t33)
          intro zx1 zx2 zx3 zx4 L V W hL hd hw hst u10 e10 p10 u14 e14 p14 u2 e2 p2
          obtain rfl : u10 = _ := p10
          obtain rfl : u14 = _ := p14
          obtain rfl : u2 = _ := p2
          refine ob_o ?_ hst ?_
          · first | rfl | (simp [wantE, dstOf, zx1]; done)
          · rfl
        · -- 16: t35 := Op.move (t34)
          intro zx1 zx2 zx3 zx4 L V W hL hd hw hst u15 e15 p15 u2 e2 p2
          obtain rfl : u15 = _ := p15
          obtain rfl : u2 = _ := p2
          refine ob_o ?_ hst ?_
          · first | rfl | (simp [wantE, dstOf, zx1]; done)
          · rfl
        · -- 17: t36 := Op.move (t6)
          intro zx1 zx2 zx3 zx4 L V W hL hd hw hst u16 e16 p16
          obtain rfl : u16 = _ := p16
          refine ob_o ?_ hst ?_
          · first | rfl | (simp [wantE, dstOf, zx1]; done)
          · rfl
        · -- 18: t37 := Op.call { callee := value (func 14), args := #[const (slice none 0 0), t36], argTypes := #[22, 23] }
          intro zx1 zx2 zx3 zx4 L V W hL hd hw hst u17 e17 p17 u16 e16 p16
          obtain rfl : u17 = _ := p17
          obtain rfl : u16 = _ := p16
          refine ob_o ?_ hst ?_
          · first | rfl | (simp [wantE, dstOf, zx1]; done)
          · rfl
        · -- 19: t38 := Op.convert 22 9 (t37)
          intro zx1 zx2 zx3 zx4 L V W hL hd hw hst u18 e18 p18 u16 e16 p16
          obtain rfl : u18 = _ := p18
          obtain rfl : u16 = _ := p16
          refine ob_o ?_ hst ?_
          · first | rfl | (simp [wantE, dstOf, zx1]; done)
          · rfl
        · -- 20: t39 := Op.move (t0)
          intro zx1 zx2 zx3 zx4 L V W hL hd hw hst u16 e16 p16
          obtain rfl : u16 = _ := p16
          refine ob_o ?_ hst ?_
          · first | rfl | (simp [wantE, dstOf, zx1]; done)
          · rfl
        · -- 21: t40 := Op.move (t1)
          intro zx1 zx2 zx3 zx4 L V W hL hd hw hst u16 e16 p16
          obtain rfl : u16 = _ := p16
          refine ob_o ?_ hst ?_
          · first | rfl | (simp [wantE, dstOf, zx1]; done)
          · rfl
        · -- 22: t41 := Op.move (t7)
          intro zx1 zx2 zx3 zx4 L V W hL hd hw hst u16 e16 p16
          obtain rfl : u16 = _ := p16
          refine ob_o ?_ hst ?_
          · first | rfl | (simp [wantE, dstOf, zx1]; done)
          · rfl
        · -- 23: t42 := Op.slice 22 (t39) (some (t40)) (some (t41)) none
          intro zx1 zx2 zx3 zx4 L V W hL hd hw hst u20 e20 p20 u21 e21 p21 u22 e22 p22 u16 e16 p16
          obtain rfl : u20 = _ := p20
          obtain rfl : u21 = _ := p21
          obtain rfl : u22 = _ := p22
          obtain rfl : u16 = _ := p16
          refine ob_o ?_ hst ?_
          · first | rfl | (simp [wantE, dstOf, zx1]; done)
          · rfl
        · -- 24: t43 := Op.convert 22 9 (t42)
          intro zx1 zx2 zx3 zx4 L V W hL hd hw hst u23 e23 p23 u16 e16 p16
          obtain rfl : u23 = _ := p23
          obtain rfl : u16 = _ := p16
          refine ob_o ?_ hst ?_
          · first | rfl | (simp [wantE, dstOf, zx1]; done)
          · rfl
        · -- 25: t44 := Op.binOp BinOp.neq 9 (t38) (t43) 9
          intro zx1 zx2 zx3 zx4 L V W hL hd hw hst u19 e19 p19 u24 e24 p24 u16 e16 p16
          obtain rfl : u19 = _ := p19
          obtain rfl : u24 = _ := p24
          obtain rfl : u16 = _ := p16
          refine ob_o ?_ hst ?_
          · first | rfl | (simp [wantE, dstOf, zx1]; done)
          · rfl
        · -- 26: t45 := Op.pick (t35) (const (bool true)) (t44)
          intro zx1 zx2 zx3 zx4 L V W hL hd hw hst u16 e16 p16 u25 e25 p25 u2 e2 p2
          obtain rfl : u16 = _ := p16
          obtain rfl : u25 = _ := p25
          obtain rfl : u2 = _ := p2
          refine ob_o ?_ hst ?_
          · first | rfl | (simp [wantE, dstOf, zx1]; done)
          · rfl
        · -- 27: t46 := Op.pick (t21) (t45) (const (bool false))
          intro zx1 zx2 zx3 zx4 L V W hL hd hw hst u2 e2 p2 u26 e26 p26
          obtain rfl : u2 = _ := p2
          obtain rfl : u26 = _ := p26
          refine ob_c rfl ?_ hst rfl
          go_simp
          try with_reducible rfl
      case en =>
        intro V W hst u0 e0 p0 u1 e1 p1 u2 e2 p2 u3 e3 p3 u4 e4 p4 u5 e5 p5 u6 e6 p6 u7 e7 p7 u8 e8 p8 u9 e9 p9 u10 e10 p10 u11 e11 p11 u12 e12 p12 u13 e13 p13 u14 e14 p14 u15 e15 p15 u16 e16 p16 u17 e17 p17 u18 e18 p18 u19 e19 p19 u20 e20 p20 u21 e21 p21 u22 e22 p22 u23 e23 p23 u24 e24 p24 u25 e25 p25 u26 e26 p26 u27 e27 p27
        obtain rfl : u0 = _ := p0
        obtain rfl : u1 = _ := p1
        obtain rfl : u2 = _ := p2
        obtain rfl : u3 = _ := p3
        obtain rfl : u4 = _ := p4
        obtain rfl : u5 = _ := p5
        obtain rfl : u6 = _ := p6
        obtain rfl : u7 = _ := p7
        obtain rfl : u8 = _ := p8
        obtain rfl : u9 = _ := p9
        obtain rfl : u10 = _ := p10
        obtain rfl : u11 = _ := p11
        obtain rfl : u12 = _ := p12
        obtain rfl : u13 = _ := p13
        obtain rfl : u14 = _ := p14
        obtain rfl : u15 = _ := p15
        obtain rfl : u16 = _ := p16
        obtain rfl : u17 = _ := p17
        obtain rfl : u18 = _ := p18
        obtain rfl : u19 = _ := p19
        obtain rfl : u20 = _ := p20
        obtain rfl : u21 = _ := p21
        obtain rfl : u22 = _ := p22
        obtain rfl : u23 = _ := p23
        obtain rfl : u24 = _ := p24
        obtain rfl : u25 = _ := p25
        obtain rfl : u26 = _ := p26
        obtain rfl : u27 = _ := p27
        simp only [EndAll, Act.put, List.setIfInBounds_toArray, List.set_cons_zero, List.set_cons_succ]
        have h9 := hst.facts (fs' := [(IsBytes · (.slice bs l.length q) l)]) (fun P hP => by simp only [List.mem_cons, List.not_mem_nil, or_false] at hP; subst hP; first | exact List.mem_cons_self | exact List.mem_cons_of_mem _ List.mem_cons_self)
        clear hst e0 e1 e2 e3 e4 e5 e6 e7 e8 e9 e10 e11 e12 e13 e14 e15 e16 e17 e18 e19 e20 e21 e22 e23 e24 e25 e26 e27
        go_wp2_with fail
        go_meet
        case rel => exact ⟨rfl, h9⟩
    · rw [hr] at h
      cases h
      have hp := (h2.get 0 rfl : IsBytes _ _ _).part j m q (by omega) hml (by omega) (Nat.le_refl _)
      rw [hpart] at hp
      have h0 := h2.put (Mono.bytes _ _) hp
      clear hp
      have r1 : 0 ≤ (j : Int) := by omega
      have r2 : (j : Int) < (m : Int) := by omega
      have r3 : (m : Int) ≤ (l.length : Int) := by omega
      have r4 : (j : Int) ≤ (m : Int) := by omega
      have r5 : (m : Int) ≤ (q : Int) := by omega
      have r6 : 0 ≤ (m : Int) := by omega
      refine wp_region_st [pVal ?c3k_0, pVal (.bool true), pVal ?c3k_2, pVal ?c3k_3, pVal (.bool false), pVal ?c3k_5, pVal ?c3k_6, pVal ?c3k_7, pVal (.bool false), pVal ?c3k_9, pVal ?c3k_10, pVal ?c3k_11, pVal ?c3k_12, pVal ?c3k_13, pVal (.bool false), pVal ?c3k_15, pVal ?c3k_16, pVal ?c3k_17, pBytes (Wire.encU n), pVal (.string ⟨(Wire.encU n).toArray⟩), pVal ?c3k_20, pVal ?c3k_21, pVal ?c3k_22, pVal ?c3k_23, pVal (.string ⟨(Wire.encU n).toArray⟩), pVal (.bool false), pVal ?c3k_26, pVal ?c3k_27] (osC []) 120 [0, 1, 3, 7, 15, 31, 63, 63, 255, 511, 1023, 2047, 2047, 6143, 16383, 32767, 65535, 131071, 262143, 524287, 131071, 131071, 131071, 7471103, 15859711, 33554431, 67108863, 134217727] [[], [(0, 19)], [(1, 20)], [(2, 21)], [(2, 21), (3, 22)], [(2, 21), (4, 23)], [(5, 24)], [(5, 24)], [(5, 24), (7, 26), (6, 25)], [(2, 21), (8, 27), (5, 24)], [(2, 21), (9, 28)], [(10, 29)], [(10, 29)], [(10, 29), (12, 31)], [(10, 29), (13, 32), (11, 30)], [(2, 21), (14, 33), (10, 29)], [(2, 21), (15, 34)], [(16, 35)], [(16, 35), (17, 36)], [(16, 35), (18, 37)], [(16, 35)], [(16, 35)], [(16, 35)], [(16, 35), (22, 41), (21, 40), (20, 39)], [(16, 35), (23, 42)], [(16, 35), (24, 43), (19, 38)], [(2, 21), (25, 44), (16, 35)], [(26, 45), (2, 21)]] [(0, 19), (1, 20), (2, 21), (3, 22), (4, 23), (5, 24), (6, 25), (7, 26), (8, 27), (9, 28), (10, 29), (11, 30), (12, 31), (13, 32), (14, 33), (15, 34), (16, 35), (17, 36), (18, 37), (19, 38), (20, 39), (21, 40), (22, 41), (23, 42), (24, 43), (25, 44), (26, 45), (27, 46)] (by kernel_rfl) (by kernel_rfl) rfl rfl h0 osC0 osC1 ?ob ?en
      case ob =>
        refine ⟨?_, ?_, ?_, ?_, ?_, ?_, ?_, ?_, ?_, ?_, ?_, ?_, ?_, ?_, ?_, ?_, ?_, ?_, ?_, ?_, ?_, ?_, ?_, ?_, ?_, ?_, ?_, ?_, trivial⟩
        · -- 0: t19 := Op.move (t8)
          intro zx1 zx2 zx3 zx4 L V W hL hd hw hst 
          refine ob_c rfl ?_ hst rfl
          go_simp
          try with_reducible rfl
        · -- 1: t20 := Op.binOp BinOp.eql 36 (t19) (const (int IntKind.i64 0)) 36
          intro zx1 zx2 zx3 zx4 L V W hL hd hw hst u0 e0 p0
          obtain rfl : u0 = _ := p0
          refine ob_c rfl ?_ hst rfl
          go_simp
        · -- 2: t21 := Op.move (t20)
          intro zx1 zx2 zx3 zx4 L V W hL hd hw hst u1 e1 p1
          obtain rfl : u1 = _ := p1
          refine ob_c rfl ?_ hst rfl
          go_simp
          try with_reducible rfl
        · -- 3: t22 := Op.move (t1)
          intro zx1 zx2 zx3 zx4 L V W hL hd hw hst u2 e2 p2
          obtain rfl : u2 = _ := p2
          refine ob_c (by first | rfl | (simp [wantE, dstOf, zx1]; done)) ?_ hst rfl
          go_simp
          try with_reducible rfl
        · -- 4: t23 := Op.binOp BinOp.lss 3 (t22) (const (int IntKind.i64 0)) 3
          intro zx1 zx2 zx3 zx4 L V W hL hd hw hst u3 e3 p3 u2 e2 p2
          obtain rfl : u3 = _ := p3
          obtain rfl : u2 = _ := p2
          refine ob_c (by first | rfl | (simp [wantE, dstOf, zx1]; done)) ?_ hst rfl
          go_simp
          try simp [r1]
        · -- 5: t24 := Op.move (t23)
          intro zx1 zx2 zx3 zx4 L V W hL hd hw hst u4 e4 p4 u2 e2 p2
          obtain rfl : u4 = _ := p4
          obtain rfl : u2 = _ := p2
          refine ob_c (by first | rfl | (simp [wantE, dstOf, zx1]; done)) ?_ hst rfl
          go_simp
          try with_reducible rfl
        · -- 6: t25 := Op.move (t7)
          intro zx1 zx2 zx3 zx4 L V W hL hd hw hst u5 e5 p5
          obtain rfl : u5 = _ := p5
          refine ob_c (by first | rfl | (simp [wantE, dstOf, zx1]; done)) ?_ hst rfl
          go_simp
          try with_reducible rfl
        · -- 7: t26 := Op.move (t1)
          intro zx1 zx2 zx3 zx4 L V W hL hd hw hst u5 e5 p5
          obtain rfl : u5 = _ := p5
          refine ob_c (by first | rfl | (simp [wantE, dstOf, zx1]; done)) ?_ hst rfl
          go_simp
          try with_reducible rfl
        · -- 8: t27 := Op.binOp BinOp.leq 3 (t25) (t26) 3
          intro zx1 zx2 zx3 zx4 L V W hL hd hw hst u6 e6 p6 u7 e7 p7 u5 e5 p5
          obtain rfl : u6 = _ := p6
          obtain rfl : u7 = _ := p7
          obtain rfl : u5 = _ := p5
          refine ob_c (by first | rfl | (simp [wantE, dstOf, zx1]; done)) ?_ hst rfl
          go_simp
          try simp [r2]
        · -- 9: t28 := Op.pick (t24) (const (bool true)) (t27)
          intro zx1 zx2 zx3 zx4 L V W hL hd hw hst u5 e5 p5 u8 e8 p8 u2 e2 p2
          obtain rfl : u5 = _ := p5
          obtain rfl : u8 = _ := p8
          obtain rfl : u2 = _ := p2
          refine ob_c (by first | rfl | (simp [wantE, dstOf, zx1]; done)) ?_ hst rfl
          go_simp
          try with_reducible rfl
        · -- 10: t29 := Op.move (t28)
          intro zx1 zx2 zx3 zx4 L V W hL hd hw hst u9 e9 p9 u2 e2 p2
          obtain rfl : u9 = _ := p9
          obtain rfl : u2 = _ := p2
          refine ob_c (by first | rfl | (simp [wantE, dstOf, zx1]; done)) ?_ hst rfl
          go_simp
          try with_reducible rfl
        · -- 11: t30 := Op.move (t7)
          intro zx1 zx2 zx3 zx4 L V W hL hd hw hst u10 e10 p10
          obtain rfl : u10 = _ := p10
          refine ob_c (by first | rfl | (simp [wantE, dstOf, zx1]; done)) ?_ hst rfl
          go_simp
          try with_reducible rfl
        · -- 12: t31 := Op.move (t0)
          intro zx1 zx2 zx3 zx4 L V W hL hd hw hst u10 e10 p10
          obtain rfl : u10 = _ := p10
          refine ob_c (by first | rfl | (simp [wantE, dstOf, zx1]; done)) ?_ hst rfl
          go_simp
          try with_reducible rfl
        · -- 13: t32 := Op.call { callee := builtin Builtin.len, args := #[t31], argTypes := #[22] }
          intro zx1 zx2 zx3 zx4 L V W hL hd hw hst u12 e12 p12 u10 e10 p10
          obtain rfl : u12 = _ := p12
          obtain rfl : u10 = _ := p10
          refine ob_c (by first | rfl | (simp [wantE, dstOf, zx1]; done)) ?_ hst rfl
          go_simp
          try with_reducible rfl
        · -- 14: t33 := Op.binOp BinOp.gtr 3 (t30) (t32) 3
          intro zx1 zx2 zx3 zx4 L V W hL hd hw hst u11 e11 p11 u13 e13 p13 u10 e10 p10
          obtain rfl : u11 = _ := p11
          obtain rfl : u13 = _ := p13
          obtain rfl : u10 = _ := p10
          refine ob_c (by first | rfl | (simp [wantE, dstOf, zx1]; done)) ?_ hst rfl
          go_simp
          try simp [r3]
        · -- 15: t34 := Op.pick (t29) (const (bool true)) (t33)
          intro zx1 zx2 zx3 zx4 L V W hL hd hw hst u10 e10 p10 u14 e14 p14 u2 e2 p2
          obtain rfl : u10 = _ := p10
          obtain rfl : u14 = _ := p14
          obtain rfl : u2 = _ := p2
          refine ob_c (by first | rfl | (simp [wantE, dstOf, zx1]; done)) ?_ hst rfl
          go_simp
          try with_reducible rfl
        · -- 16: t35 := Op.move (t34)
          intro zx1 zx2 zx3 zx4 L V W hL hd hw hst u15 e15 p15 u2 e2 p2
          obtain rfl : u15 = _ := p15
          obtain rfl : u2 = _ := p2
          refine ob_c (by first | rfl | (simp [wantE, dstOf, zx1]; done)) ?_ hst rfl
          go_simp
          try with_reducible rfl
        · -- 17: t36 := Op.move (t6)
          intro zx1 zx2 zx3 zx4 L V W hL hd hw hst u16 e16 p16
          obtain rfl : u16 = _ := p16
          refine ob_c (by first | rfl | (simp [wantE, dstOf, zx1]; done)) ?_ hst rfl
          go_simp
          try with_reducible rfl
        · -- 18: t37 := Op.call { callee := value (func 14), args := #[const (slice none 0 0), t36], argTypes := #[22, 23] }
          intro zx1 zx2 zx3 zx4 L V W hL hd hw hst u17 e17 p17 u16 e16 p16
          obtain rfl : u17 = _ := p17
          obtain rfl : u16 = _ := p16
          refine ob_call (by first | rfl | (simp [wantE, dstOf, zx1]; done)) ?_ (Calls.ok hst (fun _ h => by simp [keys] at h) (appendUint_any W _ [] n hn (IsBytes.none _) (by decide)))
          go_simp
        · -- 19: t38 := Op.convert 22 9 (t37)
          intro zx1 zx2 zx3 zx4 L V W hL hd hw hst u18 e18 p18 u16 e16 p16
          obtain ⟨b18, q18, rfl, hb18⟩ := p18
          obtain rfl : u16 = _ := p16
          refine ob_c (by first | rfl | (simp [wantE, dstOf, zx1]; done)) ?_ hst rfl
          exact run_conv rfl (by simp [zx1]) (str_of (hb18.sub (mask_is _ _)))
        · -- 20: t39 := Op.move (t0)
          intro zx1 zx2 zx3 zx4 L V W hL hd hw hst u16 e16 p16
          obtain rfl : u16 = _ := p16
          refine ob_c (by first | rfl | (simp [wantE, dstOf, zx1]; done)) ?_ hst rfl
          go_simp
          try with_reducible rfl
        · -- 21: t40 := Op.move (t1)
          intro zx1 zx2 zx3 zx4 L V W hL hd hw hst u16 e16 p16
          obtain rfl : u16 = _ := p16
          refine ob_c (by first | rfl | (simp [wantE, dstOf, zx1]; done)) ?_ hst rfl
          go_simp
          try with_reducible rfl
        · -- 22: t41 := Op.move (t7)
          intro zx1 zx2 zx3 zx4 L V W hL hd hw hst u16 e16 p16
          obtain rfl : u16 = _ := p16
          refine ob_c (by first | rfl | (simp [wantE, dstOf, zx1]; done)) ?_ hst rfl
          go_simp
          try with_reducible rfl
        · -- 23: t42 := Op.slice 22 (t39) (some (t40)) (some (t41)) none
          intro zx1 zx2 zx3 zx4 L V W hL hd hw hst u20 e20 p20 u21 e21 p21 u22 e22 p22 u16 e16 p16
          obtain rfl : u20 = _ := p20
          obtain rfl : u21 = _ := p21
          obtain rfl : u22 = _ := p22
          obtain rfl : u16 = _ := p16
          refine ob_c (by first | rfl | (simp [wantE, dstOf, zx1]; done)) ?_ hst rfl
          go_simp
          try with_reducible rfl
        · -- 24: t43 := Op.convert 22 9 (t42)
          intro zx1 zx2 zx3 zx4 L V W hL hd hw hst u23 e23 p23 u16 e16 p16
          obtain rfl : u23 = _ := p23
          obtain rfl : u16 = _ := p16
          refine ob_c (by first | rfl | (simp [wantE, dstOf, zx1]; done)) ?_ hst rfl
          exact run_conv rfl (by simp [zx1]) (str_of ((hst.base 0 rfl : IsBytes _ _ _).sub (mask_is _ _)))
        · -- 25: t44 := Op.binOp BinOp.neq 9 (t38) (t43) 9
          intro zx1 zx2 zx3 zx4 L V W hL hd hw hst u19 e19 p19 u24 e24 p24 u16 e16 p16
          obtain rfl : u19 = _ := p19
          obtain rfl : u24 = _ := p24
          obtain rfl : u16 = _ := p16
          refine ob_c (by first | rfl | (simp [wantE, dstOf, zx1]; done)) ?_ hst rfl
          go_simp
        · -- 26: t45 := Op.pick (t35) (const (bool true)) (t44)
          intro zx1 zx2 zx3 zx4 L V W hL hd hw hst u16 e16 p16 u25 e25 p25 u2 e2 p2
          obtain rfl : u16 = _ := p16
          obtain rfl : u25 = _ := p25
          obtain rfl : u2 = _ := p2
          refine ob_c (by first | rfl | (simp [wantE, dstOf, zx1]; done)) ?_ hst rfl
          go_simp
          try with_reducible rfl
        · -- 27: t46 := Op.pick (t21) (t45) (const (bool false))
          intro zx1 zx2 zx3 zx4 L V W hL hd hw hst u2 e2 p2 u26 e26 p26
          obtain rfl : u2 = _ := p2
          obtain rfl : u26 = _ := p26
          refine ob_c rfl ?_ hst rfl
          go_simp
          try with_reducible rfl
      case en =>
        intro V W hst u0 e0 p0 u1 e1 p1 u2 e2 p2 u3 e3 p3 u4 e4 p4 u5 e5 p5 u6 e6 p6 u7 e7 p7 u8 e8 p8 u9 e9 p9 u10 e10 p10 u11 e11 p11 u12 e12 p12 u13 e13 p13 u14 e14 p14 u15 e15 p15 u16 e16 p16 u17 e17 p17 u18 e18 p18 u19 e19 p19 u20 e20 p20 u21 e21 p21 u22 e22 p22 u23 e23 p23 u24 e24 p24 u25 e25 p25 u26 e26 p26 u27 e27 p27
        obtain rfl : u0 = _ := p0
        obtain rfl : u1 = _ := p1
        obtain rfl : u2 = _ := p2
        obtain rfl : u3 = _ := p3
        obtain rfl : u4 = _ := p4
        obtain rfl : u5 = _ := p5
        obtain rfl : u6 = _ := p6
        obtain rfl : u7 = _ := p7
        obtain rfl : u8 = _ := p8
        obtain rfl : u9 = _ := p9
        obtain rfl : u10 = _ := p10
        obtain rfl : u11 = _ := p11
        obtain rfl : u12 = _ := p12
        obtain rfl : u13 = _ := p13
        obtain rfl : u14 = _ := p14
        obtain rfl : u15 = _ := p15
        obtain rfl : u16 = _ := p16
        obtain rfl : u17 = _ := p17
        obtain ⟨b18, q18, rfl, hb18⟩ := p18
        obtain rfl : u19 = _ := p19
        obtain rfl : u20 = _ := p20
        obtain rfl : u21 = _ := p21
        obtain rfl : u22 = _ := p22
        obtain rfl : u23 = _ := p23
        obtain rfl : u24 = _ := p24
        obtain rfl : u25 = _ := p25
        obtain rfl : u26 = _ := p26
        obtain rfl : u27 = _ := p27
        simp only [EndAll, Act.put, List.setIfInBounds_toArray, List.set_cons_zero, List.set_cons_succ]
        have h9 := hst.facts (fs' := [(IsBytes · (.slice bs l.length q) l)]) (fun P hP => by simp only [List.mem_cons, List.not_mem_nil, or_false] at hP; subst hP; first | exact List.mem_cons_self | exact List.mem_cons_of_mem _ List.mem_cons_self)
        clear hst e0 e1 e2 e3 e4 e5 e6 e7 e8 e9 e10 e11 e12 e13 e14 e15 e16 e17 e18 e19 e20 e21 e22 e23 e24 e25 e26 e27
        go_wp2_with fail
        go_meet
        case rel => exact ⟨rfl, h9⟩
  case rest =>
    obtain ⟨rfl, h3⟩ := hcut
    go_wp2_with fail
    refine (readInt_any _ _ l i (h3.is 0 rfl)).mono ?_
    rintro e w4 ⟨rfl, hb4⟩
    have h4 := h3.call hb4
    clear hb4 h3 hr h2
    obtain ⟨n, x, c, hr⟩ : ∃ n x c, Wire.readI l i = (n, x, c) := ⟨_, _, _, rfl⟩
    rw [hr]
    go_upto_region 6 with fail
    go_cut [81] from 54 to 81 (fun u wx => u = .bool false ∧ St w wx [] [(IsBytes · (.slice bs l.length q) l)])
    case first =>
      rcases readI_cases l i with ⟨c', hc, h⟩ | ⟨j, m, n', rfl, hjm, hml, h, hn, hpart⟩
      · rw [hr] at h
        cases h
        refine wp_region_st [pVal ?c6e_0, pVal (.bool false), pVal ?c6e_2, pVal ?c6e_3, pVal ?c6e_4, pVal ?c6e_5, pVal ?c6e_6, pVal ?c6e_7, pVal ?c6e_8, pVal ?c6e_9, pVal ?c6e_10, pVal ?c6e_11, pVal ?c6e_12, pVal ?c6e_13, pVal ?c6e_14, pVal ?c6e_15, pVal ?c6e_16, pVal ?c6e_17, pVal ?c6e_18, pVal ?c6e_19, pVal ?c6e_20, pVal ?c6e_21, pVal ?c6e_22, pVal ?c6e_23, pVal ?c6e_24, pVal ?c6e_25, pVal ?c6e_26, pVal ?c6e_27] (osC []) 120 [0, 1, 3, 7, 15, 31, 63, 63, 255, 511, 1023, 2047, 2047, 6143, 16383, 32767, 65535, 131071, 262143, 524287, 131071, 131071, 131071, 7471103, 15859711, 33554431, 67108863, 134217727] [[], [(0, 54)], [(1, 55)], [(2, 56)], [(2, 56), (3, 57)], [(2, 56), (4, 58)], [(5, 59)], [(5, 59)], [(5, 59), (7, 61), (6, 60)], [(2, 56), (8, 62), (5, 59)], [(2, 56), (9, 63)], [(10, 64)], [(10, 64)], [(10, 64), (12, 66)], [(10, 64), (13, 67), (11, 65)], [(2, 56), (14, 68), (10, 64)], [(2, 56), (15, 69)], [(16, 70)], [(16, 70), (17, 71)], [(16, 70), (18, 72)], [(16, 70)], [(16, 70)], [(16, 70)], [(16, 70), (22, 76), (21, 75), (20, 74)], [(16, 70), (23, 77)], [(16, 70), (24, 78), (19, 73)], [(2, 56), (25, 79), (16, 70)], [(26, 80), (2, 56)]] [(0, 54), (1, 55), (2, 56), (3, 57), (4, 58), (5, 59), (6, 60), (7, 61), (8, 62), (9, 63), (10, 64), (11, 65), (12, 66), (13, 67), (14, 68), (15, 69), (16, 70), (17, 71), (18, 72), (19, 73), (20, 74), (21, 75), (22, 76), (23, 77), (24, 78), (25, 79), (26, 80), (27, 81)] (by kernel_rfl) (by kernel_rfl) rfl rfl h4 osC0 osC1 ?ob ?en
        case ob =>
          refine ⟨?_, ?_, ?_, ?_, ?_, ?_, ?_, ?_, ?_, ?_, ?_, ?_, ?_, ?_, ?_, ?_, ?_, ?_, ?_, ?_, ?_, ?_, ?_, ?_, ?_, ?_, ?_, ?_, trivial⟩
          · -- 0: t54 := Op.move (t8)
            intro zx1 zx2 zx3 zx4 L V W hL hd hw hst 
            refine ob_c rfl ?_ hst rfl
            go_simp
            try with_reducible rfl
          · -- 1: t55 := Op.binOp BinOp.eql 36 (t54) (const (int IntKind.i64 0)) 36
            intro zx1 zx2 zx3 zx4 L V W hL hd hw hst u0 e0 p0
            obtain rfl : u0 = _ := p0
            refine ob_c rfl ?_ hst rfl
            go_simp
            try simp [hc]
          · -- 2: t56 := Op.move (t55)
            intro zx1 zx2 zx3 zx4 L V W hL hd hw hst u1 e1 p1
            obtain rfl : u1 = _ := p1
            refine ob_c rfl ?_ hst rfl
            go_simp
            try with_reducible rfl
          · -- 3: t57 := Op.move (t1)
            intro zx1 zx2 zx3 zx4 L V W hL hd hw hst u2 e2 p2
            obtain rfl : u2 = _ := p2
            refine ob_o ?_ hst ?_
            · first | rfl | (simp [wantE, dstOf, zx1]; done)
            · rfl
          · -- 4: t58 := Op.binOp BinOp.lss 3 (t57) (const (int IntKind.i64 0)) 3
            intro zx1 zx2 zx3 zx4 L V W hL hd hw hst u3 e3 p3 u2 e2 p2
            obtain rfl : u3 = _ := p3
            obtain rfl : u2 = _ := p2
            refine ob_o ?_ hst ?_
            · first | rfl | (simp [wantE, dstOf, zx1]; done)
            · rfl
          · -- 5: t59 := Op.move (t58)
            intro zx1 zx2 zx3 zx4 L V W hL hd hw hst u4 e4 p4 u2 e2 p2
            obtain rfl : u4 = _ := p4
            obtain rfl : u2 = _ := p2
            refine ob_o ?_ hst ?_
            · first | rfl | (simp [wantE, dstOf, zx1]; done)
            · rfl
          · -- 6: t60 := Op.move (t7)
            intro zx1 zx2 zx3 zx4 L V W hL hd hw hst u5 e5 p5
            obtain rfl : u5 = _ := p5
            refine ob_o ?_ hst ?_
            · first | rfl | (simp [wantE, dstOf, zx1]; done)
            · rfl
          · -- 7: t61 := Op.move (t1)
            intro zx1 zx2 zx3 zx4 L V W hL hd hw hst u5 e5 p5
            obtain rfl : u5 = _ := p5
            refine ob_o ?_ hst ?_
            · first | rfl | (simp [wantE, dstOf, zx1]; done)
            · rfl
          · -- 8: t62 := Op.binOp BinOp.leq 3 (t60) (t61) 3
            intro zx1 zx2 zx3 zx4 L V W hL hd hw hst u6 e6 p6 u7 e7 p7 u5 e5 p5
            obtain rfl : u6 = _ := p6
            obtain rfl : u7 = _ := p7
            obtain rfl : u5 = _ := p5
            refine ob_o ?_ hst ?_
            · first | rfl | (simp [wantE, dstOf, zx1]; done)
            · rfl
          · -- 9: t63 := Op.pick (t59) (const (bool true)) (t62)
            intro zx1 zx2 zx3 zx4 L V W hL hd hw hst u5 e5 p5 u8 e8 p8 u2 e2 p2
            obtain rfl : u5 = _ := p5
            obtain rfl : u8 = _ := p8
            obtain rfl : u2 = _ := p2
            refine ob_o ?_ hst ?_
            · first | rfl | (simp [wantE, dstOf, zx1]; done)
            · rfl
          · -- 10: t64 := Op.move (t63)
            intro zx1 zx2 zx3 zx4 L V W hL hd hw hst u9 e9 p9 u2 e2 p2
            obtain rfl : u9 = _ := p9
            obtain rfl : u2 = _ := p2
            refine ob_o ?_ hst ?_
            · first | rfl | (simp [wantE, dstOf, zx1]; done)
            · rfl
          · -- 11: t65 := Op.move (t7)
            intro zx1 zx2 zx3 zx4 L V W hL hd hw hst u10 e10 p10
            obtain rfl : u10 = _ := p10
            refine ob_o ?_ hst ?_
            · first | rfl | (simp [wantE, dstOf, zx1]; done)
            · rfl
          · -- 12: t66 := Op.move (t0)
            intro zx1 zx2 zx3 zx4 L V W hL hd hw hst u10 e10 p10
            obtain rfl : u10 = _ := p10
            refine ob_o ?_ hst ?_
            · first | rfl | (simp [wantE, dstOf, zx1]; done)
            · rfl
          · -- 13: t67 := Op.call { callee := builtin Builtin.len, args := #[t66], argTypes := #[22] }
            intro zx1 zx2 zx3 zx4 L V W hL hd hw hst u12 e12 p12 u10 e10 p10
            obtain rfl : u12 = _ := p12
            obtain rfl : u10 = _ := p10
            refine ob_o ?_ hst ?_
            · first | rfl | (simp [wantE, dstOf, zx1]; done)
            · rfl
          · -- 14: t68 := Op.binOp BinOp.gtr 3 (t65) (t67) 3
            intro zx1 zx2 zx3 zx4 L V W hL hd hw hst u11 e11 p11 u13 e13 p13 u10 e10 p10
            obtain rfl : u11 = _ := p11
            obtain rfl : u13 = _ := p13
            obtain rfl : u10 = _ := p10
            refine ob_o ?_ hst ?_
            · first | rfl | (simp [wantE, dstOf, zx1]; done)
            · rfl
          · -- 15: t69 := Op.pick (t64) (const (bool true)) (t68)
            intro zx1 zx2 zx3 zx4 L V W hL hd hw hst u10 e10 p10 u14 e14 p14 u2 e2 p2
            obtain rfl : u10 = _ := p10
            obtain rfl : u14 = _ := p14
            obtain rfl : u2 = _ := p2
            refine ob_o ?_ hst ?_
            · first | rfl | (simp [wantE, dstOf, zx1]; done)
            · rfl
          · -- 16: t70 := Op.move (t69)
            intro zx1 zx2 zx3 zx4 L V W hL hd hw hst u15 e15 p15 u2 e2 p2
            obtain rfl : u15 = _ := p15
            obtain rfl : u2 = _ := p2
            refine ob_o ?_ hst ?_
            · first | rfl | (simp [wantE, dstOf, zx1]; done)
            · rfl
          · -- 17: t71 := Op.move (t9)
            intro zx1 zx2 zx3 zx4 L V W hL hd hw hst u16 e16 p16
            obtain rfl : u16 = _ := p16
            refine ob_o ?_ hst ?_
            · first | rfl | (simp [wantE, dstOf, zx1]; done)
            · rfl
          · -- 18: t72 := Op.call { callee := value (func 17), args := #[const (slice none 0 0), t71], argTypes := #[22, 3] }
            intro zx1 zx2 zx3 zx4 L V W hL hd hw hst u17 e17 p17 u16 e16 p16
            obtain rfl : u17 = _ := p17
            obtain rfl : u16 = _ := p16
            refine ob_o ?_ hst ?_
            · first | rfl | (simp [wantE, dstOf, zx1]; done)
            · rfl
          · -- 19: t73 := Op.convert 22 9 (t72)
            intro zx1 zx2 zx3 zx4 L V W hL hd hw hst u18 e18 p18 u16 e16 p16
            obtain rfl : u18 = _ := p18
            obtain rfl : u16 = _ := p16
            refine ob_o ?_ hst ?_
            · first | rfl | (simp [wantE, dstOf, zx1]; done)
            · rfl
          · -- 20: t74 := Op.move (t0)
            intro zx1 zx2 zx3 zx4 L V W hL hd hw hst u16 e16 p16
            obtain rfl : u16 = _ := p16
            refine ob_o ?_ hst ?_
            · first | rfl | (simp [wantE, dstOf, zx1]; done)
            · rfl
          · -- 21: t75 := Op.move (t1)
            intro zx1 zx2 zx3 zx4 L V W hL hd hw hst u16 e16 p16
            obtain rfl : u16 = _ := p16
            refine ob_o ?_ hst ?_
            · first | rfl | (simp [wantE, dstOf, zx1]; done)
            · rfl
          · -- 22: t76 := Op.move (t7)
            intro zx1 zx2 zx3 zx4 L V W hL hd hw hst u16 e16 p16
            obtain rfl : u16 = _ := p16
            refine ob_o ?_ hst ?_
            · first | rfl | (simp [wantE, dstOf, zx1]; done)
            · rfl
          · -- 23: t77 := Op.slice 22 (t74) (some (t75)) (some (t76)) none
            intro zx1 zx2 zx3 zx4 L V W hL hd hw hst u20 e20 p20 u21 e21 p21 u22 e22 p22 u16 e16 p16
            obtain rfl : u20 = _ := p20
            obtain rfl : u21 = _ := p21
            obtain rfl : u22 = _ := p22
            obtain rfl : u16 = _ := p16
            refine ob_o ?_ hst ?_
            · first | rfl | (simp [wantE, dstOf, zx1]; done)
            · rfl
          · -- 24: t78 := Op.convert 22 9 (t77)
            intro zx1 zx2 zx3 zx4 L V W hL hd hw hst u23 e23 p23 u16 e16 p16
            obtain rfl : u23 = _ := p23
            obtain rfl : u16 = _ := p16
            refine ob_o ?_ hst ?_
            · first | rfl | (simp [wantE, dstOf, zx1]; done)
            · rfl
          · -- 25: t79 := Op.binOp BinOp.neq 9 (t73) (t78) 9
            intro zx1 zx2 zx3 zx4 L V W hL hd hw hst u19 e19 p19 u24 e24 p24 u16 e16 p16
            obtain rfl : u19 = _ := p19
            obtain rfl : u24 = _ := p24
            obtain rfl : u16 = _ := p16
            refine ob_o ?_ hst ?_
            · first | rfl | (simp [wantE, dstOf, zx1]; done)
            · rfl
          · -- 26: t80 := Op.pick (t70) (const (bool true)) (t79)
            intro zx1 zx2 zx3 zx4 L V W hL hd hw hst u16 e16 p16 u25 e25 p25 u2 e2 p2
            obtain rfl : u16 = _ := p16
            obtain rfl : u25 = _ := p25
            obtain rfl : u2 = _ := p2
            refine ob_o ?_ hst ?_
            · first | rfl | (simp [wantE, dstOf, zx1]; done)
            · rfl
          · -- 27: t81 := Op.pick (t56) (t80) (const (bool false))
            intro zx1 zx2 zx3 zx4 L V W hL hd hw hst u2 e2 p2 u26 e26 p26
            obtain rfl : u2 = _ := p2
            obtain rfl : u26 = _ := p26
            refine ob_c rfl ?_ hst rfl
            go_simp
            try with_reducible rfl
        case en =>
          intro V W hst u0 e0 p0 u1 e1 p1 u2 e2 p2 u3 e3 p3 u4 e4 p4 u5 e5 p5 u6 e6 p6 u7 e7 p7 u8 e8 p8 u9 e9 p9 u10 e10 p10 u11 e11 p11 u12 e12 p12 u13 e13 p13 u14 e14 p14 u15 e15 p15 u16 e16 p16 u17 e17 p17 u18 e18 p18 u19 e19 p19 u20 e20 p20 u21 e21 p21 u22 e22 p22 u23 e23 p23 u24 e24 p24 u25 e25 p25 u26 e26 p26 u27 e27 p27
          obtain rfl : u0 = _ := p0
          obtain rfl : u1 = _ := p1
          obtain rfl : u2 = _ := p2
          obtain rfl : u3 = _ := p3
          obtain rfl : u4 = _ := p4
          obtain rfl : u5 = _ := p5
          obtain rfl : u6 = _ := p6
          obtain rfl : u7 = _ := p7
          obtain rfl : u8 = _ := p8
          obtain rfl : u9 = _ := p9
          obtain rfl : u10 = _ := p10
          obtain rfl : u11 = _ := p11
          obtain rfl : u12 = _ := p12
          obtain rfl : u13 = _ := p13
          obtain rfl : u14 = _ := p14
          obtain rfl : u15 = _ := p15
          obtain rfl : u16 = _ := p16
          obtain rfl : u17 = _ := p17
          obtain rfl : u18 = _ := p18
          obtain rfl : u19 = _ := p19
          obtain rfl : u20 = _ := p20
          obtain rfl : u21 = _ := p21
          obtain rfl : u22 = _ := p22
          obtain rfl : u23 = _ := p23
          obtain rfl : u24 = _ := p24
          obtain rfl : u25 = _ := p25
          obtain rfl : u26 = _ := p26
          obtain rfl : u27 = _ := p27
          simp only [EndAll, Act.put, List.setIfInBounds_toArray, List.set_cons_zero, List.set_cons_succ]
          have h9 := hst.facts (fs' := [(IsBytes · (.slice bs l.length q) l)]) (fun P hP => by simp only [List.mem_cons, List.not_mem_nil, or_false] at hP; subst hP; first | exact List.mem_cons_self | exact List.mem_cons_of_mem _ List.mem_cons_self)
          clear hst e0 e1 e2 e3 e4 e5 e6 e7 e8 e9 e10 e11 e12 e13 e14 e15 e16 e17 e18 e19 e20 e21 e22 e23 e24 e25 e26 e27
          go_wp2_with fail
          go_meet
          case rel => exact ⟨rfl, h9⟩
      · rw [hr] at h
        cases h
        have hp := (h4.get 0 rfl : IsBytes _ _ _).part j m q (by omega) hml (by omega) (Nat.le_refl _)
        rw [hpart] at hp
        have h0 := h4.put (Mono.bytes _ _) hp
        clear hp
        have r1 : 0 ≤ (j : Int) := by omega
        have r2 : (j : Int) < (m : Int) := by omega
        have r3 : (m : Int) ≤ (l.length : Int) := by omega
        have r4 : (j : Int) ≤ (m : Int) := by omega
        have r5 : (m : Int) ≤ (q : Int) := by omega
        have r6 : 0 ≤ (m : Int) := by omega
        refine wp_region_st [pVal ?c6k_0, pVal (.bool true), pVal ?c6k_2, pVal ?c6k_3, pVal (.bool false), pVal ?c6k_5, pVal ?c6k_6, pVal ?c6k_7, pVal (.bool false), pVal ?c6k_9, pVal ?c6k_10, pVal ?c6k_11, pVal ?c6k_12, pVal ?c6k_13, pVal (.bool false), pVal ?c6k_15, pVal ?c6k_16, pVal ?c6k_17, pBytes (Wire.encI n), pVal (.string ⟨(Wire.encI n).toArray⟩), pVal ?c6k_20, pVal ?c6k_21, pVal ?c6k_22, pVal ?c6k_23, pVal (.string ⟨(Wire.encI n).toArray⟩), pVal (.bool false), pVal ?c6k_26, pVal ?c6k_27] (osC []) 120 [0, 1, 3, 7, 15, 31, 63, 63, 255, 511, 1023, 2047, 2047, 6143, 16383, 32767, 65535, 131071, 262143, 524287, 131071, 131071, 131071, 7471103, 15859711, 33554431, 67108863, 134217727] [[], [(0, 54)], [(1, 55)], [(2, 56)], [(2, 56), (3, 57)], [(2, 56), (4, 58)], [(5, 59)], [(5, 59)], [(5, 59), (7, 61), (6, 60)], [(2, 56), (8, 62), (5, 59)], [(2, 56), (9, 63)], [(10, 64)], [(10, 64)], [(10, 64), (12, 66)], [(10, 64), (13, 67), (11, 65)], [(2, 56), (14, 68), (10, 64)], [(2, 56), (15, 69)], [(16, 70)], [(16, 70), (17, 71)], [(16, 70), (18, 72)], [(16, 70)], [(16, 70)], [(16, 70)], [(16, 70), (22, 76), (21, 75), (20, 74)], [(16, 70), (23, 77)], [(16, 70), (24, 78), (19, 73)], [(2, 56), (25, 79), (16, 70)], [(26, 80), (2, 56)]] [(0, 54), (1, 55), (2, 56), (3, 57), (4, 58), (5, 59), (6, 60), (7, 61), (8, 62), (9, 63), (10, 64), (11, 65), (12, 66), (13, 67), (14, 68), (15, 69), (16, 70), (17, 71), (18, 72), (19, 73), (20, 74), (21, 75), (22, 76), (23, 77), (24, 78), (25, 79), (26, 80), (27, 81)] (by kernel_rfl) (by kernel_rfl) rfl rfl h0 osC0 osC1 ?ob ?en
        case ob =>
          refine ⟨?_, ?_, ?_, ?_, ?_, ?_, ?_, ?_, ?_, ?_, ?_, ?_, ?_, ?_, ?_, ?_, ?_, ?_, ?_, ?_, ?_, ?_, ?_, ?_, ?_, ?_, ?_, ?_, trivial⟩
          · -- 0: t54 := Op.move (t8)
            intro zx1 zx2 zx3 zx4 L V W hL hd hw hst 
            refine ob_c rfl ?_ hst rfl
            go_simp
            try with_reducible rfl
          · -- 1: t55 := Op.binOp BinOp.eql 36 (t54) (const (int IntKind.i64 0)) 36
            intro zx1 zx2 zx3 zx4 L V W hL hd hw hst u0 e0 p0
            obtain rfl : u0 = _ := p0
            refine ob_c rfl ?_ hst rfl
            go_simp
          · -- 2: t56 := Op.move (t55)
            intro zx1 zx2 zx3 zx4 L V W hL hd hw hst u1 e1 p1
            obtain rfl : u1 = _ := p1
            refine ob_c rfl ?_ hst rfl
            go_simp
            try with_reducible rfl
          · -- 3: t57 := Op.move (t1)
            intro zx1 zx2 zx3 zx4 L V W hL hd hw hst u2 e2 p2
            obtain rfl : u2 = _ := p2
            refine ob_c (by first | rfl | (simp [wantE, dstOf, zx1]; done)) ?_ hst rfl
            go_simp
            try with_reducible rfl
          · -- 4: t58 := Op.binOp BinOp.lss 3 (t57) (const (int IntKind.i64 0)) 3
            intro zx1 zx2 zx3 zx4 L V W hL hd hw hst u3 e3 p3 u2 e2 p2
            obtain rfl : u3 = _ := p3
            obtain rfl : u2 = _ := p2
            refine ob_c (by first | rfl | (simp [wantE, dstOf, zx1]; done)) ?_ hst rfl
            go_simp
            try simp [r1]
          · -- 5: t59 := Op.move (t58)
            intro zx1 zx2 zx3 zx4 L V W hL hd hw hst u4 e4 p4 u2 e2 p2
            obtain rfl : u4 = _ := p4
            obtain rfl : u2 = _ := p2
            refine ob_c (by first | rfl | (simp [wantE, dstOf, zx1]; done)) ?_ hst rfl
            go_simp
            try with_reducible rfl
          · -- 6: t60 := Op.move (t7)
            intro zx1 zx2 zx3 zx4 L V W hL hd hw hst u5 e5 p5
            obtain rfl : u5 = _ := p5
            refine ob_c (by first | rfl | (simp [wantE, dstOf, zx1]; done)) ?_ hst rfl
            go_simp
            try with_reducible rfl
          · -- 7: t61 := Op.move (t1)
            intro zx1 zx2 zx3 zx4 L V W hL hd hw hst u5 e5 p5
            obtain rfl : u5 = _ := p5
            refine ob_c (by first | rfl | (simp [wantE, dstOf, zx1]; done)) ?_ hst rfl
            go_simp
            try with_reducible rfl
          · -- 8: t62 := Op.binOp BinOp.leq 3 (t60) (t61) 3
            intro zx1 zx2 zx3 zx4 L V W hL hd hw hst u6 e6 p6 u7 e7 p7 u5 e5 p5
            obtain rfl : u6 = _ := p6
            obtain rfl : u7 = _ := p7
            obtain rfl : u5 = _ := p5
            refine ob_c (by first | rfl | (simp [wantE, dstOf, zx1]; done)) ?_ hst rfl
            go_simp
            try simp [r2]
          · -- 9: t63 := Op.pick (t59) (const (bool true)) (t62)
            intro zx1 zx2 zx3 zx4 L V W hL hd hw hst u5 e5 p5 u8 e8 p8 u2 e2 p2
            obtain rfl : u5 = _ := p5
            obtain rfl : u8 = _ := p8
            obtain rfl : u2 = _ := p2
            refine ob_c (by first | rfl | (simp [wantE, dstOf, zx1]; done)) ?_ hst rfl
            go_simp
            try with_reducible rfl
          · -- 10: t64 := Op.move (t63)
            intro zx1 zx2 zx3 zx4 L V W hL hd hw hst u9 e9 p9 u2 e2 p2
            obtain rfl : u9 = _ := p9
            obtain rfl : u2 = _ := p2
            refine ob_c (by first | rfl | (simp [wantE, dstOf, zx1]; done)) ?_ hst rfl
            go_simp
            try with_reducible rfl
          · -- 11: t65 := Op.move (t7)
            intro zx1 zx2 zx3 zx4 L V W hL hd hw hst u10 e10 p10
            obtain rfl : u10 = _ := p10
            refine ob_c (by first | rfl | (simp [wantE, dstOf, zx1]; done)) ?_ hst rfl
            go_simp
            try with_reducible rfl
          · -- 12: t66 := Op.move (t0)
            intro zx1 zx2 zx3 zx4 L V W hL hd hw hst u10 e10 p10
            obtain rfl : u10 = _ := p10
            refine ob_c (by first | rfl | (simp [wantE, dstOf, zx1]; done)) ?_ hst rfl
            go_simp
            try with_reducible rfl
          · -- 13: t67 := Op.call { callee := builtin Builtin.len, args := #[t66], argTypes := #[22] }
            intro zx1 zx2 zx3 zx4 L V W hL hd hw hst u12 e12 p12 u10 e10 p10
            obtain rfl : u12 = _ := p12
            obtain rfl : u10 = _ := p10
            refine ob_c (by first | rfl | (simp [wantE, dstOf, zx1]; done)) ?_ hst rfl
            go_simp
            try with_reducible rfl
          · -- 14: t68 := Op.binOp BinOp.gtr 3 (t65) (t67) 3
            intro zx1 zx2 zx3 zx4 L V W hL hd hw hst u11 e11 p11 u13 e13 p13 u10 e10 p10
            obtain rfl : u11 = _ := p11
            obtain rfl : u13 = _ := p13
            obtain rfl : u10 = _ := p10
            refine ob_c (by first | rfl | (simp [wantE, dstOf, zx1]; done)) ?_ hst rfl
            go_simp
            try simp [r3]
          · -- 15: t69 := Op.pick (t64) (const (bool true)) (t68)
            intro zx1 zx2 zx3 zx4 L V W hL hd hw hst u10 e10 p10 u14 e14 p14 u2 e2 p2
            obtain rfl : u10 = _ := p10
            obtain rfl : u14 = _ := p14
            obtain rfl : u2 = _ := p2
            refine ob_c (by first | rfl | (simp [wantE, dstOf, zx1]; done)) ?_ hst rfl
            go_simp
            try with_reducible rfl
          · -- 16: t70 := Op.move (t69)
            intro zx1 zx2 zx3 zx4 L V W hL hd hw hst u15 e15 p15 u2 e2 p2
            obtain rfl : u15 = _ := p15
            obtain rfl : u2 = _ := p2
            refine ob_c (by first | rfl | (simp [wantE, dstOf, zx1]; done)) ?_ hst rfl
            go_simp
            try with_reducible rfl
          · -- 17: t71 := Op.move (t9)
            intro zx1 zx2 zx3 zx4 L V W hL hd hw hst u16 e16 p16
            obtain rfl : u16 = _ := p16
            refine ob_c (by first | rfl | (simp [wantE, dstOf, zx1]; done)) ?_ hst rfl
            go_simp
            try with_reducible rfl
          · -- 18: t72 := Op.call { callee := value (func 17), args := #[const (slice none 0 0), t71], argTypes := #[22, 3] }
            intro zx1 zx2 zx3 zx4 L V W hL hd hw hst u17 e17 p17 u16 e16 p16
            obtain rfl : u17 = _ := p17
            obtain rfl : u16 = _ := p16
            refine ob_call (by first | rfl | (simp [wantE, dstOf, zx1]; done)) ?_ (Calls.ok hst (fun _ h => by simp [keys] at h) (appendInt_any W _ [] n hn.1 hn.2 (IsBytes.none _) (by decide)))
            go_simp
          · -- 19: t73 := Op.convert 22 9 (t72)
            intro zx1 zx2 zx3 zx4 L V W hL hd hw hst u18 e18 p18 u16 e16 p16
            obtain ⟨b18, q18, rfl, hb18⟩ := p18
            obtain rfl : u16 = _ := p16
            refine ob_c (by first | rfl | (simp [wantE, dstOf, zx1]; done)) ?_ hst rfl
            exact run_conv rfl (by simp [zx1]) (str_of (hb18.sub (mask_is _ _)))
          · -- 20: t74 := Op.move (t0)
            intro zx1 zx2 zx3 zx4 L V W hL hd hw hst u16 e16 p16
            obtain rfl : u16 = _ := p16
            refine ob_c (by first | rfl | (simp [wantE, dstOf, zx1]; done)) ?_ hst rfl
            go_simp
            try with_reducible rfl
          · -- 21: t75 := Op.move (t1)
            intro zx1 zx2 zx3 zx4 L V W hL hd hw hst u16 e16 p16
            obtain rfl : u16 = _ := p16
            refine ob_c (by first | rfl | (simp [wantE, dstOf, zx1]; done)) ?_ hst rfl
            go_simp
            try with_reducible rfl
          · -- 22: t76 := Op.move (t7)
            intro zx1 zx2 zx3 zx4 L V W hL hd hw hst u16 e16 p16
            obtain rfl : u16 = _ := p16
            refine ob_c (by first | rfl | (simp [wantE, dstOf, zx1]; done)) ?_ hst rfl
            go_simp
            try with_reducible rfl
          · -- 23: t77 := Op.slice 22 (t74) (some (t75)) (some (t76)) none
            intro zx1 zx2 zx3 zx4 L V W hL hd hw hst u20 e20 p20 u21 e21 p21 u22 e22 p22 u16 e16 p16
            obtain rfl : u20 = _ := p20
            obtain rfl : u21 = _ := p21
            obtain rfl : u22 = _ := p22
            obtain rfl : u16 = _ := p16
            refine ob_c (by first | rfl | (simp [wantE, dstOf, zx1]; done)) ?_ hst rfl
            go_simp
            try with_reducible rfl
          · -- 24: t78 := Op.convert 22 9 (t77)
            intro zx1 zx2 zx3 zx4 L V W hL hd hw hst u23 e23 p23 u16 e16 p16
            obtain rfl : u23 = _ := p23
            obtain rfl : u16 = _ := p16
            refine ob_c (by first | rfl | (simp [wantE, dstOf, zx1]; done)) ?_ hst rfl
            exact run_conv rfl (by simp [zx1]) (str_of ((hst.base 0 rfl : IsBytes _ _ _).sub (mask_is _ _)))
          · -- 25: t79 := Op.binOp BinOp.neq 9 (t73) (t78) 9
            intro zx1 zx2 zx3 zx4 L V W hL hd hw hst u19 e19 p19 u24 e24 p24 u16 e16 p16
            obtain rfl : u19 = _ := p19
            obtain rfl : u24 = _ := p24
            obtain rfl : u16 = _ := p16
            refine ob_c (by first | rfl | (simp [wantE, dstOf, zx1]; done)) ?_ hst rfl
            go_simp
          · -- 26: t80 := Op.pick (t70) (const (bool true)) (t79)
            intro zx1 zx2 zx3 zx4 L V W hL hd hw hst u16 e16 p16 u25 e25 p25 u2 e2 p2
            obtain rfl : u16 = _ := p16
            obtain rfl : u25 = _ := p25
            obtain rfl : u2 = _ := p2
            refine ob_c (by first | rfl | (simp [wantE, dstOf, zx1]; done)) ?_ hst rfl
            go_simp
            try with_reducible rfl
          · -- 27: t81 := Op.pick (t56) (t80) (const (bool false))
            intro zx1 zx2 zx3 zx4 L V W hL hd hw hst u2 e2 p2 u26 e26 p26
            obtain rfl : u2 = _ := p2
            obtain rfl : u26 = _ := p26
            refine ob_c rfl ?_ hst rfl
            go_simp
            try with_reducible rfl
        case en =>
          intro V W hst u0 e0 p0 u1 e1 p1 u2 e2 p2 u3 e3 p3 u4 e4 p4 u5 e5 p5 u6 e6 p6 u7 e7 p7 u8 e8 p8 u9 e9 p9 u10 e10 p10 u11 e11 p11 u12 e12 p12 u13 e13 p13 u14 e14 p14 u15 e15 p15 u16 e16 p16 u17 e17 p17 u18 e18 p18 u19 e19 p19 u20 e20 p20 u21 e21 p21 u22 e22 p22 u23 e23 p23 u24 e24 p24 u25 e25 p25 u26 e26 p26 u27 e27 p27
          obtain rfl : u0 = _ := p0
          obtain rfl : u1 = _ := p1
          obtain rfl : u2 = _ := p2
          obtain rfl : u3 = _ := p3
          obtain rfl : u4 = _ := p4
          obtain rfl : u5 = _ := p5
          obtain rfl : u6 = _ := p6
          obtain rfl : u7 = _ := p7
          obtain rfl : u8 = _ := p8
          obtain rfl : u9 = _ := p9
          obtain rfl : u10 = _ := p10
          obtain rfl : u11 = _ := p11
          obtain rfl : u12 = _ := p12
          obtain rfl : u13 = _ := p13
          obtain rfl : u14 = _ := p14
          obtain rfl : u15 = _ := p15
          obtain rfl : u16 = _ := p16
          obtain rfl : u17 = _ := p17
          obtain ⟨b18, q18, rfl, hb18⟩ := p18
          obtain rfl : u19 = _ := p19
          obtain rfl : u20 = _ := p20
          obtain rfl : u21 = _ := p21
          obtain rfl : u22 = _ := p22
          obtain rfl : u23 = _ := p23
          obtain rfl : u24 = _ := p24
          obtain rfl : u25 = _ := p25
          obtain rfl : u26 = _ := p26
          obtain rfl : u27 = _ := p27
          simp only [EndAll, Act.put, List.setIfInBounds_toArray, List.set_cons_zero, List.set_cons_succ]
          have h9 := hst.facts (fs' := [(IsBytes · (.slice bs l.length q) l)]) (fun P hP => by simp only [List.mem_cons, List.not_mem_nil, or_false] at hP; subst hP; first | exact List.mem_cons_self | exact List.mem_cons_of_mem _ List.mem_cons_self)
          clear hst e0 e1 e2 e3 e4 e5 e6 e7 e8 e9 e10 e11 e12 e13 e14 e15 e16 e17 e18 e19 e20 e21 e22 e23 e24 e25 e26 e27
          go_wp2_with fail
          go_meet
          case rel => exact ⟨rfl, h9⟩
    case rest =>
      obtain ⟨rfl, h6⟩ := hcut
      go_wp2_with fail
      refine (readText_any _ _ l i (h6.is 0 rfl)).mono ?_
      rintro e w7 ⟨rfl, hb7⟩
      have h7 := h6.call hb7
      clear hb7 h6 hr h4
      obtain ⟨n, x, c, hr⟩ : ∃ n x c, Wire.readT l i = (n, x, c) := ⟨_, _, _, rfl⟩
      rw [hr]
      go_upto_region 9 with fail
      rcases readT_cases l i with ⟨c', hc, h⟩ | ⟨j, m, n', rfl, hjm, hml, h, hn, hpart⟩
      · rw [hr] at h
        cases h
        refine wp_region_st [pVal ?c9e_0, pVal ?c9e_1, pVal ?c9e_2, pVal (.bool true), pVal ?c9e_4, pVal ?c9e_5, pVal ?c9e_6, pVal ?c9e_7, pVal ?c9e_8, pVal ?c9e_9, pVal ?c9e_10, pVal ?c9e_11, pVal ?c9e_12, pVal ?c9e_13, pVal ?c9e_14, pVal ?c9e_15, pVal ?c9e_16, pVal ?c9e_17, pVal ?c9e_18, pVal ?c9e_19, pVal ?c9e_20, pVal ?c9e_21, pVal ?c9e_22, pVal ?c9e_23, pVal ?c9e_24, pVal ?c9e_25, pVal ?c9e_26, pVal ?c9e_27, pVal ?c9e_28, pVal ?c9e_29, pVal ?c9e_30, pVal ?c9e_31] (osC []) 120 [0, 1, 3, 7, 15, 31, 63, 127, 255, 255, 1023, 2047, 4095, 8191, 8191, 24575, 65535, 131071, 262143, 524287, 1048575, 2097151, 524287, 524287, 524287, 29884415, 63438847, 134217727, 268435455, 536870911, 1073741823, 2147483647] [[], [(0, 89)], [(1, 90)], [(1, 90), (2, 91)], [(1, 90), (3, 92)], [(4, 93)], [(4, 93), (5, 94)], [(4, 93), (6, 95)], [(7, 96)], [(7, 96)], [(7, 96), (9, 98), (8, 97)], [(4, 93), (10, 99), (7, 96)], [(4, 93), (11, 100)], [(12, 101)], [(12, 101)], [(12, 101), (14, 103)], [(12, 101), (15, 104), (13, 102)], [(4, 93), (16, 105), (12, 101)], [(4, 93), (17, 106)], [(18, 107)], [(18, 107), (19, 108)], [(18, 107), (20, 109)], [(18, 107)], [(18, 107)], [(18, 107)], [(18, 107), (24, 113), (23, 112), (22, 111)], [(18, 107), (25, 114)], [(18, 107), (26, 115), (21, 110)], [(4, 93), (27, 116), (18, 107)], [(1, 90), (28, 117), (4, 93)], [(29, 118), (1, 90)], [(30, 119)]] [(0, 89), (1, 90), (2, 91), (3, 92), (4, 93), (5, 94), (6, 95), (7, 96), (8, 97), (9, 98), (10, 99), (11, 100), (12, 101), (13, 102), (14, 103), (15, 104), (16, 105), (17, 106), (18, 107), (19, 108), (20, 109), (21, 110), (22, 111), (23, 112), (24, 113), (25, 114), (26, 115), (27, 116), (28, 117), (29, 118), (30, 119), (31, 4)] (by kernel_rfl) (by kernel_rfl) rfl rfl h7 osC0 osC1 ?ob ?en
        case ob =>
          refine ⟨?_, ?_, ?_, ?_, ?_, ?_, ?_, ?_, ?_, ?_, ?_, ?_, ?_, ?_, ?_, ?_, ?_, ?_, ?_, ?_, ?_, ?_, ?_, ?_, ?_, ?_, ?_, ?_, ?_, ?_, ?_, ?_, trivial⟩
          · -- 0: t89 := Op.move (t5)
            intro zx1 zx2 zx3 zx4 L V W hL hd hw hst 
            refine ob_c rfl ?_ hst rfl
            go_simp
            try with_reducible rfl
          · -- 1: t90 := Op.move (t89)
            intro zx1 zx2 zx3 zx4 L V W hL hd hw hst u0 e0 p0
            obtain rfl : u0 = _ := p0
            refine ob_c rfl ?_ hst rfl
            go_simp
            try with_reducible rfl
          · -- 2: t91 := Op.move (t8)
            intro zx1 zx2 zx3 zx4 L V W hL hd hw hst u1 e1 p1
            obtain rfl : u1 = _ := p1
            refine ob_c (by first | rfl | (simp [wantE, dstOf, zx1]; done)) ?_ hst rfl
            go_simp
            try with_reducible rfl
          · -- 3: t92 := Op.binOp BinOp.neq 36 (t91) (const (int IntKind.i64 0)) 36
            intro zx1 zx2 zx3 zx4 L V W hL hd hw hst u2 e2 p2 u1 e1 p1
            obtain rfl : u2 = _ := p2
            obtain rfl : u1 = _ := p1
            refine ob_c (by first | rfl | (simp [wantE, dstOf, zx1]; done)) ?_ hst rfl
            go_simp
            try simp [hc]
          · -- 4: t93 := Op.move (t92)
            intro zx1 zx2 zx3 zx4 L V W hL hd hw hst u3 e3 p3 u1 e1 p1
            obtain rfl : u3 = _ := p3
            obtain rfl : u1 = _ := p1
            refine ob_c (by first | rfl | (simp [wantE, dstOf, zx1]; done)) ?_ hst rfl
            go_simp
            try with_reducible rfl
          · -- 5: t94 := Op.move (t1)
            intro zx1 zx2 zx3 zx4 L V W hL hd hw hst u4 e4 p4
            obtain rfl : u4 = _ := p4
            refine ob_o ?_ hst ?_
            · first | rfl | (simp [wantE, dstOf, zx1]; done)
            · rfl
          · -- 6: t95 := Op.binOp BinOp.geq 3 (t94) (const (int IntKind.i64 0)) 3
            intro zx1 zx2 zx3 zx4 L V W hL hd hw hst u5 e5 p5 u4 e4 p4
            obtain rfl : u5 = _ := p5
            obtain rfl : u4 = _ := p4
            refine ob_o ?_ hst ?_
            · first | rfl | (simp [wantE, dstOf, zx1]; done)
            · rfl
          · -- 7: t96 := Op.move (t95)
            intro zx1 zx2 zx3 zx4 L V W hL hd hw hst u6 e6 p6 u4 e4 p4
            obtain rfl : u6 = _ := p6
            obtain rfl : u4 = _ := p4
            refine ob_o ?_ hst ?_
            · first | rfl | (simp [wantE, dstOf, zx1]; done)
            · rfl
          · -- 8: t97 := Op.move (t7)
            intro zx1 zx2 zx3 zx4 L V W hL hd hw hst u7 e7 p7
            obtain rfl : u7 = _ := p7
            refine ob_o ?_ hst ?_
            · first | rfl | (simp [wantE, dstOf, zx1]; done)
            · rfl
          · -- 9: t98 := Op.move (t1)
            intro zx1 zx2 zx3 zx4 L V W hL hd hw hst u7 e7 p7
            obtain rfl : u7 = _ := p7
            refine ob_o ?_ hst ?_
            · first | rfl | (simp [wantE, dstOf, zx1]; done)
            · rfl
          · -- 10: t99 := Op.binOp BinOp.gtr 3 (t97) (t98) 3
            intro zx1 zx2 zx3 zx4 L V W hL hd hw hst u8 e8 p8 u9 e9 p9 u7 e7 p7
            obtain rfl : u8 = _ := p8
            obtain rfl : u9 = _ := p9
            obtain rfl : u7 = _ := p7
            refine ob_o ?_ hst ?_
            · first | rfl | (simp [wantE, dstOf, zx1]; done)
            · rfl
          · -- 11: t100 := Op.pick (t96) (t99) (const (bool false))
            intro zx1 zx2 zx3 zx4 L V W hL hd hw hst u7 e7 p7 u10 e10 p10 u4 e4 p4
            obtain rfl : u7 = _ := p7
            obtain rfl : u10 = _ := p10
            obtain rfl : u4 = _ := p4
            refine ob_o ?_ hst ?_
            · first | rfl | (simp [wantE, dstOf, zx1]; done)
            · rfl
          · -- 12: t101 := Op.move (t100)
            intro zx1 zx2 zx3 zx4 L V W hL hd hw hst u11 e11 p11 u4 e4 p4
            obtain rfl : u11 = _ := p11
            obtain rfl : u4 = _ := p4
            refine ob_o ?_ hst ?_
            · first | rfl | (simp [wantE, dstOf, zx1]; done)
            · rfl
          · -- 13: t102 := Op.move (t7)
            intro zx1 zx2 zx3 zx4 L V W hL hd hw hst u12 e12 p12
            obtain rfl : u12 = _ := p12
            refine ob_o ?_ hst ?_
            · first | rfl | (simp [wantE, dstOf, zx1]; done)
            · rfl
          · -- 14: t103 := Op.move (t0)
            intro zx1 zx2 zx3 zx4 L V W hL hd hw hst u12 e12 p12
            obtain rfl : u12 = _ := p12
            refine ob_o ?_ hst ?_
            · first | rfl | (simp [wantE, dstOf, zx1]; done)
            · rfl
          · -- 15: t104 := Op.call { callee := builtin Builtin.len, args := #[t103], argTypes := #[22] }
            intro zx1 zx2 zx3 zx4 L V W hL hd hw hst u14 e14 p14 u12 e12 p12
            obtain rfl : u14 = _ := p14
            obtain rfl : u12 = _ := p12
            refine ob_o ?_ hst ?_
            · first | rfl | (simp [wantE, dstOf, zx1]; done)
            · rfl
          · -- 16: t105 := Op.binOp BinOp.leq 3 (t102) (t104) 3
            intro zx1 zx2 zx3 zx4 L V W hL hd hw hst u13 e13 p13 u15 e15 p15 u12 e12 p12
            obtain rfl : u13 = _ := p13
            obtain rfl : u15 = _ := p15
            obtain rfl : u12 = _ := p12
            refine ob_o ?_ hst ?_
            · first | rfl | (simp [wantE, dstOf, zx1]; done)
            · rfl
          · -- 17: t106 := Op.pick (t101) (t105) (const (bool false))
            intro zx1 zx2 zx3 zx4 L V W hL hd hw hst u12 e12 p12 u16 e16 p16 u4 e4 p4
            obtain rfl : u12 = _ := p12
            obtain rfl : u16 = _ := p16
            obtain rfl : u4 = _ := p4
            refine ob_o ?_ hst ?_
            · first | rfl | (simp [wantE, dstOf, zx1]; done)
            · rfl
          · -- 18: t107 := Op.move (t106)
            intro zx1 zx2 zx3 zx4 L V W hL hd hw hst u17 e17 p17 u4 e4 p4
            obtain rfl : u17 = _ := p17
            obtain rfl : u4 = _ := p4
            refine ob_o ?_ hst ?_
            · first | rfl | (simp [wantE, dstOf, zx1]; done)
            · rfl
          · -- 19: t108 := Op.move (t10)
            intro zx1 zx2 zx3 zx4 L V W hL hd hw hst u18 e18 p18
            obtain rfl : u18 = _ := p18
            refine ob_o ?_ hst ?_
            · first | rfl | (simp [wantE, dstOf, zx1]; done)
            · rfl
          · -- 20: t109 := Op.call { callee := value (func 19), args := #[const (slice none 0 0), t108], argTypes := #[22, 9] }
            intro zx1 zx2 zx3 zx4 L V W hL hd hw hst u19 e19 p19 u18 e18 p18
            obtain rfl : u19 = _ := p19
            obtain rfl : u18 = _ := p18
            refine ob_o ?_ hst ?_
            · first | rfl | (simp [wantE, dstOf, zx1]; done)
            · rfl
          · -- 21: t110 := Op.convert 22 9 (t109)
            intro zx1 zx2 zx3 zx4 L V W hL hd hw hst u20 e20 p20 u18 e18 p18
            obtain rfl : u20 = _ := p20
            obtain rfl : u18 = _ := p18
            refine ob_o ?_ hst ?_
            · first | rfl | (simp [wantE, dstOf, zx1]; done)
            · rfl
          · -- 22: t111 := Op.move (t0)
            intro zx1 zx2 zx3 zx4 L V W hL hd hw hst u18 e18 p18
            obtain rfl : u18 = _ := p18
            refine ob_o ?_ hst ?_
            · first | rfl | (simp [wantE, dstOf, zx1]; done)
            · rfl
          · -- 23: t112 := Op.move (t1)
            intro zx1 zx2 zx3 zx4 L V W hL hd hw hst u18 e18 p18
            obtain rfl : u18 = _ := p18
            refine ob_o ?_ hst ?_
            · first | rfl | (simp [wantE, dstOf, zx1]; done)
            · rfl
          · -- 24: t113 := Op.move (t7)
            intro zx1 zx2 zx3 zx4 L V W hL hd hw hst u18 e18 p18
            obtain rfl : u18 = _ := p18
            refine ob_o ?_ hst ?_
            · first | rfl | (simp [wantE, dstOf, zx1]; done)
            · rfl
          · -- 25: t114 := Op.slice 22 (t111) (some (t112)) (some (t113)) none
            intro zx1 zx2 zx3 zx4 L V W hL hd hw hst u22 e22 p22 u23 e23 p23 u24 e24 p24 u18 e18 p18
            obtain rfl : u22 = _ := p22
            obtain rfl : u23 = _ := p23
            obtain rfl : u24 = _ := p24
            obtain rfl : u18 = _ := p18
            refine ob_o ?_ hst ?_
            · first | rfl | (simp [wantE, dstOf, zx1]; done)
            · rfl
          · -- 26: t115 := Op.convert 22 9 (t114)
            intro zx1 zx2 zx3 zx4 L V W hL hd hw hst u25 e25 p25 u18 e18 p18
            obtain rfl : u25 = _ := p25
            obtain rfl : u18 = _ := p18
            refine ob_o ?_ hst ?_
            · first | rfl | (simp [wantE, dstOf, zx1]; done)
            · rfl
          · -- 27: t116 := Op.binOp BinOp.eql 9 (t110) (t115) 9
            intro zx1 zx2 zx3 zx4 L V W hL hd hw hst u21 e21 p21 u26 e26 p26 u18 e18 p18
            obtain rfl : u21 = _ := p21
            obtain rfl : u26 = _ := p26
            obtain rfl : u18 = _ := p18
            refine ob_o ?_ hst ?_
            · first | rfl | (simp [wantE, dstOf, zx1]; done)
            · rfl
          · -- 28: t117 := Op.pick (t107) (t116) (const (bool false))
            intro zx1 zx2 zx3 zx4 L V W hL hd hw hst u18 e18 p18 u27 e27 p27 u4 e4 p4
            obtain rfl : u18 = _ := p18
            obtain rfl : u27 = _ := p27
            obtain rfl : u4 = _ := p4
            refine ob_o ?_ hst ?_
            · first | rfl | (simp [wantE, dstOf, zx1]; done)
            · rfl
          · -- 29: t118 := Op.pick (t93) (const (bool true)) (t117)
            intro zx1 zx2 zx3 zx4 L V W hL hd hw hst u4 e4 p4 u28 e28 p28 u1 e1 p1
            obtain rfl : u4 = _ := p4
            obtain rfl : u28 = _ := p28
            obtain rfl : u1 = _ := p1
            refine ob_c (by first | rfl | (simp [wantE, dstOf, zx1]; done)) ?_ hst rfl
            go_simp
            try with_reducible rfl
          · -- 30: t119 := Op.pick (t90) (t118) (const (bool false))
            intro zx1 zx2 zx3 zx4 L V W hL hd hw hst u1 e1 p1 u29 e29 p29
            obtain rfl : u1 = _ := p1
            obtain rfl : u29 = _ := p29
            refine ob_c rfl ?_ hst rfl
            go_simp
            try with_reducible rfl
          · -- 31: t4 := Op.assign (t119)
            intro zx1 zx2 zx3 zx4 L V W hL hd hw hst u30 e30 p30
            obtain rfl : u30 = _ := p30
            refine ob_c rfl ?_ hst rfl
            go_simp
            try with_reducible rfl
        case en =>
          intro V W hst u0 e0 p0 u1 e1 p1 u2 e2 p2 u3 e3 p3 u4 e4 p4 u5 e5 p5 u6 e6 p6 u7 e7 p7 u8 e8 p8 u9 e9 p9 u10 e10 p10 u11 e11 p11 u12 e12 p12 u13 e13 p13 u14 e14 p14 u15 e15 p15 u16 e16 p16 u17 e17 p17 u18 e18 p18 u19 e19 p19 u20 e20 p20 u21 e21 p21 u22 e22 p22 u23 e23 p23 u24 e24 p24 u25 e25 p25 u26 e26 p26 u27 e27 p27 u28 e28 p28 u29 e29 p29 u30 e30 p30 u31 e31 p31
          obtain rfl : u0 = _ := p0
          obtain rfl : u1 = _ := p1
          obtain rfl : u2 = _ := p2
          obtain rfl : u3 = _ := p3
          obtain rfl : u4 = _ := p4
          obtain rfl : u5 = _ := p5
          obtain rfl : u6 = _ := p6
          obtain rfl : u7 = _ := p7
          obtain rfl : u8 = _ := p8
          obtain rfl : u9 = _ := p9
          obtain rfl : u10 = _ := p10
          obtain rfl : u11 = _ := p11
          obtain rfl : u12 = _ := p12
          obtain rfl : u13 = _ := p13
          obtain rfl : u14 = _ := p14
          obtain rfl : u15 = _ := p15
          obtain rfl : u16 = _ := p16
          obtain rfl : u17 = _ := p17
          obtain rfl : u18 = _ := p18
          obtain rfl : u19 = _ := p19
          obtain rfl : u20 = _ := p20
          obtain rfl : u21 = _ := p21
          obtain rfl : u22 = _ := p22
          obtain rfl : u23 = _ := p23
          obtain rfl : u24 = _ := p24
          obtain rfl : u25 = _ := p25
          obtain rfl : u26 = _ := p26
          obtain rfl : u27 = _ := p27
          obtain rfl : u28 = _ := p28
          obtain rfl : u29 = _ := p29
          obtain rfl : u30 = _ := p30
          obtain rfl : u31 = _ := p31
          simp only [EndAll, Act.put, List.setIfInBounds_toArray, List.set_cons_zero, List.set_cons_succ]
          have h9 := hst.facts (fs' := [(IsBytes · (.slice bs l.length q) l)]) (fun P hP => by simp only [List.mem_cons, List.not_mem_nil, or_false] at hP; subst hP; first | exact List.mem_cons_self | exact List.mem_cons_of_mem _ List.mem_cons_self)
          clear hst e0 e1 e2 e3 e4 e5 e6 e7 e8 e9 e10 e11 e12 e13 e14 e15 e16 e17 e18 e19 e20 e21 e22 e23 e24 e25 e26 e27 e28 e29 e30 e31
          go_wp2_with fail
          go_ret
          exact ⟨rfl, h9.below⟩
      · rw [hr] at h
        cases h
        have hp := (h7.get 0 rfl : IsBytes _ _ _).part j m q (by omega) hml (by omega) (Nat.le_refl _)
        rw [hpart] at hp
        have h0 := h7.put (Mono.bytes _ _) hp
        clear hp
        have r1 : 0 ≤ (j : Int) := by omega
        have r2 : (j : Int) < (m : Int) := by omega
        have r3 : (m : Int) ≤ (l.length : Int) := by omega
        have r4 : (j : Int) ≤ (m : Int) := by omega
        have r5 : (m : Int) ≤ (q : Int) := by omega
        have r6 : 0 ≤ (m : Int) := by omega
        refine wp_region_st [pVal ?c9k_0, pVal ?c9k_1, pVal ?c9k_2, pVal (.bool false), pVal ?c9k_4, pVal ?c9k_5, pVal (.bool true), pVal ?c9k_7, pVal ?c9k_8, pVal ?c9k_9, pVal (.bool true), pVal ?c9k_11, pVal ?c9k_12, pVal ?c9k_13, pVal ?c9k_14, pVal ?c9k_15, pVal (.bool true), pVal ?c9k_17, pVal ?c9k_18, pVal ?c9k_19, pBytes (Wire.encT n), pVal (.string ⟨(Wire.encT n).toArray⟩), pVal ?c9k_22, pVal ?c9k_23, pVal ?c9k_24, pVal ?c9k_25, pVal (.string ⟨(Wire.encT n).toArray⟩), pVal (.bool true), pVal ?c9k_28, pVal ?c9k_29, pVal ?c9k_30, pVal ?c9k_31] (osC []) 120 [0, 1, 3, 7, 15, 31, 63, 127, 255, 255, 1023, 2047, 4095, 8191, 8191, 24575, 65535, 131071, 262143, 524287, 1048575, 2097151, 524287, 524287, 524287, 29884415, 63438847, 134217727, 268435455, 536870911, 1073741823, 2147483647] [[], [(0, 89)], [(1, 90)], [(1, 90), (2, 91)], [(1, 90), (3, 92)], [(4, 93)], [(4, 93), (5, 94)], [(4, 93), (6, 95)], [(7, 96)], [(7, 96)], [(7, 96), (9, 98), (8, 97)], [(4, 93), (10, 99), (7, 96)], [(4, 93), (11, 100)], [(12, 101)], [(12, 101)], [(12, 101), (14, 103)], [(12, 101), (15, 104), (13, 102)], [(4, 93), (16, 105), (12, 101)], [(4, 93), (17, 106)], [(18, 107)], [(18, 107), (19, 108)], [(18, 107), (20, 109)], [(18, 107)], [(18, 107)], [(18, 107)], [(18, 107), (24, 113), (23, 112), (22, 111)], [(18, 107), (25, 114)], [(18, 107), (26, 115), (21, 110)], [(4, 93), (27, 116), (18, 107)], [(1, 90), (28, 117), (4, 93)], [(29, 118), (1, 90)], [(30, 119)]] [(0, 89), (1, 90), (2, 91), (3, 92), (4, 93), (5, 94), (6, 95), (7, 96), (8, 97), (9, 98), (10, 99), (11, 100), (12, 101), (13, 102), (14, 103), (15, 104), (16, 105), (17, 106), (18, 107), (19, 108), (20, 109), (21, 110), (22, 111), (23, 112), (24, 113), (25, 114), (26, 115), (27, 116), (28, 117), (29, 118), (30, 119), (31, 4)] (by kernel_rfl) (by kernel_rfl) rfl rfl h0 osC0 osC1 ?ob ?en
        case ob =>
          refine ⟨?_, ?_, ?_, ?_, ?_, ?_, ?_, ?_, ?_, ?_, ?_, ?_, ?_, ?_, ?_, ?_, ?_, ?_, ?_, ?_, ?_, ?_, ?_, ?_, ?_, ?_, ?_, ?_, ?_, ?_, ?_, ?_, trivial⟩
          · -- 0: t89 := Op.move (t5)
            intro zx1 zx2 zx3 zx4 L V W hL hd hw hst 
            refine ob_c rfl ?_ hst rfl
            go_simp
            try with_reducible rfl
          · -- 1: t90 := Op.move (t89)
            intro zx1 zx2 zx3 zx4 L V W hL hd hw hst u0 e0 p0
            obtain rfl : u0 = _ := p0
            refine ob_c rfl ?_ hst rfl
            go_simp
            try with_reducible rfl
          · -- 2: t91 := Op.move (t8)
            intro zx1 zx2 zx3 zx4 L V W hL hd hw hst u1 e1 p1
            obtain rfl : u1 = _ := p1
            refine ob_c (by first | rfl | (simp [wantE, dstOf, zx1]; done)) ?_ hst rfl
            go_simp
            try with_reducible rfl
          · -- 3: t92 := Op.binOp BinOp.neq 36 (t91) (const (int IntKind.i64 0)) 36
            intro zx1 zx2 zx3 zx4 L V W hL hd hw hst u2 e2 p2 u1 e1 p1
            obtain rfl : u2 = _ := p2
            obtain rfl : u1 = _ := p1
            refine ob_c (by first | rfl | (simp [wantE, dstOf, zx1]; done)) ?_ hst rfl
            go_simp
          · -- 4: t93 := Op.move (t92)
            intro zx1 zx2 zx3 zx4 L V W hL hd hw hst u3 e3 p3 u1 e1 p1
            obtain rfl : u3 = _ := p3
            obtain rfl : u1 = _ := p1
            refine ob_c (by first | rfl | (simp [wantE, dstOf, zx1]; done)) ?_ hst rfl
            go_simp
            try with_reducible rfl
          · -- 5: t94 := Op.move (t1)
            intro zx1 zx2 zx3 zx4 L V W hL hd hw hst u4 e4 p4
            obtain rfl : u4 = _ := p4
            refine ob_c (by first | rfl | (simp [wantE, dstOf, zx1]; done)) ?_ hst rfl
            go_simp
            try with_reducible rfl
          · -- 6: t95 := Op.binOp BinOp.geq 3 (t94) (const (int IntKind.i64 0)) 3
            intro zx1 zx2 zx3 zx4 L V W hL hd hw hst u5 e5 p5 u4 e4 p4
            obtain rfl : u5 = _ := p5
            obtain rfl : u4 = _ := p4
            refine ob_c (by first | rfl | (simp [wantE, dstOf, zx1]; done)) ?_ hst rfl
            go_simp
            try simp [r1]
          · -- 7: t96 := Op.move (t95)
            intro zx1 zx2 zx3 zx4 L V W hL hd hw hst u6 e6 p6 u4 e4 p4
            obtain rfl : u6 = _ := p6
            obtain rfl : u4 = _ := p4
            refine ob_c (by first | rfl | (simp [wantE, dstOf, zx1]; done)) ?_ hst rfl
            go_simp
            try with_reducible rfl
          · -- 8: t97 := Op.move (t7)
            intro zx1 zx2 zx3 zx4 L V W hL hd hw hst u7 e7 p7
            obtain rfl : u7 = _ := p7
            refine ob_c (by first | rfl | (simp [wantE, dstOf, zx1]; done)) ?_ hst rfl
            go_simp
            try with_reducible rfl
          · -- 9: t98 := Op.move (t1)
            intro zx1 zx2 zx3 zx4 L V W hL hd hw hst u7 e7 p7
            obtain rfl : u7 = _ := p7
            refine ob_c (by first | rfl | (simp [wantE, dstOf, zx1]; done)) ?_ hst rfl
            go_simp
            try with_reducible rfl
          · -- 10: t99 := Op.binOp BinOp.gtr 3 (t97) (t98) 3
            intro zx1 zx2 zx3 zx4 L V W hL hd hw hst u8 e8 p8 u9 e9 p9 u7 e7 p7
            obtain rfl : u8 = _ := p8
            obtain rfl : u9 = _ := p9
            obtain rfl : u7 = _ := p7
            refine ob_c (by first | rfl | (simp [wantE, dstOf, zx1]; done)) ?_ hst rfl
            go_simp
            try simp [r2]
          · -- 11: t100 := Op.pick (t96) (t99) (const (bool false))
            intro zx1 zx2 zx3 zx4 L V W hL hd hw hst u7 e7 p7 u10 e10 p10 u4 e4 p4
            obtain rfl : u7 = _ := p7
            obtain rfl : u10 = _ := p10
            obtain rfl : u4 = _ := p4
            refine ob_c (by first | rfl | (simp [wantE, dstOf, zx1]; done)) ?_ hst rfl
            go_simp
            try with_reducible rfl
          · -- 12: t101 := Op.move (t100)
            intro zx1 zx2 zx3 zx4 L V W hL hd hw hst u11 e11 p11 u4 e4 p4
            obtain rfl : u11 = _ := p11
            obtain rfl : u4 = _ := p4
            refine ob_c (by first | rfl | (simp [wantE, dstOf, zx1]; done)) ?_ hst rfl
            go_simp
            try with_reducible rfl
          · -- 13: t102 := Op.move (t7)
            intro zx1 zx2 zx3 zx4 L V W hL hd hw hst u12 e12 p12
            obtain rfl : u12 = _ := p12
            refine ob_c (by first | rfl | (simp [wantE, dstOf, zx1]; done)) ?_ hst rfl
            go_simp
            try with_reducible rfl
          · -- 14: t103 := Op.move (t0)
            intro zx1 zx2 zx3 zx4 L V W hL hd hw hst u12 e12 p12
            obtain rfl : u12 = _ := p12
            refine ob_c (by first | rfl | (simp [wantE, dstOf, zx1]; done)) ?_ hst rfl
            go_simp
            try with_reducible rfl
          · -- 15: t104 := Op.call { callee := builtin Builtin.len, args := #[t103], argTypes := #[22] }
            intro zx1 zx2 zx3 zx4 L V W hL hd hw hst u14 e14 p14 u12 e12 p12
            obtain rfl : u14 = _ := p14
            obtain rfl : u12 = _ := p12
            refine ob_c (by first | rfl | (simp [wantE, dstOf, zx1]; done)) ?_ hst rfl
            go_simp
            try with_reducible rfl
          · -- 16: t105 := Op.binOp BinOp.leq 3 (t102) (t104) 3
            intro zx1 zx2 zx3 zx4 L V W hL hd hw hst u13 e13 p13 u15 e15 p15 u12 e12 p12
            obtain rfl : u13 = _ := p13
            obtain rfl : u15 = _ := p15
            obtain rfl : u12 = _ := p12
            refine ob_c (by first | rfl | (simp [wantE, dstOf, zx1]; done)) ?_ hst rfl
            go_simp
            try simp [r3]
          · -- 17: t106 := Op.pick (t101) (t105) (const (bool false))
            intro zx1 zx2 zx3 zx4 L V W hL hd hw hst u12 e12 p12 u16 e16 p16 u4 e4 p4
            obtain rfl : u12 = _ := p12
            obtain rfl : u16 = _ := p16
            obtain rfl : u4 = _ := p4
            refine ob_c (by first | rfl | (simp [wantE, dstOf, zx1]; done)) ?_ hst rfl
            go_simp
            try with_reducible rfl
          · -- 18: t107 := Op.move (t106)
            intro zx1 zx2 zx3 zx4 L V W hL hd hw hst u17 e17 p17 u4 e4 p4
            obtain rfl : u17 = _ := p17
            obtain rfl : u4 = _ := p4
            refine ob_c (by first | rfl | (simp [wantE, dstOf, zx1]; done)) ?_ hst rfl
            go_simp
            try with_reducible rfl
          · -- 19: t108 := Op.move (t10)
            intro zx1 zx2 zx3 zx4 L V W hL hd hw hst u18 e18 p18
            obtain rfl : u18 = _ := p18
            refine ob_c (by first | rfl | (simp [wantE, dstOf, zx1]; done)) ?_ hst rfl
            go_simp
            try with_reducible rfl
          · -- 20: t109 := Op.call { callee := value (func 19), args := #[const (slice none 0 0), t108], argTypes := #[22, 9] }
            intro zx1 zx2 zx3 zx4 L V W hL hd hw hst u19 e19 p19 u18 e18 p18
            obtain rfl : u19 = _ := p19
            obtain rfl : u18 = _ := p18
            refine ob_call (by first | rfl | (simp [wantE, dstOf, zx1]; done)) ?_ (Calls.ok hst (fun _ h => by simp [keys] at h) (appendText_any W _ [] ⟨n.toArray⟩ (IsBytes.none _) (by show 0 + n.toArray.size ≤ _; simp only [List.size_toArray]; omega)))
            go_simp
          · -- 21: t110 := Op.convert 22 9 (t109)
            intro zx1 zx2 zx3 zx4 L V W hL hd hw hst u20 e20 p20 u18 e18 p18
            obtain ⟨b20, q20, rfl, hb20⟩ := p20
            obtain rfl : u18 = _ := p18
            refine ob_c (by first | rfl | (simp [wantE, dstOf, zx1]; done)) ?_ hst rfl
            exact run_conv rfl (by simp [zx1]) (str_of (hb20.sub (mask_is _ _)))
          · -- 22: t111 := Op.move (t0)
            intro zx1 zx2 zx3 zx4 L V W hL hd hw hst u18 e18 p18
            obtain rfl : u18 = _ := p18
            refine ob_c (by first | rfl | (simp [wantE, dstOf, zx1]; done)) ?_ hst rfl
            go_simp
            try with_reducible rfl
          · -- 23: t112 := Op.move (t1)
            intro zx1 zx2 zx3 zx4 L V W hL hd hw hst u18 e18 p18
            obtain rfl : u18 = _ := p18
            refine ob_c (by first | rfl | (simp [wantE, dstOf, zx1]; done)) ?_ hst rfl
            go_simp
            try with_reducible rfl
          · -- 24: t113 := Op.move (t7)
            intro zx1 zx2 zx3 zx4 L V W hL hd hw hst u18 e18 p18
            obtain rfl : u18 = _ := p18
            refine ob_c (by first | rfl | (simp [wantE, dstOf, zx1]; done)) ?_ hst rfl
            go_simp
            try with_reducible rfl
          · -- 25: t114 := Op.slice 22 (t111) (some (t112)) (some (t113)) none
            intro zx1 zx2 zx3 zx4 L V W hL hd hw hst u22 e22 p22 u23 e23 p23 u24 e24 p24 u18 e18 p18
            obtain rfl : u22 = _ := p22
            obtain rfl : u23 = _ := p23
            obtain rfl : u24 = _ := p24
            obtain rfl : u18 = _ := p18
            refine ob_c (by first | rfl | (simp [wantE, dstOf, zx1]; done)) ?_ hst rfl
            go_simp
            try with_reducible rfl
          · -- 26: t115 := Op.convert 22 9 (t114)
            intro zx1 zx2 zx3 zx4 L V W hL hd hw hst u25 e25 p25 u18 e18 p18
            obtain rfl : u25 = _ := p25
            obtain rfl : u18 = _ := p18
            refine ob_c (by first | rfl | (simp [wantE, dstOf, zx1]; done)) ?_ hst rfl
            exact run_conv rfl (by simp [zx1]) (str_of ((hst.base 0 rfl : IsBytes _ _ _).sub (mask_is _ _)))
          · -- 27: t116 := Op.binOp BinOp.eql 9 (t110) (t115) 9
            intro zx1 zx2 zx3 zx4 L V W hL hd hw hst u21 e21 p21 u26 e26 p26 u18 e18 p18
            obtain rfl : u21 = _ := p21
            obtain rfl : u26 = _ := p26
            obtain rfl : u18 = _ := p18
            refine ob_c (by first | rfl | (simp [wantE, dstOf, zx1]; done)) ?_ hst rfl
            go_simp
          · -- 28: t117 := Op.pick (t107) (t116) (const (bool false))
            intro zx1 zx2 zx3 zx4 L V W hL hd hw hst u18 e18 p18 u27 e27 p27 u4 e4 p4
            obtain rfl : u18 = _ := p18
            obtain rfl : u27 = _ := p27
            obtain rfl : u4 = _ := p4
            refine ob_c (by first | rfl | (simp [wantE, dstOf, zx1]; done)) ?_ hst rfl
            go_simp
            try with_reducible rfl
          · -- 29: t118 := Op.pick (t93) (const (bool true)) (t117)
            intro zx1 zx2 zx3 zx4 L V W hL hd hw hst u4 e4 p4 u28 e28 p28 u1 e1 p1
            obtain rfl : u4 = _ := p4
            obtain rfl : u28 = _ := p28
            obtain rfl : u1 = _ := p1
            refine ob_c (by first | rfl | (simp [wantE, dstOf, zx1]; done)) ?_ hst rfl
            go_simp
            try with_reducible rfl
          · -- 30: t119 := Op.pick (t90) (t118) (const (bool false))
            intro zx1 zx2 zx3 zx4 L V W hL hd hw hst u1 e1 p1 u29 e29 p29
            obtain rfl : u1 = _ := p1
            obtain rfl : u29 = _ := p29
            refine ob_c rfl ?_ hst rfl
            go_simp
            try with_reducible rfl
          · -- 31: t4 := Op.assign (t119)
            intro zx1 zx2 zx3 zx4 L V W hL hd hw hst u30 e30 p30
            obtain rfl : u30 = _ := p30
            refine ob_c rfl ?_ hst rfl
            go_simp
            try with_reducible rfl
        case en =>
          intro V W hst u0 e0 p0 u1 e1 p1 u2 e2 p2 u3 e3 p3 u4 e4 p4 u5 e5 p5 u6 e6 p6 u7 e7 p7 u8 e8 p8 u9 e9 p9 u10 e10 p10 u11 e11 p11 u12 e12 p12 u13 e13 p13 u14 e14 p14 u15 e15 p15 u16 e16 p16 u17 e17 p17 u18 e18 p18 u19 e19 p19 u20 e20 p20 u21 e21 p21 u22 e22 p22 u23 e23 p23 u24 e24 p24 u25 e25 p25 u26 e26 p26 u27 e27 p27 u28 e28 p28 u29 e29 p29 u30 e30 p30 u31 e31 p31
          obtain rfl : u0 = _ := p0
          obtain rfl : u1 = _ := p1
          obtain rfl : u2 = _ := p2
          obtain rfl : u3 = _ := p3
          obtain rfl : u4 = _ := p4
          obtain rfl : u5 = _ := p5
          obtain rfl : u6 = _ := p6
          obtain rfl : u7 = _ := p7
          obtain rfl : u8 = _ := p8
          obtain rfl : u9 = _ := p9
          obtain rfl : u10 = _ := p10
          obtain rfl : u11 = _ := p11
          obtain rfl : u12 = _ := p12
          obtain rfl : u13 = _ := p13
          obtain rfl : u14 = _ := p14
          obtain rfl : u15 = _ := p15
          obtain rfl : u16 = _ := p16
          obtain rfl : u17 = _ := p17
          obtain rfl : u18 = _ := p18
          obtain rfl : u19 = _ := p19
          obtain ⟨b20, q20, rfl, hb20⟩ := p20
          obtain rfl : u21 = _ := p21
          obtain rfl : u22 = _ := p22
          obtain rfl : u23 = _ := p23
          obtain rfl : u24 = _ := p24
          obtain rfl : u25 = _ := p25
          obtain rfl : u26 = _ := p26
          obtain rfl : u27 = _ := p27
          obtain rfl : u28 = _ := p28
          obtain rfl : u29 = _ := p29
          obtain rfl : u30 = _ := p30
          obtain rfl : u31 = _ := p31
          simp only [EndAll, Act.put, List.setIfInBounds_toArray, List.set_cons_zero, List.set_cons_succ]
          have h9 := hst.facts (fs' := [(IsBytes · (.slice bs l.length q) l)]) (fun P hP => by simp only [List.mem_cons, List.not_mem_nil, or_false] at hP; subst hP; first | exact List.mem_cons_self | exact List.mem_cons_of_mem _ List.mem_cons_self)
          clear hst e0 e1 e2 e3 e4 e5 e6 e7 e8 e9 e10 e11 e12 e13 e14 e15 e16 e17 e18 e19 e20 e21 e22 e23 e24 e25 e26 e27 e28 e29 e30 e31
          go_wp2_with fail
          go_ret
          exact ⟨rfl, h9.below⟩
end Go.Proofs.Ytblfpkhgnfjbbaa
