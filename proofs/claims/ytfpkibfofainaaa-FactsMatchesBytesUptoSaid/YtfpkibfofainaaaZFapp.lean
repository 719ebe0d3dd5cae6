/- The walk over facts.Append. -/
import Derived.Test.YtfpkibfofainaaaZLst
import Derived.Test.YtfpkibfofainaaaZNew
set_option linter.unusedVariables false
set_option linter.unusedSimpArgs false
namespace Go.Proofs.Ytfpkibfofainaaa
open Go.RowKit

/-- The encoding of a fact. -/
def Fc.enc (f : Fc) : List UInt8 := Wire.encT f.src.data.toList ++ Wire.encI f.seq ++ Wire.encI f.kind ++ Wire.encI f.ref ++ Wire.encT f.table.data.toList ++ Wire.encT f.key.data.toList ++ Wire.encI f.event ++ Wire.encU f.fields.length ++ encVs f.fields
/-- A fact's numbers are ints. -/
def Fc.Ints (f : Fc) : Prop := (-9223372036854775808 ≤ f.seq ∧ f.seq ≤ 9223372036854775807) ∧ (-9223372036854775808 ≤ f.kind ∧ f.kind ≤ 9223372036854775807) ∧ (-9223372036854775808 ≤ f.ref ∧ f.ref ≤ 9223372036854775807) ∧ (-9223372036854775808 ≤ f.event ∧ f.event ≤ 9223372036854775807)
theorem encT_le (s : ByteArray) (h : s.size ≤ 1048576) : (Wire.encT s.data.toList).length ≤ 1048586 := by
  have hl : s.data.toList.length = s.size := by simp
  unfold Wire.encT
  rw [List.length_append]
  have := Wire.encU_len10 (n := s.data.toList.length) (by omega)
  omega
theorem encI_le {n : Int} (h : -9223372036854775808 ≤ n ∧ n ≤ 9223372036854775807) : (Wire.encI n).length ≤ 10 := Wire.encU_len10 (Wire.zig_lt h.1 h.2)

set_option maxRecDepth 8000 in
set_option maxHeartbeats 4000000 in
theorem factAppend_any (w : World) (bv : Value) (l : List UInt8) (f : Fc) (vb : Option Addr) (vq : Nat) (hb : IsBytes w bv l) (hv : IsVals w (.slice vb f.fields.length vq) f.fields) (hI : f.Ints) (hl : l.length ≤ 549755813888)
    (hs1 : f.src.size ≤ 1048576) (hs2 : f.table.size ≤ 1048576) (hs3 : f.key.size ≤ 1048576) (hvl : f.fields.length ≤ 1048576) :
    Calls Try.prog 15 #[bv, f.val (.slice vb f.fields.length vq)] w fun e w' => ∃ v', e = .returned v' ∧ NewB w.heap.size w' v' (l ++ f.enc) ∧ Below w.heap.size w w' := by
  obtain ⟨bs, bq, rfl, -⟩ := hb.out
  obtain ⟨src, seq, kind, ref, table, key, event, fields⟩ := f
  have henc : Fc.enc ⟨src, seq, kind, ref, table, key, event, fields⟩ = Wire.encT src.data.toList ++ Wire.encI seq ++ Wire.encI kind ++ Wire.encI ref ++ Wire.encT table.data.toList ++ Wire.encT key.data.toList ++ Wire.encI event ++ Wire.encU fields.length ++ encVs fields := rfl
  simp only [Fc.val, Fc.cellsA, Fc.Ints] at *
  obtain ⟨n, hn⟩ : ∃ n, fields.length = n := ⟨_, rfl⟩
  obtain ⟨bl, hbl⟩ : ∃ n, l.length = n := ⟨_, rfl⟩
  have hlst := fun w v l hb hv hl => list_any w v l vb vq fields hb hv hl hvl
  rw [hn] at hv hvl henc hlst ⊢
  have hll : l.length ≤ 549755813888 := hl
  rw [hbl] at hb hl ⊢
  have HN := Lib.hid hn
  have HBL := Lib.hid hbl
  have HENC := Lib.hid henc
  have t1 := encT_le src hs1
  have t2 := encT_le table hs2
  have t3 := encT_le key hs3
  have i1 := encI_le hI.1
  have i2 := encI_le hI.2.1
  have i3 := encI_le hI.2.2.1
  have i4 := encI_le hI.2.2.2
  have h0 := (((St.start w).putOld (P := (IsVals · (.slice vb n vq) fields)) (Mono.seq rdVal_up _ _) hv).putOld (P := (IsBytes · (.slice bs bl bq) l)) (Mono.bytes _ _) hb).alloc (.cells #[.string src, .int .i64 seq, .int .i64 kind, .int .i64 ref, .string table, .string key, .int .i64 event, .slice vb n vq] 27)
  obtain ⟨g, hg⟩ : ∃ g, w.heap.size = g := ⟨_, rfl⟩
  have h1 := h0
  rw [hg] at h1
  have HG := Lib.hid hg
  clear hn hb hv h0 henc hbl
  go_enter Try.func15, Try.ntmps15
  go_upto_region 1 with fail
  refine wp_region_st [pVal (.slice bs bl bq), pVal ?c1_1, pVal ?c1_2, pVal (.string src), pNew w.heap.size (l ++ Wire.encT src.data.toList), pVal ?c1_5, pVal ?c1_6, pVal (.int .i64 seq), pNew w.heap.size ((l ++ Wire.encT src.data.toList) ++ Wire.encI seq), pNew w.heap.size ((l ++ Wire.encT src.data.toList) ++ Wire.encI seq)] (osC [(g, .cells #[.string src, .int .i64 seq, .int .i64 kind, .int .i64 ref, .string table, .string key, .int .i64 event, .slice vb n vq] 27 (0, 0))]) 35 [0, 0, 2, 6, 15, 0, 32, 96, 255, 511] [[], [], [(1, 6)], [(2, 7)], [(3, 8), (0, 5)], [], [(5, 10)], [(6, 11)], [(7, 12), (4, 9)], [(8, 13)]] [(0, 5), (1, 6), (2, 7), (3, 8), (4, 9), (5, 10), (6, 11), (7, 12), (8, 13), (9, 4)] (by kernel_rfl) (by kernel_rfl) rfl rfl h1 osC0 osC1 ?ob ?en
  case ob =>
    refine ⟨?_, ?_, ?_, ?_, ?_, ?_, ?_, ?_, ?_, ?_, trivial⟩
    · -- 0: t5 := Op.move (t0)
      intro zx1 zx2 zx3 zx4 L V W hL hd hw hst 
      refine ob_c rfl ?_ hst rfl
      go_simp
    · -- 1: t6 := Op.fieldAddr 27 (t3) 0
      intro zx1 zx2 zx3 zx4 L V W hL hd hw hst 
      refine ob_c rfl ?_ hst rfl
      go_simp
      try with_reducible rfl
    · -- 2: t7 := Op.fieldAddr 24 (t6) 0
      intro zx1 zx2 zx3 zx4 L V W hL hd hw hst u1 e1 p1
      obtain rfl : u1 = _ := p1
      refine ob_c rfl ?_ hst rfl
      go_simp
      try with_reducible rfl
    · -- 3: t8 := Op.load 9 (t7)
      intro zx1 zx2 zx3 zx4 L V W hL hd hw hst u2 e2 p2
      obtain rfl : u2 = _ := p2
      have hz := cells8 (hst.find (g := g) (o := .cells #[.string src, .int .i64 seq, .int .i64 kind, .int .i64 ref, .string table, .string key, .int .i64 event, .slice vb n vq] 27 (0, 0)) (by simp [osC]))
      obtain ⟨z0, z1, z2, z3, z4, z5, z6, z7⟩ := hz
      refine ob_c rfl ?_ hst rfl
      go_simp
      try with_reducible rfl
    · -- 4: t9 := Op.call { callee := value (func 38), args := #[t5, t8], argTypes := #[22, 9] }
      intro zx1 zx2 zx3 zx4 L V W hL hd hw hst u0 e0 p0 u3 e3 p3
      obtain rfl : u0 = _ := p0
      obtain rfl : u3 = _ := p3
      refine ob_call rfl ?_ (Calls.pO hst (appendText_any _ _ l src ((hst.base 0 rfl : IsBytes _ _ _).sub (mask_is _ _)) (by omega)))
      go_simp
    · -- 5: t10 := Op.fieldAddr 27 (t3) 0
      intro zx1 zx2 zx3 zx4 L V W hL hd hw hst 
      refine ob_c rfl ?_ hst rfl
      go_simp
      try with_reducible rfl
    · -- 6: t11 := Op.fieldAddr 24 (t10) 1
      intro zx1 zx2 zx3 zx4 L V W hL hd hw hst u5 e5 p5
      obtain rfl : u5 = _ := p5
      refine ob_c rfl ?_ hst rfl
      go_simp
      try with_reducible rfl
    · -- 7: t12 := Op.load 3 (t11)
      intro zx1 zx2 zx3 zx4 L V W hL hd hw hst u6 e6 p6
      obtain rfl : u6 = _ := p6
      have hz := cells8 (hst.find (g := g) (o := .cells #[.string src, .int .i64 seq, .int .i64 kind, .int .i64 ref, .string table, .string key, .int .i64 event, .slice vb n vq] 27 (0, 0)) (by simp [osC]))
      obtain ⟨z0, z1, z2, z3, z4, z5, z6, z7⟩ := hz
      refine ob_c rfl ?_ hst rfl
      go_simp
      try with_reducible rfl
    · -- 8: t13 := Op.call { callee := value (func 37), args := #[t9, t12], argTypes := #[22, 3] }
      intro zx1 zx2 zx3 zx4 L V W hL hd hw hst u4 e4 p4 u7 e7 p7
      have hb4 := p4
      obtain rfl : u7 = _ := p7
      refine ob_call rfl ?_ (Calls.pO hst (appendInt_any _ _ _ seq hI.1.1 hI.1.2 (hb4.1.sub (mask_is _ _)) (by rw [List.length_append]; omega)))
      go_simp
    · -- 9: t4 := Op.assign (t13)
      intro zx1 zx2 zx3 zx4 L V W hL hd hw hst u8 e8 p8
      refine ob_v u8 rfl ?_ hst rfl p8
      go_simp
  case en =>
    intro V W hst u0 e0 p0 u1 e1 p1 u2 e2 p2 u3 e3 p3 u4 e4 p4 u5 e5 p5 u6 e6 p6 u7 e7 p7 u8 e8 p8 u9 e9 p9
    obtain rfl : u0 = _ := p0
    obtain rfl : u1 = _ := p1
    obtain rfl : u2 = _ := p2
    obtain rfl : u3 = _ := p3
    have hb4 := p4
    obtain rfl : u5 = _ := p5
    obtain rfl : u6 = _ := p6
    obtain rfl : u7 = _ := p7
    have hb8 := p8
    have hb9 := p9
    simp only [EndAll, Act.put, List.getElem_toArray, List.getElem_cons_succ, List.getElem_cons_zero, List.setIfInBounds_toArray, List.set_cons_zero, List.set_cons_succ]
    rw [show osC [(g, .cells #[.string src, .int .i64 seq, .int .i64 kind, .int .i64 ref, .string table, .string key, .int .i64 event, .slice vb n vq] 27 (0, 0))] (fun _ => true) V = [(g, .cells #[.string src, .int .i64 seq, .int .i64 kind, .int .i64 ref, .string table, .string key, .int .i64 event, .slice vb n vq] 27 (0, 0))] from rfl] at hst
    clear e0 e1 e2 e3 e4 e5 e6 e7 e8 e9
    have h2 := (hst.facts (fs' := [(IsVals · (.slice vb n vq) fields)]) (fun P hP => by simp only [List.mem_cons, List.not_mem_nil, or_false] at hP ⊢; subst hP; simp)).put (Mono.new w.heap.size _ _) hb9
    clear hst hb4 hb8
    obtain ⟨m1, hm1⟩ : ∃ m, (l ++ Wire.encT src.data.toList) ++ Wire.encI seq = m := ⟨_, rfl⟩
    rw [hm1] at h2
    have hm1l : m1.length ≤ bl + 1048600 := by have hq := HBL.out; rw [← hm1]; simp only [List.length_append]; omega
    have Hm1 := Lib.hid hm1
    clear hm1
    go_upto_region 2 with fail
    refine wp_region_st [pNew w.heap.size (m1), pVal ?c2_1, pVal (.int .i64 kind), pNew w.heap.size (m1 ++ Wire.encI kind), pVal ?c2_4, pVal (.int .i64 ref), pNew w.heap.size ((m1 ++ Wire.encI kind) ++ Wire.encI ref), pNew w.heap.size ((m1 ++ Wire.encI kind) ++ Wire.encI ref)] (osC [(g, .cells #[.string src, .int .i64 seq, .int .i64 kind, .int .i64 ref, .string table, .string key, .int .i64 event, .slice vb n vq] 27 (0, 0))]) 35 [0, 0, 2, 7, 0, 16, 63, 127] [[], [], [(1, 15)], [(2, 16), (0, 14)], [], [(4, 18)], [(5, 19), (3, 17)], [(6, 20)]] [(0, 14), (1, 15), (2, 16), (3, 17), (4, 18), (5, 19), (6, 20), (7, 4)] (by kernel_rfl) (by kernel_rfl) rfl rfl h2 osC0 osC1 ?ob ?en
    case ob =>
      refine ⟨?_, ?_, ?_, ?_, ?_, ?_, ?_, ?_, trivial⟩
      · -- 0: t14 := Op.move (t4)
        intro zx1 zx2 zx3 zx4 L V W hL hd hw hst 
        refine ob_v u9 rfl ?_ hst rfl (hst.base 0 rfl)
        go_simp
      · -- 1: t15 := Op.fieldAddr 27 (t3) 1
        intro zx1 zx2 zx3 zx4 L V W hL hd hw hst 
        refine ob_c rfl ?_ hst rfl
        go_simp
        try with_reducible rfl
      · -- 2: t16 := Op.load 3 (t15)
        intro zx1 zx2 zx3 zx4 L V W hL hd hw hst u1 e1 p1
        obtain rfl : u1 = _ := p1
        have hz := cells8 (hst.find (g := g) (o := .cells #[.string src, .int .i64 seq, .int .i64 kind, .int .i64 ref, .string table, .string key, .int .i64 event, .slice vb n vq] 27 (0, 0)) (by simp [osC]))
        obtain ⟨z0, z1, z2, z3, z4, z5, z6, z7⟩ := hz
        refine ob_c rfl ?_ hst rfl
        go_simp
        try with_reducible rfl
      · -- 3: t17 := Op.call { callee := value (func 37), args := #[t14, t16], argTypes := #[22, 3] }
        intro zx1 zx2 zx3 zx4 L V W hL hd hw hst u0 e0 p0 u2 e2 p2
        have hb0 := p0
        obtain rfl : u2 = _ := p2
        refine ob_call rfl ?_ (Calls.pO hst (appendInt_any _ _ m1 kind hI.2.1.1 hI.2.1.2 (hb0.1.sub (mask_is _ _)) (by omega)))
        go_simp
      · -- 4: t18 := Op.fieldAddr 27 (t3) 2
        intro zx1 zx2 zx3 zx4 L V W hL hd hw hst 
        refine ob_c rfl ?_ hst rfl
        go_simp
        try with_reducible rfl
      · -- 5: t19 := Op.load 3 (t18)
        intro zx1 zx2 zx3 zx4 L V W hL hd hw hst u4 e4 p4
        obtain rfl : u4 = _ := p4
        have hz := cells8 (hst.find (g := g) (o := .cells #[.string src, .int .i64 seq, .int .i64 kind, .int .i64 ref, .string table, .string key, .int .i64 event, .slice vb n vq] 27 (0, 0)) (by simp [osC]))
        obtain ⟨z0, z1, z2, z3, z4, z5, z6, z7⟩ := hz
        refine ob_c rfl ?_ hst rfl
        go_simp
        try with_reducible rfl
      · -- 6: t20 := Op.call { callee := value (func 37), args := #[t17, t19], argTypes := #[22, 3] }
        intro zx1 zx2 zx3 zx4 L V W hL hd hw hst u3 e3 p3 u5 e5 p5
        have hb3 := p3
        obtain rfl : u5 = _ := p5
        refine ob_call rfl ?_ (Calls.pO hst (appendInt_any _ _ _ ref hI.2.2.1.1 hI.2.2.1.2 (hb3.1.sub (mask_is _ _)) (by rw [List.length_append]; omega)))
        go_simp
      · -- 7: t4 := Op.assign (t20)
        intro zx1 zx2 zx3 zx4 L V W hL hd hw hst u6 e6 p6
        refine ob_v u6 rfl ?_ hst rfl p6
        go_simp
    case en =>
      intro V W hst u0 e0 p0 u1 e1 p1 u2 e2 p2 u3 e3 p3 u4 e4 p4 u5 e5 p5 u6 e6 p6 u7 e7 p7
      have hb0 := p0
      obtain rfl : u1 = _ := p1
      obtain rfl : u2 = _ := p2
      have hb3 := p3
      obtain rfl : u4 = _ := p4
      obtain rfl : u5 = _ := p5
      have hb6 := p6
      have hb7 := p7
      simp only [EndAll, Act.put, List.getElem_toArray, List.getElem_cons_succ, List.getElem_cons_zero, List.setIfInBounds_toArray, List.set_cons_zero, List.set_cons_succ]
      rw [show osC [(g, .cells #[.string src, .int .i64 seq, .int .i64 kind, .int .i64 ref, .string table, .string key, .int .i64 event, .slice vb n vq] 27 (0, 0))] (fun _ => true) V = [(g, .cells #[.string src, .int .i64 seq, .int .i64 kind, .int .i64 ref, .string table, .string key, .int .i64 event, .slice vb n vq] 27 (0, 0))] from rfl] at hst
      clear e0 e1 e2 e3 e4 e5 e6 e7
      have h3 := (hst.facts (fs' := [(IsVals · (.slice vb n vq) fields)]) (fun P hP => by simp only [List.mem_cons, List.not_mem_nil, or_false] at hP ⊢; subst hP; simp)).put (Mono.new w.heap.size _ _) hb7
      clear hst hb3 hb6 hb0
      obtain ⟨m2, hm2⟩ : ∃ m, (m1 ++ Wire.encI kind) ++ Wire.encI ref = m := ⟨_, rfl⟩
      rw [hm2] at h3
      have hm2l : m2.length ≤ bl + 1048700 := by have hq := HBL.out; rw [← hm2]; simp only [List.length_append]; omega
      have Hm2 := Lib.hid hm2
      clear hm2
      go_upto_region 3 with fail
      refine wp_region_st [pNew w.heap.size (m2), pVal ?c3_1, pVal (.string table), pNew w.heap.size (m2 ++ Wire.encT table.data.toList), pVal ?c3_4, pVal (.string key), pNew w.heap.size ((m2 ++ Wire.encT table.data.toList) ++ Wire.encT key.data.toList), pNew w.heap.size ((m2 ++ Wire.encT table.data.toList) ++ Wire.encT key.data.toList)] (osC [(g, .cells #[.string src, .int .i64 seq, .int .i64 kind, .int .i64 ref, .string table, .string key, .int .i64 event, .slice vb n vq] 27 (0, 0))]) 35 [0, 0, 2, 7, 0, 16, 63, 127] [[], [], [(1, 22)], [(2, 23), (0, 21)], [], [(4, 25)], [(5, 26), (3, 24)], [(6, 27)]] [(0, 21), (1, 22), (2, 23), (3, 24), (4, 25), (5, 26), (6, 27), (7, 4)] (by kernel_rfl) (by kernel_rfl) rfl rfl h3 osC0 osC1 ?ob ?en
      case ob =>
        refine ⟨?_, ?_, ?_, ?_, ?_, ?_, ?_, ?_, trivial⟩
        · -- 0: t21 := Op.move (t4)
          intro zx1 zx2 zx3 zx4 L V W hL hd hw hst 
          refine ob_v u7 rfl ?_ hst rfl (hst.base 0 rfl)
          go_simp
        · -- 1: t22 := Op.fieldAddr 27 (t3) 3
          intro zx1 zx2 zx3 zx4 L V W hL hd hw hst 
          refine ob_c rfl ?_ hst rfl
          go_simp
          try with_reducible rfl
        · -- 2: t23 := Op.load 9 (t22)
          intro zx1 zx2 zx3 zx4 L V W hL hd hw hst u1 e1 p1
          obtain rfl : u1 = _ := p1
          have hz := cells8 (hst.find (g := g) (o := .cells #[.string src, .int .i64 seq, .int .i64 kind, .int .i64 ref, .string table, .string key, .int .i64 event, .slice vb n vq] 27 (0, 0)) (by simp [osC]))
          obtain ⟨z0, z1, z2, z3, z4, z5, z6, z7⟩ := hz
          refine ob_c rfl ?_ hst rfl
          go_simp
          try with_reducible rfl
        · -- 3: t24 := Op.call { callee := value (func 38), args := #[t21, t23], argTypes := #[22, 9] }
          intro zx1 zx2 zx3 zx4 L V W hL hd hw hst u0 e0 p0 u2 e2 p2
          have hb0 := p0
          obtain rfl : u2 = _ := p2
          refine ob_call rfl ?_ (Calls.pO hst (appendText_any _ _ m2 table (hb0.1.sub (mask_is _ _)) (by omega)))
          go_simp
        · -- 4: t25 := Op.fieldAddr 27 (t3) 4
          intro zx1 zx2 zx3 zx4 L V W hL hd hw hst 
          refine ob_c rfl ?_ hst rfl
          go_simp
          try with_reducible rfl
        · -- 5: t26 := Op.load 9 (t25)
          intro zx1 zx2 zx3 zx4 L V W hL hd hw hst u4 e4 p4
          obtain rfl : u4 = _ := p4
          have hz := cells8 (hst.find (g := g) (o := .cells #[.string src, .int .i64 seq, .int .i64 kind, .int .i64 ref, .string table, .string key, .int .i64 event, .slice vb n vq] 27 (0, 0)) (by simp [osC]))
          obtain ⟨z0, z1, z2, z3, z4, z5, z6, z7⟩ := hz
          refine ob_c rfl ?_ hst rfl
          go_simp
          try with_reducible rfl
        · -- 6: t27 := Op.call { callee := value (func 38), args := #[t24, t26], argTypes := #[22, 9] }
          intro zx1 zx2 zx3 zx4 L V W hL hd hw hst u3 e3 p3 u5 e5 p5
          have hb3 := p3
          obtain rfl : u5 = _ := p5
          refine ob_call rfl ?_ (Calls.pO hst (appendText_any _ _ _ key (hb3.1.sub (mask_is _ _)) (by rw [List.length_append]; omega)))
          go_simp
        · -- 7: t4 := Op.assign (t27)
          intro zx1 zx2 zx3 zx4 L V W hL hd hw hst u6 e6 p6
          refine ob_v u6 rfl ?_ hst rfl p6
          go_simp
      case en =>
        intro V W hst u0 e0 p0 u1 e1 p1 u2 e2 p2 u3 e3 p3 u4 e4 p4 u5 e5 p5 u6 e6 p6 u7 e7 p7
        have hb0 := p0
        obtain rfl : u1 = _ := p1
        obtain rfl : u2 = _ := p2
        have hb3 := p3
        obtain rfl : u4 = _ := p4
        obtain rfl : u5 = _ := p5
        have hb6 := p6
        have hb7 := p7
        simp only [EndAll, Act.put, List.getElem_toArray, List.getElem_cons_succ, List.getElem_cons_zero, List.setIfInBounds_toArray, List.set_cons_zero, List.set_cons_succ]
        rw [show osC [(g, .cells #[.string src, .int .i64 seq, .int .i64 kind, .int .i64 ref, .string table, .string key, .int .i64 event, .slice vb n vq] 27 (0, 0))] (fun _ => true) V = [(g, .cells #[.string src, .int .i64 seq, .int .i64 kind, .int .i64 ref, .string table, .string key, .int .i64 event, .slice vb n vq] 27 (0, 0))] from rfl] at hst
        clear e0 e1 e2 e3 e4 e5 e6 e7
        have h4 := (hst.facts (fs' := [(IsVals · (.slice vb n vq) fields)]) (fun P hP => by simp only [List.mem_cons, List.not_mem_nil, or_false] at hP ⊢; subst hP; simp)).put (Mono.new w.heap.size _ _) hb7
        clear hst hb3 hb6 hb0
        obtain ⟨m3, hm3⟩ : ∃ m, (m2 ++ Wire.encT table.data.toList) ++ Wire.encT key.data.toList = m := ⟨_, rfl⟩
        rw [hm3] at h4
        have hm3l : m3.length ≤ bl + 5242990 := by have hq := HBL.out; rw [← hm3]; simp only [List.length_append]; omega
        have Hm3 := Lib.hid hm3
        clear hm3
        go_upto_region 4 with fail
        refine wp_region_st [pNew w.heap.size (m3), pVal ?c4_1, pVal (.int .i64 event), pNew w.heap.size (m3 ++ Wire.encI event), pVal ?c4_4, pVal (.slice vb n vq), pNew w.heap.size ((m3 ++ Wire.encI event) ++ Wire.encU n ++ encVs fields), pNew w.heap.size ((m3 ++ Wire.encI event) ++ Wire.encU n ++ encVs fields)] (osC [(g, .cells #[.string src, .int .i64 seq, .int .i64 kind, .int .i64 ref, .string table, .string key, .int .i64 event, .slice vb n vq] 27 (0, 0))]) 35 [0, 0, 2, 7, 0, 16, 63, 127] [[], [], [(1, 29)], [(2, 30), (0, 28)], [], [(4, 32)], [(5, 33), (3, 31)], [(6, 34)]] [(0, 28), (1, 29), (2, 30), (3, 31), (4, 32), (5, 33), (6, 34), (7, 4)] (by kernel_rfl) (by kernel_rfl) rfl rfl h4 osC0 osC1 ?ob ?en
        case ob =>
          refine ⟨?_, ?_, ?_, ?_, ?_, ?_, ?_, ?_, trivial⟩
          · -- 0: t28 := Op.move (t4)
            intro zx1 zx2 zx3 zx4 L V W hL hd hw hst 
            refine ob_v u7 rfl ?_ hst rfl (hst.base 0 rfl)
            go_simp
          · -- 1: t29 := Op.fieldAddr 27 (t3) 5
            intro zx1 zx2 zx3 zx4 L V W hL hd hw hst 
            refine ob_c rfl ?_ hst rfl
            go_simp
            try with_reducible rfl
          · -- 2: t30 := Op.load 3 (t29)
            intro zx1 zx2 zx3 zx4 L V W hL hd hw hst u1 e1 p1
            obtain rfl : u1 = _ := p1
            have hz := cells8 (hst.find (g := g) (o := .cells #[.string src, .int .i64 seq, .int .i64 kind, .int .i64 ref, .string table, .string key, .int .i64 event, .slice vb n vq] 27 (0, 0)) (by simp [osC]))
            obtain ⟨z0, z1, z2, z3, z4, z5, z6, z7⟩ := hz
            refine ob_c rfl ?_ hst rfl
            go_simp
            try with_reducible rfl
          · -- 3: t31 := Op.call { callee := value (func 37), args := #[t28, t30], argTypes := #[22, 3] }
            intro zx1 zx2 zx3 zx4 L V W hL hd hw hst u0 e0 p0 u2 e2 p2
            have hb0 := p0
            obtain rfl : u2 = _ := p2
            refine ob_call rfl ?_ (Calls.pO hst (appendInt_any _ _ m3 event hI.2.2.2.1 hI.2.2.2.2 (hb0.1.sub (mask_is _ _)) (by omega)))
            go_simp
          · -- 4: t32 := Op.fieldAddr 27 (t3) 6
            intro zx1 zx2 zx3 zx4 L V W hL hd hw hst 
            refine ob_c rfl ?_ hst rfl
            go_simp
            try with_reducible rfl
          · -- 5: t33 := Op.load 25 (t32)
            intro zx1 zx2 zx3 zx4 L V W hL hd hw hst u4 e4 p4
            obtain rfl : u4 = _ := p4
            have hz := cells8 (hst.find (g := g) (o := .cells #[.string src, .int .i64 seq, .int .i64 kind, .int .i64 ref, .string table, .string key, .int .i64 event, .slice vb n vq] 27 (0, 0)) (by simp [osC]))
            obtain ⟨z0, z1, z2, z3, z4, z5, z6, z7⟩ := hz
            refine ob_c rfl ?_ hst rfl
            go_simp
            try with_reducible rfl
          · -- 6: t34 := Op.call { callee := value (func 39), args := #[t31, t33, func 40], argTypes := #[22, 25, 76] }
            intro zx1 zx2 zx3 zx4 L V W hL hd hw hst u3 e3 p3 u5 e5 p5
            have hb3 := p3
            obtain rfl : u5 = _ := p5
            refine ob_call rfl ?_ (Calls.pO hst (hlst _ _ _ (hb3.1.sub (mask_is _ _)) ((hst.base 1 rfl : IsVals _ _ _).sub rdVal_up (mask_is _ _)) (by rw [List.length_append]; omega)))
            go_simp
          · -- 7: t4 := Op.assign (t34)
            intro zx1 zx2 zx3 zx4 L V W hL hd hw hst u6 e6 p6
            refine ob_v u6 rfl ?_ hst rfl p6
            go_simp
        case en =>
          intro V W hst u0 e0 p0 u1 e1 p1 u2 e2 p2 u3 e3 p3 u4 e4 p4 u5 e5 p5 u6 e6 p6 u7 e7 p7
          have hb0 := p0
          obtain rfl : u1 = _ := p1
          obtain rfl : u2 = _ := p2
          have hb3 := p3
          obtain rfl : u4 = _ := p4
          obtain rfl : u5 = _ := p5
          have hb6 := p6
          have hb7 := p7
          simp only [EndAll, Act.put, List.getElem_toArray, List.getElem_cons_succ, List.getElem_cons_zero, List.setIfInBounds_toArray, List.set_cons_zero, List.set_cons_succ]
          rw [show osC [(g, .cells #[.string src, .int .i64 seq, .int .i64 kind, .int .i64 ref, .string table, .string key, .int .i64 event, .slice vb n vq] 27 (0, 0))] (fun _ => true) V = [(g, .cells #[.string src, .int .i64 seq, .int .i64 kind, .int .i64 ref, .string table, .string key, .int .i64 event, .slice vb n vq] 27 (0, 0))] from rfl] at hst
          clear e0 e1 e2 e3 e4 e5 e6 e7
          have h5 := (hst.facts (fs' := [(IsVals · (.slice vb n vq) fields)]) (fun P hP => by simp only [List.mem_cons, List.not_mem_nil, or_false] at hP ⊢; subst hP; simp)).put (Mono.new w.heap.size _ _) hb7
          clear hst hb3 hb6 hb0
          go_wp2_with fail
          go_ret
          refine ⟨_, rfl, ?_, h5.below⟩
          have hfin := (h5.is 0 rfl : NewB _ _ _ _)
          rw [← Hm3.out, ← Hm2.out, ← Hm1.out] at hfin
          rw [HENC.out]
          simp only [List.append_assoc] at hfin ⊢
          exact hfin
end Go.Proofs.Ytfpkibfofainaaa
