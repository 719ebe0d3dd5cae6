/- The walk of the law DiskValues. -/
import Derived.Test.YtkfikcppnbfmoaaChecked
import Derived.Test.YtkfikcppnbfmoaaKp30
import Derived.Test.YtkfikcppnbfmoaaPl30
set_option linter.unusedVariables false
namespace Go.Proofs.Ytkfikcppnbfmoaa
open Go.RowKit

/-- The first loop: the sectors are copied. -/
def VaInv1 (w0 : World) (n gl g1 gb ga : Nat) (a b : Obj) (bs : Option Addr) (q : Nat) (D : Dk) (c : Value) (wr : World) : Prop :=
  ∃ (k : Nat) (row : Array Value) (ll : List (List UInt8)), k ≤ n ∧ c = .int .i64 k ∧ ll.length = n ∧ (∀ i, i < k → ll[i]? = D.sec[i]?) ∧ St w0 wr [(gl, rowB row), (g1, dkB bs q D), (gb, b), (ga, a)] [HasRows row ll, (IsDk · (dkS bs q D) D)]
def VaInv2 (w0 : World) (n gl g1 : Nat) (row : Array Value) (bs : Option Addr) (q : Nat) (D : Dk) (c : Value) (wr : World) : Prop :=
  ∃ k : Nat, k ≤ n ∧ c = .int .i64 k ∧ St w0 wr [(gl, rowB row), (g1, dkB bs q D)] [HasRows row D.sec, (IsDk · (dkS bs q D) D)]
theorem Mono.cell (a : Addr) (v : Value) : Mono (fun x => x.cell? a = some v) := fun _ _ h p => h _ _ p
theorem dk_write_fresh (n r : Nat) (h1 : 1 ≤ n) (h2 : n ≤ 4096) (hr : r < n) (b : List UInt8) (hb : b.length = 128) : ∃ D, (Dk.made n).write r b = (D, 0) ∧ D.Ok ∧ D.sec.length = n ∧ D.stopped = false ∧ D.left = -1 := by
  have hok := (dk_made_ok n h1 h2).1
  have hl : (Dk.made n).sec.length = n := by simp [Dk.made]
  obtain ⟨e, ok, sl⟩ := dk_write_ok hok r (by omega) b hb
  have e2 := dk_wr_free (d := Dk.made n) rfl rfl r (by omega) (hok.size r (by omega)) b hb
  rw [e2] at e ok sl
  exact ⟨_, e, ok, sl.trans hl, rfl, rfl⟩

set_option maxHeartbeats 16000000 in
set_option maxRecDepth 100000 in
theorem values_walk (w : World) (s0 : Int) (a b : ActL) :
    Calls Try.prog 6 #[.int .i64 s0, .agg a.cells.toArray, .agg b.cells.toArray] w fun e w' => e = .returned (.bool true) ∧ Below w.heap.size w w' := by
  obtain ⟨kd, at_, fl, sz, lf, tr⟩ := a
  obtain ⟨kd2, at2, fl2, sz2, lf2, tr2⟩ := b
  have h0 := ((St.start w).alloc (.cells (acA kd at_ fl sz lf tr) 33 (0, 0))).alloc (.cells (acA kd2 at2 fl2 sz2 lf2 tr2) 33 (0, 0))
  have hn := smallN_le s0
  go_enter Try.func6, Try.ntmps6
  go_upto_region 1 with fail
  rw [show (w.alloc (Obj.cells (acA kd at_ fl sz lf tr) 33)).heap.size = w.heap.size + 1 by simp] at h0
  generalize World.alloc _ _ = W0 at h0 ⊢
  generalize hga : w.heap.size = ga at h0 ⊢
  generalize hgb : ga + 1 = gb at h0 ⊢
  clear hga hgb
  obtain ⟨n, hnn⟩ : ∃ n, smallN s0 = n := ⟨_, rfl⟩
  rw [hnn] at hn
  have HN := Lib.hid hnn
  clear hnn
  obtain ⟨hn1, hn8⟩ := hn
  go_wp2_with fail
  refine (small_s h0 s0).mono ?_
  rintro e w0 ⟨rfl, rfl⟩
  rw [HN.out]
  go_wp2_with fail
  refine (new_s h0 n (Dk.made n) 0 (dk_made_ok n hn1 (by omega)).2).mono ?_
  rintro e w1 ⟨b1, q1, rfl, h1⟩
  go_upto_region 3 with (refine wpList_store_row rfl 25 (.tmp 8) (.tmp 23) rfl w1.heap.size (dkA b1 q1 (Dk.made n)) rfl rfl 25 _ (heap_alloc_new _ _) disk_info rfl (one4 rfl _ _ _) ?_)
  replace h1 := h1.newVar #[.slice none 0 0, .int .i64 0, .int .i64 0, .bool false] (dkA b1 q1 (Dk.made n)) 25
  generalize World.setRow _ _ _ = W1 at h1 ⊢
  generalize w1.heap.size = g1 at h1 ⊢
  obtain ⟨m, hm⟩ : ∃ m, smallN at_ = m := ⟨_, rfl⟩
  obtain ⟨m2, hm2⟩ : ∃ m, smallN at2 = m := ⟨_, rfl⟩
  obtain ⟨m5, hm5⟩ : ∃ m, smallN tr2 = m := ⟨_, rfl⟩
  have hm5b : m5 ≤ 8 := by have := smallN_le tr2; omega
  have HM := Lib.hid hm
  have HM2 := Lib.hid hm2
  have HM5 := Lib.hid hm5
  clear hm hm2 hm5
  obtain ⟨r, hr, hrn⟩ : ∃ r, m % n = r ∧ r < n := ⟨_, rfl, Nat.mod_lt _ (by omega)⟩
  obtain ⟨r2, hr2, hrn2⟩ : ∃ r, m2 % n = r ∧ r < n := ⟨_, rfl, Nat.mod_lt _ (by omega)⟩
  have hrem : (m : Int).tmod (n : Int) = (r : Int) := by rw [← hr]; exact (Int.ofNat_tmod m n).symm
  have hrem2 : (m2 : Int).tmod (n : Int) = (r2 : Int) := by rw [← hr2]; exact (Int.ofNat_tmod m2 n).symm
  clear hr hr2
  have hn0 : ¬ n = 0 := by omega
  obtain ⟨D, hD, hok, hsl, hfs, hlf⟩ := dk_write_fresh n r hn1 (by omega) hrn (fillL fl 128) (fillL_length _ _)
  generalize Dk.made n = D1 at h1 hD ⊢
  have HW := Lib.hid hD
  have HP := Lib.hid (And.intro hsl (And.intro hfs hlf))
  clear hD hsl hfs hlf
  refine wp_region_st [pVal (dkS b1 q1 D1), pVal ?c3_1, pVal ?c3_2, pVal (.int .i64 m), pVal ?c3_4, pVal (.int .i64 r), pVal ?c3_6, pVal ?c3_7, pBytes (fillL fl 128), pDkT D 0, pDkT D 0, pDk D, pVal ?c3_12, pAny, pVal ?c3_14] (osS 13 11 25 g1 (dkB b1 q1 D1) [] [(gb, .cells (acA kd2 at2 fl2 sz2 lf2 tr2) 33 (0, 0)), (ga, .cells (acA kd at_ fl sz lf tr) 33 (0, 0))]) 144 [0, 0, 2, 6, 0, 30, 0, 64, 206, 511, 1023, 2047, 2047, 4095, 16383] [[], [], [(1, 27)], [(2, 28)], [], [(4, 30), (3, 29)], [], [(6, 32)], [(7, 33)], [(8, 34), (5, 31), (0, 26)], [(9, 35)], [(10, 25)], [(10, 25)], [(11, 36)], [(12, 37)]] [(0, 26), (1, 27), (2, 28), (3, 29), (4, 30), (5, 31), (6, 32), (7, 33), (8, 34), (9, 35), (10, 25), (11, 36), (12, 37), (14, 10)] (by kernel_rfl) (by kernel_rfl) rfl rfl h1 osS0 (osS1 (by decide)) ?ob ?en
  case ob =>
    refine ⟨?_, ?_, ?_, ?_, ?_, ?_, ?_, ?_, ?_, ?_, ?_, ?_, ?_, ?_, ?_, trivial⟩
    · -- 0: t26 := Op.load 25 (t8)
      intro zx1 zx2 zx3 zx4 L V W hL hd hw hst 
      exact ob_c rfl (run_load_own rfl rfl (hst.find (g := g1) (o := dkB b1 q1 D1) (by rw [osS_old (hw 13 rfl (by decide))]; simp)) Try.underlying25 rfl disk_info) hst rfl
    · -- 1: t27 := Op.fieldAddr 33 (t4) 1
      intro zx1 zx2 zx3 zx4 L V W hL hd hw hst 
      refine ob_c rfl ?_ hst rfl
      go_simp
      try with_reducible rfl
    · -- 2: t28 := Op.load 3 (t27)
      intro zx1 zx2 zx3 zx4 L V W hL hd hw hst u1 e1 p1
      obtain rfl : u1 = _ := p1
      refine ob_c rfl ?_ hst rfl
      have ac := ac_cells (hst.find (g := ga) (o := .cells (acA kd at_ fl sz lf tr) 33 (0, 0)) (osS_mem (by simp) L V)); have a1 := ac.2.1; have a2 := ac.2.2.1; have a5 := ac.2.2.2.2.2; clear ac
      go_simp
      try with_reducible rfl
    · -- 3: t29 := Op.call { callee := value (func 9), args := #[t28], argTypes := #[3] }
      intro zx1 zx2 zx3 zx4 L V W hL hd hw hst u2 e2 p2
      obtain rfl : u2 = _ := p2
      refine ob_call rfl ?_ (small_p hst _ _ HM.out)
      go_simp
    · -- 4: t30 := Op.move (t7)
      intro zx1 zx2 zx3 zx4 L V W hL hd hw hst 
      refine ob_c rfl ?_ hst rfl
      go_simp
      try with_reducible rfl
    · -- 5: t31 := Op.binOp BinOp.rem 3 (t29) (t30) 3
      intro zx1 zx2 zx3 zx4 L V W hL hd hw hst u3 e3 p3 u4 e4 p4
      obtain rfl : u3 = _ := p3
      obtain rfl : u4 = _ := p4
      refine ob_c rfl ?_ hst rfl
      go_simp
    · -- 6: t32 := Op.fieldAddr 33 (t4) 2
      intro zx1 zx2 zx3 zx4 L V W hL hd hw hst 
      refine ob_c rfl ?_ hst rfl
      go_simp
      try with_reducible rfl
    · -- 7: t33 := Op.load 5 (t32)
      intro zx1 zx2 zx3 zx4 L V W hL hd hw hst u6 e6 p6
      obtain rfl : u6 = _ := p6
      refine ob_c rfl ?_ hst rfl
      have ac := ac_cells (hst.find (g := ga) (o := .cells (acA kd at_ fl sz lf tr) 33 (0, 0)) (osS_mem (by simp) L V)); have a1 := ac.2.1; have a2 := ac.2.2.1; have a5 := ac.2.2.2.2.2; clear ac
      go_simp
      try with_reducible rfl
    · -- 8: t34 := Op.call { callee := value (func 17), args := #[t33, const (int IntKind.i64 128)], argTypes := #[5, 3] }
      intro zx1 zx2 zx3 zx4 L V W hL hd hw hst u7 e7 p7
      obtain rfl : u7 = _ := p7
      refine ob_call rfl ?_ (fill_p hst fl 128 _ rfl)
      go_simp
    · -- 9: t35 := Op.call { callee := value (func 16), args := #[t26, t31, t34], argTypes := #[25, 3, 34] }
      intro zx1 zx2 zx3 zx4 L V W hL hd hw hst u0 e0 p0 u5 e5 p5 u8 e8 p8
      obtain rfl : u0 = _ := p0
      obtain rfl : u5 = _ := p5
      obtain ⟨b8, q8, rfl, hb8⟩ := p8
      refine ob_call rfl ?_ (write_p hst _ D1 r _ (fillL fl 128) D 0 HW.out (hst.base 0 rfl) hb8)
      go_simp
    · -- 10: t25 := Op.move (t35)
      intro zx1 zx2 zx3 zx4 L V W hL hd hw hst u9 e9 p9
      refine ob_v u9 rfl ?_ hst rfl p9
      go_simp
    · -- 11: t36 := Op.extract (t25) 0
      intro zx1 zx2 zx3 zx4 L V W hL hd hw hst u10 e10 p10
      obtain ⟨b10, q10, rfl, hd10⟩ := p10
      refine ob_v (dkS b10 q10 D) rfl ?_ hst (osS_keep (hw 13 rfl (by decide)) (by decide)) ⟨b10, q10, rfl, hd10⟩
      go_simp
    · -- 12: t37 := Op.extract (t25) 1
      intro zx1 zx2 zx3 zx4 L V W hL hd hw hst u10 e10 p10
      obtain ⟨b10, q10, rfl, hd10⟩ := p10
      refine ob_c rfl ?_ hst rfl
      go_simp
      try with_reducible rfl
    · -- 13: tNone := Op.store 25 (t8) (t36)
      intro zx1 zx2 zx3 zx4 L V W hL hd hw hst u11 e11 p11
      obtain ⟨b11, q11, rfl, hd11⟩ := p11
      exact ob_set (k := 11) rfl rfl rfl rfl e11 rfl (by decide) hL rfl disk_info (one4 rfl _ _ _) hst
    · -- 14: t10 := Op.assign (t37)
      intro zx1 zx2 zx3 zx4 L V W hL hd hw hst u12 e12 p12
      obtain rfl : u12 = _ := p12
      refine ob_c rfl ?_ hst rfl
      go_simp
      try with_reducible rfl
  case en =>
    intro V W hst u0 e0 p0 u1 e1 p1 u2 e2 p2 u3 e3 p3 u4 e4 p4 u5 e5 p5 u6 e6 p6 u7 e7 p7 u8 e8 p8 u9 e9 p9 u10 e10 p10 u11 e11 p11 u12 e12 p12 u14 e14 p14
    obtain rfl : u0 = _ := p0
    obtain rfl : u1 = _ := p1
    obtain rfl : u2 = _ := p2
    obtain rfl : u3 = _ := p3
    obtain rfl : u4 = _ := p4
    obtain rfl : u5 = _ := p5
    obtain rfl : u6 = _ := p6
    obtain rfl : u7 = _ := p7
    obtain ⟨b8, q8, rfl, hb8⟩ := p8
    obtain ⟨b9, q9, rfl, hd9⟩ := p9
    obtain ⟨b10, q10, rfl, hd10⟩ := p10
    obtain ⟨b11, q11, rfl, hd11⟩ := p11
    obtain rfl : u12 = _ := p12
    obtain rfl : u14 = _ := p14
    simp only [EndAll, Act.put, List.getElem_toArray, List.getElem_cons_succ, List.getElem_cons_zero, List.setIfInBounds_toArray, List.set_cons_zero, List.set_cons_succ]
    have h4 := hst.put (Mono.dk _ _) hd11
    rw [osS_end e11] at h4
    replace h4 : St w W [(g1, dkB b11 q11 D), (gb, .cells (acA kd2 at2 fl2 sz2 lf2 tr2) 33 (0, 0)), (ga, .cells (acA kd at_ fl sz lf tr) 33 (0, 0))] [(IsDk · (dkS b11 q11 D) D)] := h4.facts (fun P hP => by simp only [List.mem_cons, List.not_mem_nil, or_false] at hP ⊢; rcases hP with rfl; simp)
    clear hst h1 h0 e0 e1 e2 e3 e4 e5 e6 e7 e8 e9 e10 e11 e12 e14
    obtain ⟨c0, -, -, -, -, -⟩ := dkO_cells (h4.at_ 0 rfl)
    have hsl : ((D.sec.length : Int) != (n : Int)) = false := by rw [HP.out.1]; simp
    have hmk := run_make_lists n (by omega)
    go_upto_region 7 with fail
    clear c0 hsl
    have h5 := h4.alloc (rowB (madeCells #[.slice none 0 0] n))
    replace h5 := h5.put (Mono.rows _ _) (HasRows.nils n _)
    generalize World.alloc _ _ = W5 at h5 ⊢
    generalize W.heap.size = gl at h5 ⊢
    clear hmk h4
    go_wp2_with fail
    go_loopw [12] (VaInv1 w n gl g1 gb ga (.cells (acA kd at_ fl sz lf tr) 33 (0, 0)) (.cells (acA kd2 at2 fl2 sz2 lf2 tr2) 33 (0, 0)) b11 q11 D) (fun c _ => n - (intOf c).toNat)
    case atStart => exact ⟨0, _, _, by omega, rfl, by simp, fun i hi => absurd hi (Nat.not_lt_zero _), h5⟩
    case round =>
      clear h5
      obtain ⟨k, row, ll, hk, rfl, hll, hz, hst⟩ := hrel
      have HLL := Lib.hid (And.intro hll hz)
      clear hll hz
      by_cases hlt : k < n
      · have i1 : (k : Int) < (n : Int) := by omega
        have i0 : (0 : Int) ≤ (k : Int) := by omega
        have hkD : k < D.sec.length := by have := HP.out.1; omega
        have i2 : (k : Int) < (D.sec.length : Int) := by omega
        have hbx := hst.box (.cells #[] 5 (0, 0))
        obtain ⟨_, _, e, hxc, hxm, hx⟩ := (hbx.is 1 rfl : IsDk _ _ _).open_
        cases e
        obtain ⟨xb, xo, ub, uc, rfl, hxc1, hxu⟩ := hx k hkD
        clear hx
        obtain ⟨d0, -, -, -, -, -⟩ := dkO_cells (hbx.at_ 1 rfl)
        clear hbx
        have h128 : (D.sec[k]).length = 128 := hok.size k hkD
        obtain ⟨lk, hlk⟩ : ∃ lk, D.sec[k] = lk := ⟨_, rfl⟩
        rw [hlk] at hxc1 hxu h128
        have HLK := Lib.hid hlk
        have HXU := Lib.hid hxu
        have H128 := Lib.hid h128
        have HSZ := Lib.hid (hst.lt gl (by simp))
        clear hlk hxu h128
        have ho0 := OwnBytes.made 5 wr wr.heap.size (Nat.le_refl _)
        have hb0 : Below wr.heap.size wr (wr.alloc (.cells #[] 5)) := (Below.refl _ _).alloc (Nat.le_refl _) _
        have HO := Lib.hid ho0
        clear ho0
        have hrz : row.size = n := (hst.is 0 rfl : HasRows _ _ _).1.trans HLL.out.1
        have HRZ := Lib.hid hrz
        clear hrz
        go_wp2_with (at_builtin; go_loud ((refine wpList_append_bytes rfl (.tmp 60) (.tmp 65) 34 34 rfl wr.heap.size 5 Try.underlying34 byte_info _ [] rfl HO.out _ lk rfl (HXU.out.src Try.underlying34) (by have := H128.out; simp only [List.length_nil]; omega) hb0.size ?_); intro v3 wq ho1 hg1; have hB1 := Below.grown hb0 hg1 hb0.size (fun k hk => (World.ownsRow.lt HO.out k hk).1); have hq := (hst.call hB1).putOwn ho1 hst.lt; (have hc : wq.cell? ⟨gl, k, none⟩ = some (row[k]'(by have := HRZ.out; omega)) := (cell_of_row _ _ _ _ _ _ (hq.at_ 0 rfl)).trans (Array.getElem?_eq_getElem (by have := HRZ.out; omega))); have hf : wq.frozen? ⟨gl, k, none⟩ = false := frozen_of_row _ _ _ _ _ (hq.at_ 0 rfl); obtain ⟨bq, cq, rfl, -⟩ := ho1.is.out))
        rw [List.nil_append] at hq
        have h6 := hq.setCell (os1 := []) (i := k) (v := .slice bq lk.length cq)
        replace h6 := h6.put (Mono.rows _ _) ((h6.get 1 rfl : HasRows _ _ _).set k (h6.get 0 rfl : IsBytes _ _ _))
        replace h6 := h6.facts (fs' := [HasRows (row.setIfInBounds k (.slice bq lk.length cq)) (ll.set k lk), (IsDk · (dkS (some ⟨xb, xo, none⟩) q11 D) D)]) (fun P hP => by simp only [List.mem_cons, List.not_mem_nil, or_false] at hP ⊢; rcases hP with rfl | rfl <;> simp)
        clear hc hf d0 hxc1 hq ho1 hg1 hB1 hb0 hst
        go_roundw
        case rel =>
          refine ⟨k + 1, _, _, by omega, by go_num, by simpa using HLL.out.1, fun i hi => ?_, h6⟩
          by_cases e : k = i
          · subst e; rw [List.getElem?_set_self (by have := HLL.out.1; omega), List.getElem?_eq_getElem hkD, HLK.out]
          · rw [List.getElem?_set_ne e]; exact HLL.out.2 i (by omega)
        case measure => simp [intOf]; omega
      · obtain rfl : k = n := by omega
        have hld : ll = D.sec := by
          apply List.ext_getElem?
          intro i
          by_cases hi : i < k
          · exact HLL.out.2 i hi
          · rw [List.getElem?_eq_none (by have := HLL.out.1; omega), List.getElem?_eq_none (by have := HP.out.1; omega)]
        rw [hld] at hst
        clear hld
        obtain ⟨Y2, x2, hY2⟩ : ∃ Y x, D.write (r2 : Int) (fillL fl2 128) = (Y, x) := ⟨_, _, rfl⟩
        have HW2 := Lib.hid hY2
        clear hY2
        obtain ⟨hF, hokF⟩ := dk_fail_ok hok HP.out.2.1 0 (m5 : Int) (by omega) (by omega) (by omega) (by omega)
        generalize ({ D with left := 0, tear := (m5 : Int) } : Dk) = F at hF hokF
        have HF := Lib.hid hF
        clear hF
        go_upto_region 11 with fail
        refine wp_region_st [pVal (dkS b11 q11 D), pVal ?c11_1, pVal ?c11_2, pVal (.int .i64 m2), pVal ?c11_4, pVal (.int .i64 r2), pVal ?c11_6, pVal ?c11_7, pBytes (fillL fl2 128), pAny] (osC [(gl, rowB row), (g1, dkB b11 q11 D), (gb, .cells (acA kd2 at2 fl2 sz2 lf2 tr2) 33 (0, 0)), (ga, .cells (acA kd at_ fl sz lf tr) 33 (0, 0))]) 144 [0, 0, 2, 6, 0, 30, 0, 64, 206, 511] [[], [], [(1, 69)], [(2, 70)], [], [(4, 72), (3, 71)], [], [(6, 74)], [(7, 75)], [(8, 76), (5, 73), (0, 68)]] [(0, 68), (1, 69), (2, 70), (3, 71), (4, 72), (5, 73), (6, 74), (7, 75), (8, 76), (9, 77)] (by kernel_rfl) (by kernel_rfl) rfl rfl hst osC0 osC1 ?ob ?en
        case ob =>
          refine ⟨?_, ?_, ?_, ?_, ?_, ?_, ?_, ?_, ?_, ?_, trivial⟩
          · -- 0: t68 := Op.load 25 (t8)
            intro zx1 zx2 zx3 zx4 L V W hL hd hw hst 
            exact ob_c rfl (run_load_own rfl rfl (hst.find (g := g1) (o := dkB b11 q11 D) (by simp [osC])) Try.underlying25 rfl disk_info) hst rfl
          · -- 1: t69 := Op.fieldAddr 33 (t5) 1
            intro zx1 zx2 zx3 zx4 L V W hL hd hw hst 
            refine ob_c rfl ?_ hst rfl
            go_simp
            try with_reducible rfl
          · -- 2: t70 := Op.load 3 (t69)
            intro zx1 zx2 zx3 zx4 L V W hL hd hw hst u1 e1 p1
            obtain rfl : u1 = _ := p1
            refine ob_c rfl ?_ hst rfl
            have ac := ac_cells (hst.find (g := gb) (o := .cells (acA kd2 at2 fl2 sz2 lf2 tr2) 33 (0, 0)) (by simp [osC])); have a1 := ac.2.1; have a2 := ac.2.2.1; have a5 := ac.2.2.2.2.2; clear ac
            go_simp
            try with_reducible rfl
          · -- 3: t71 := Op.call { callee := value (func 9), args := #[t70], argTypes := #[3] }
            intro zx1 zx2 zx3 zx4 L V W hL hd hw hst u2 e2 p2
            obtain rfl : u2 = _ := p2
            refine ob_call rfl ?_ (small_p hst _ _ HM2.out)
            go_simp
          · -- 4: t72 := Op.move (t7)
            intro zx1 zx2 zx3 zx4 L V W hL hd hw hst 
            refine ob_c rfl ?_ hst rfl
            go_simp
            try with_reducible rfl
          · -- 5: t73 := Op.binOp BinOp.rem 3 (t71) (t72) 3
            intro zx1 zx2 zx3 zx4 L V W hL hd hw hst u3 e3 p3 u4 e4 p4
            obtain rfl : u3 = _ := p3
            obtain rfl : u4 = _ := p4
            refine ob_c rfl ?_ hst rfl
            go_simp
          · -- 6: t74 := Op.fieldAddr 33 (t5) 2
            intro zx1 zx2 zx3 zx4 L V W hL hd hw hst 
            refine ob_c rfl ?_ hst rfl
            go_simp
            try with_reducible rfl
          · -- 7: t75 := Op.load 5 (t74)
            intro zx1 zx2 zx3 zx4 L V W hL hd hw hst u6 e6 p6
            obtain rfl : u6 = _ := p6
            refine ob_c rfl ?_ hst rfl
            have ac := ac_cells (hst.find (g := gb) (o := .cells (acA kd2 at2 fl2 sz2 lf2 tr2) 33 (0, 0)) (by simp [osC])); have a1 := ac.2.1; have a2 := ac.2.2.1; have a5 := ac.2.2.2.2.2; clear ac
            go_simp
            try with_reducible rfl
          · -- 8: t76 := Op.call { callee := value (func 17), args := #[t75, const (int IntKind.i64 128)], argTypes := #[5, 3] }
            intro zx1 zx2 zx3 zx4 L V W hL hd hw hst u7 e7 p7
            obtain rfl : u7 = _ := p7
            refine ob_call rfl ?_ (fill_p hst fl2 128 _ rfl)
            go_simp
          · -- 9: t77 := Op.call { callee := value (func 16), args := #[t68, t73, t76], argTypes := #[25, 3, 34] }
            intro zx1 zx2 zx3 zx4 L V W hL hd hw hst u0 e0 p0 u5 e5 p5 u8 e8 p8
            obtain rfl : u0 = _ := p0
            obtain rfl : u5 = _ := p5
            obtain ⟨b8, q8, rfl, hb8⟩ := p8
            refine ob_call rfl ?_ ((write_p hst _ D r2 _ (fillL fl2 128) _ _ HW2.out (hst.base 1 rfl) hb8).mono fun e w ⟨v, he, hs⟩ => ⟨v, he, hs.pop.put (pAny.mono v) trivial⟩)
            go_simp
        case en =>
          intro V W hst u0 e0 p0 u1 e1 p1 u2 e2 p2 u3 e3 p3 u4 e4 p4 u5 e5 p5 u6 e6 p6 u7 e7 p7 u8 e8 p8 u9 e9 p9
          obtain rfl : u0 = _ := p0
          obtain rfl : u1 = _ := p1
          obtain rfl : u2 = _ := p2
          obtain rfl : u3 = _ := p3
          obtain rfl : u4 = _ := p4
          obtain rfl : u5 = _ := p5
          obtain rfl : u6 = _ := p6
          obtain rfl : u7 = _ := p7
          obtain ⟨b8, q8, rfl, hb8⟩ := p8
          simp only [EndAll, Act.put, List.getElem_toArray, List.getElem_cons_succ, List.getElem_cons_zero, List.setIfInBounds_toArray, List.set_cons_zero, List.set_cons_succ]
          replace hst : St w W [(gl, rowB row), (g1, dkB b11 q11 D), (gb, .cells (acA kd2 at2 fl2 sz2 lf2 tr2) 33 (0, 0)), (ga, .cells (acA kd at_ fl sz lf tr) 33 (0, 0))] [HasRows row D.sec, (IsDk · (dkS b11 q11 D) D)] := hst
          clear e0 e1 e2 e3 e4 e5 e6 e7 e8 e9
          go_upto_region 12 with fail
          refine wp_region_st [pVal (dkS b11 q11 D), pVal ?c12_1, pVal ?c12_2, pVal (.int .i64 m5), pDkT F 0, pDkT F 0, pDk F, pVal ?c12_7, pPtr, pAny, pVal ?c12_10] (osN 8 9 6 25 (.cells dkZv.cells 25 (0, 0)) [(gl, rowB row), (g1, dkB b11 q11 D), (gb, .cells (acA kd2 at2 fl2 sz2 lf2 tr2) 33 (0, 0)), (ga, .cells (acA kd at_ fl sz lf tr) 33 (0, 0))]) 144 [0, 0, 2, 6, 15, 31, 63, 63, 0, 383, 1023] [[], [], [(1, 80)], [(2, 81)], [(3, 82), (0, 79)], [(4, 83)], [(5, 78)], [(5, 78)], [], [(6, 84), (8, 13)], [(7, 85)]] [(0, 79), (1, 80), (2, 81), (3, 82), (4, 83), (5, 78), (6, 84), (7, 85), (8, 13), (10, 14)] (by kernel_rfl) (by kernel_rfl) rfl rfl hst osN0 (osN1 (by decide) (by decide)) ?ob ?en
          case ob =>
            refine ⟨?_, ?_, ?_, ?_, ?_, ?_, ?_, ?_, ?_, ?_, ?_, trivial⟩
            · -- 0: t79 := Op.load 25 (t8)
              intro zx1 zx2 zx3 zx4 L V W hL hd hw hst 
              exact ob_c rfl (run_load_own rfl rfl (hst.find (g := g1) (o := dkB b11 q11 D) (osN_mem (by simp) L V)) Try.underlying25 rfl disk_info) hst rfl
            · -- 1: t80 := Op.fieldAddr 33 (t5) 5
              intro zx1 zx2 zx3 zx4 L V W hL hd hw hst 
              refine ob_c rfl ?_ hst rfl
              go_simp
              try with_reducible rfl
            · -- 2: t81 := Op.load 3 (t80)
              intro zx1 zx2 zx3 zx4 L V W hL hd hw hst u1 e1 p1
              obtain rfl : u1 = _ := p1
              refine ob_c rfl ?_ hst rfl
              have ac := ac_cells (hst.find (g := gb) (o := .cells (acA kd2 at2 fl2 sz2 lf2 tr2) 33 (0, 0)) (osN_mem (by simp) L V)); have a1 := ac.2.1; have a2 := ac.2.2.1; have a5 := ac.2.2.2.2.2; clear ac
              go_simp
              try with_reducible rfl
            · -- 3: t82 := Op.call { callee := value (func 9), args := #[t81], argTypes := #[3] }
              intro zx1 zx2 zx3 zx4 L V W hL hd hw hst u2 e2 p2
              obtain rfl : u2 = _ := p2
              refine ob_call rfl ?_ (small_p hst _ _ HM5.out)
              go_simp
            · -- 4: t83 := Op.call { callee := value (func 19), args := #[t79, const (int IntKind.i64 0), t82], argTypes := #[25, 3, 3] }
              intro zx1 zx2 zx3 zx4 L V W hL hd hw hst u0 e0 p0 u3 e3 p3
              obtain rfl : u0 = _ := p0
              obtain rfl : u3 = _ := p3
              refine ob_call rfl ?_ (fail_p hst _ D 0 m5 F 0 HF.out (hst.base 1 rfl))
              go_simp
            · -- 5: t78 := Op.move (t83)
              intro zx1 zx2 zx3 zx4 L V W hL hd hw hst u4 e4 p4
              refine ob_v u4 rfl ?_ hst rfl p4
              go_simp
            · -- 6: t84 := Op.extract (t78) 0
              intro zx1 zx2 zx3 zx4 L V W hL hd hw hst u5 e5 p5
              obtain ⟨b5, q5, rfl, hd5⟩ := p5
              refine ob_v (dkS b5 q5 F) rfl ?_ hst (osN_keep (hw 9 rfl (by decide)) (by decide) (by decide)) ⟨b5, q5, rfl, hd5⟩
              go_simp
            · -- 7: t85 := Op.extract (t78) 1
              intro zx1 zx2 zx3 zx4 L V W hL hd hw hst u5 e5 p5
              obtain ⟨b5, q5, rfl, hd5⟩ := p5
              refine ob_c rfl ?_ hst rfl
              go_simp
              try with_reducible rfl
            · -- 8: t13 := Op.alloc 25
              intro zx1 zx2 zx3 zx4 L V W hL hd hw hst 
              exact ob_new _ rfl rfl dk_zero_var rfl (by decide) hL (hw 9 rfl (by decide)) rfl hst
            · -- 9: tNone := Op.store 25 (t13) (t84)
              intro zx1 zx2 zx3 zx4 L V W hL hd hw hst u8 e8 p8 u6 e6 p6
              obtain ⟨gx, rfl⟩ := p8
              obtain ⟨bx, qx, rfl, hd6⟩ := p6
              exact ob_put (ia := 8) (k := 6) (z := dkZv) rfl rfl rfl rfl e8 e6 rfl (by decide) (by decide) (hd 8 rfl) hL rfl disk_info (one4 rfl _ _ _) hst
            · -- 10: t14 := Op.assign (t85)
              intro zx1 zx2 zx3 zx4 L V W hL hd hw hst u7 e7 p7
              obtain rfl : u7 = _ := p7
              refine ob_c rfl ?_ hst rfl
              go_simp
              try with_reducible rfl
          case en =>
            intro V W hst u0 e0 p0 u1 e1 p1 u2 e2 p2 u3 e3 p3 u4 e4 p4 u5 e5 p5 u6 e6 p6 u7 e7 p7 u8 e8 p8 u10 e10 p10
            obtain rfl : u0 = _ := p0
            obtain rfl : u1 = _ := p1
            obtain rfl : u2 = _ := p2
            obtain rfl : u3 = _ := p3
            obtain ⟨b4, q4, rfl, hd4⟩ := p4
            obtain ⟨b5, q5, rfl, hd5⟩ := p5
            obtain ⟨bx, qx, rfl, hd6⟩ := p6
            obtain rfl : u7 = _ := p7
            obtain ⟨gx, rfl⟩ := p8
            obtain rfl : u10 = _ := p10
            simp only [EndAll, Act.put, List.getElem_toArray, List.getElem_cons_succ, List.getElem_cons_zero, List.setIfInBounds_toArray, List.set_cons_zero, List.set_cons_succ]
            have h12 := hst.put (Mono.dk _ _) hd6
            rw [osN_end e8 e6] at h12
            replace h12 : St w W [(gx, dkB bx qx F), (gl, rowB row), (g1, dkB b11 q11 D), (gb, .cells (acA kd2 at2 fl2 sz2 lf2 tr2) 33 (0, 0)), (ga, .cells (acA kd at_ fl sz lf tr) 33 (0, 0))] [(IsDk · (dkS bx qx F) F), HasRows row D.sec, (IsDk · (dkS b11 q11 D) D)] := h12
            clear hst e0 e1 e2 e3 e4 e5 e6 e7 e8 e10
            obtain ⟨Y3, x3, hY3⟩ : ∃ Y x, F.write (r2 : Int) (fillL fl2 128) = (Y, x) := ⟨_, _, rfl⟩
            have HW3 := Lib.hid hY3
            clear hY3
            go_upto_region 15 with fail
            refine wp_region_st [pVal (dkS bx qx F), pVal ?c15_1, pVal ?c15_2, pVal (.int .i64 m2), pVal ?c15_4, pVal (.int .i64 r2), pVal ?c15_6, pVal ?c15_7, pBytes (fillL fl2 128), pAny] (osC [(gx, dkB bx qx F), (gl, rowB row), (g1, dkB b11 q11 D), (gb, .cells (acA kd2 at2 fl2 sz2 lf2 tr2) 33 (0, 0)), (ga, .cells (acA kd at_ fl sz lf tr) 33 (0, 0))]) 144 [0, 0, 2, 6, 0, 30, 0, 64, 206, 511] [[], [], [(1, 89)], [(2, 90)], [], [(4, 92), (3, 91)], [], [(6, 94)], [(7, 95)], [(8, 96), (5, 93), (0, 88)]] [(0, 88), (1, 89), (2, 90), (3, 91), (4, 92), (5, 93), (6, 94), (7, 95), (8, 96), (9, 97)] (by kernel_rfl) (by kernel_rfl) rfl rfl h12 osC0 osC1 ?ob ?en
            case ob =>
              refine ⟨?_, ?_, ?_, ?_, ?_, ?_, ?_, ?_, ?_, ?_, trivial⟩
              · -- 0: t88 := Op.load 25 (t13)
                intro zx1 zx2 zx3 zx4 L V W hL hd hw hst 
                exact ob_c rfl (run_load_own rfl rfl (hst.find (g := gx) (o := dkB bx qx F) (by simp [osC])) Try.underlying25 rfl disk_info) hst rfl
              · -- 1: t89 := Op.fieldAddr 33 (t5) 1
                intro zx1 zx2 zx3 zx4 L V W hL hd hw hst 
                refine ob_c rfl ?_ hst rfl
                go_simp
                try with_reducible rfl
              · -- 2: t90 := Op.load 3 (t89)
                intro zx1 zx2 zx3 zx4 L V W hL hd hw hst u1 e1 p1
                obtain rfl : u1 = _ := p1
                refine ob_c rfl ?_ hst rfl
                have ac := ac_cells (hst.find (g := gb) (o := .cells (acA kd2 at2 fl2 sz2 lf2 tr2) 33 (0, 0)) (by simp [osC])); have a1 := ac.2.1; have a2 := ac.2.2.1; have a5 := ac.2.2.2.2.2; clear ac
                go_simp
                try with_reducible rfl
              · -- 3: t91 := Op.call { callee := value (func 9), args := #[t90], argTypes := #[3] }
                intro zx1 zx2 zx3 zx4 L V W hL hd hw hst u2 e2 p2
                obtain rfl : u2 = _ := p2
                refine ob_call rfl ?_ (small_p hst _ _ HM2.out)
                go_simp
              · -- 4: t92 := Op.move (t7)
                intro zx1 zx2 zx3 zx4 L V W hL hd hw hst 
                refine ob_c rfl ?_ hst rfl
                go_simp
                try with_reducible rfl
              · -- 5: t93 := Op.binOp BinOp.rem 3 (t91) (t92) 3
                intro zx1 zx2 zx3 zx4 L V W hL hd hw hst u3 e3 p3 u4 e4 p4
                obtain rfl : u3 = _ := p3
                obtain rfl : u4 = _ := p4
                refine ob_c rfl ?_ hst rfl
                go_simp
              · -- 6: t94 := Op.fieldAddr 33 (t5) 2
                intro zx1 zx2 zx3 zx4 L V W hL hd hw hst 
                refine ob_c rfl ?_ hst rfl
                go_simp
                try with_reducible rfl
              · -- 7: t95 := Op.load 5 (t94)
                intro zx1 zx2 zx3 zx4 L V W hL hd hw hst u6 e6 p6
                obtain rfl : u6 = _ := p6
                refine ob_c rfl ?_ hst rfl
                have ac := ac_cells (hst.find (g := gb) (o := .cells (acA kd2 at2 fl2 sz2 lf2 tr2) 33 (0, 0)) (by simp [osC])); have a1 := ac.2.1; have a2 := ac.2.2.1; have a5 := ac.2.2.2.2.2; clear ac
                go_simp
                try with_reducible rfl
              · -- 8: t96 := Op.call { callee := value (func 17), args := #[t95, const (int IntKind.i64 128)], argTypes := #[5, 3] }
                intro zx1 zx2 zx3 zx4 L V W hL hd hw hst u7 e7 p7
                obtain rfl : u7 = _ := p7
                refine ob_call rfl ?_ (fill_p hst fl2 128 _ rfl)
                go_simp
              · -- 9: t97 := Op.call { callee := value (func 16), args := #[t88, t93, t96], argTypes := #[25, 3, 34] }
                intro zx1 zx2 zx3 zx4 L V W hL hd hw hst u0 e0 p0 u5 e5 p5 u8 e8 p8
                obtain rfl : u0 = _ := p0
                obtain rfl : u5 = _ := p5
                obtain ⟨b8, q8, rfl, hb8⟩ := p8
                refine ob_call rfl ?_ ((write_p hst _ F r2 _ (fillL fl2 128) _ _ HW3.out (hst.base 0 rfl) hb8).mono fun e w ⟨v, he, hs⟩ => ⟨v, he, hs.pop.put (pAny.mono v) trivial⟩)
                go_simp
            case en =>
              intro V W hst u0 e0 p0 u1 e1 p1 u2 e2 p2 u3 e3 p3 u4 e4 p4 u5 e5 p5 u6 e6 p6 u7 e7 p7 u8 e8 p8 u9 e9 p9
              obtain rfl : u0 = _ := p0
              obtain rfl : u1 = _ := p1
              obtain rfl : u2 = _ := p2
              obtain rfl : u3 = _ := p3
              obtain rfl : u4 = _ := p4
              obtain rfl : u5 = _ := p5
              obtain rfl : u6 = _ := p6
              obtain rfl : u7 = _ := p7
              obtain ⟨b8, q8, rfl, hb8⟩ := p8
              simp only [EndAll, Act.put, List.getElem_toArray, List.getElem_cons_succ, List.getElem_cons_zero, List.setIfInBounds_toArray, List.set_cons_zero, List.set_cons_succ]
              replace hst : St w W [(gx, dkB bx qx F), (gl, rowB row), (g1, dkB b11 q11 D), (gb, .cells (acA kd2 at2 fl2 sz2 lf2 tr2) 33 (0, 0)), (ga, .cells (acA kd at_ fl sz lf tr) 33 (0, 0))] [(IsDk · (dkS bx qx F) F), HasRows row D.sec, (IsDk · (dkS b11 q11 D) D)] := hst
              clear e0 e1 e2 e3 e4 e5 e6 e7 e8 e9
              go_wp2_with (refine wpList_load_row rfl 25 (.tmp 13) rfl gx rfl 25 _ (0, 0) _ (hst.at_ 0 rfl) Try.underlying25 rfl disk_info ?_)
              refine (restart_s hst _ F _ rfl (hst.get 0 rfl)).mono ?_
              rintro e w14 ⟨b14, q14, rfl, h14⟩
              replace h14 := h14.pop
              have hrD : r2 < D.sec.length := by have := HP.out.1; omega
              obtain ⟨lr, hrd, hrl⟩ : ∃ lr, D.read (r2 : Int) = (lr, 0) ∧ lr.length = 128 := ⟨_, dk_read_ok hok HP.out.2.1 r2 hrD, hok.size r2 hrD⟩
              have HRD := Lib.hid hrd
              clear hrd
              go_upto_region 17 with fail
              refine wp_region_st [pVal (dkS b11 q11 D), pVal ?c17_1, pVal ?c17_2, pVal (.int .i64 m2), pVal ?c17_4, pVal (.int .i64 r2), pBytesT lr 0, pBytesT lr 0, pBytes lr, pVal ?c17_9, pBytes lr, pVal ?c17_11] (osC [(gx, dkB bx qx F), (gl, rowB row), (g1, dkB b11 q11 D), (gb, .cells (acA kd2 at2 fl2 sz2 lf2 tr2) 33 (0, 0)), (ga, .cells (acA kd at_ fl sz lf tr) 33 (0, 0))]) 144 [0, 0, 2, 6, 0, 30, 63, 127, 255, 255, 511, 2047] [[], [], [(1, 102)], [(2, 103)], [], [(4, 105), (3, 104)], [(5, 106), (0, 101)], [(6, 107)], [(7, 100)], [(7, 100)], [(8, 108)], [(9, 109)]] [(0, 101), (1, 102), (2, 103), (3, 104), (4, 105), (5, 106), (6, 107), (7, 100), (8, 108), (9, 109), (10, 15), (11, 16)] (by kernel_rfl) (by kernel_rfl) rfl rfl h14 osC0 osC1 ?ob ?en
              case ob =>
                refine ⟨?_, ?_, ?_, ?_, ?_, ?_, ?_, ?_, ?_, ?_, ?_, ?_, trivial⟩
                · -- 0: t101 := Op.load 25 (t8)
                  intro zx1 zx2 zx3 zx4 L V W hL hd hw hst 
                  exact ob_c rfl (run_load_own rfl rfl (hst.find (g := g1) (o := dkB b11 q11 D) (by simp [osC])) Try.underlying25 rfl disk_info) hst rfl
                · -- 1: t102 := Op.fieldAddr 33 (t5) 1
                  intro zx1 zx2 zx3 zx4 L V W hL hd hw hst 
                  refine ob_c rfl ?_ hst rfl
                  go_simp
                  try with_reducible rfl
                · -- 2: t103 := Op.load 3 (t102)
                  intro zx1 zx2 zx3 zx4 L V W hL hd hw hst u1 e1 p1
                  obtain rfl : u1 = _ := p1
                  refine ob_c rfl ?_ hst rfl
                  have ac := ac_cells (hst.find (g := gb) (o := .cells (acA kd2 at2 fl2 sz2 lf2 tr2) 33 (0, 0)) (by simp [osC])); have a1 := ac.2.1; have a2 := ac.2.2.1; have a5 := ac.2.2.2.2.2; clear ac
                  go_simp
                  try with_reducible rfl
                · -- 3: t104 := Op.call { callee := value (func 9), args := #[t103], argTypes := #[3] }
                  intro zx1 zx2 zx3 zx4 L V W hL hd hw hst u2 e2 p2
                  obtain rfl : u2 = _ := p2
                  refine ob_call rfl ?_ (small_p hst _ _ HM2.out)
                  go_simp
                · -- 4: t105 := Op.move (t7)
                  intro zx1 zx2 zx3 zx4 L V W hL hd hw hst 
                  refine ob_c rfl ?_ hst rfl
                  go_simp
                  try with_reducible rfl
                · -- 5: t106 := Op.binOp BinOp.rem 3 (t104) (t105) 3
                  intro zx1 zx2 zx3 zx4 L V W hL hd hw hst u3 e3 p3 u4 e4 p4
                  obtain rfl : u3 = _ := p3
                  obtain rfl : u4 = _ := p4
                  refine ob_c rfl ?_ hst rfl
                  go_simp
                · -- 6: t107 := Op.call { callee := value (func 13), args := #[t101, t106], argTypes := #[25, 3] }
                  intro zx1 zx2 zx3 zx4 L V W hL hd hw hst u0 e0 p0 u5 e5 p5
                  obtain rfl : u0 = _ := p0
                  obtain rfl : u5 = _ := p5
                  refine ob_call rfl ?_ (read_p hst _ D r2 lr 0 HRD.out (hst.base 2 rfl))
                  go_simp
                · -- 7: t100 := Op.move (t107)
                  intro zx1 zx2 zx3 zx4 L V W hL hd hw hst u6 e6 p6
                  refine ob_v u6 rfl ?_ hst rfl p6
                  go_simp
                · -- 8: t108 := Op.extract (t100) 0
                  intro zx1 zx2 zx3 zx4 L V W hL hd hw hst u7 e7 p7
                  obtain ⟨b7, q7, rfl, hb7⟩ := p7
                  refine ob_v (.slice b7 lr.length q7) rfl ?_ hst rfl ⟨b7, q7, rfl, hb7⟩
                  go_simp
                · -- 9: t109 := Op.extract (t100) 1
                  intro zx1 zx2 zx3 zx4 L V W hL hd hw hst u7 e7 p7
                  obtain ⟨b7, q7, rfl, hb7⟩ := p7
                  refine ob_c rfl ?_ hst rfl
                  go_simp
                  try with_reducible rfl
                · -- 10: t15 := Op.assign (t108)
                  intro zx1 zx2 zx3 zx4 L V W hL hd hw hst u8 e8 p8
                  refine ob_v u8 rfl ?_ hst rfl p8
                  go_simp
                · -- 11: t16 := Op.assign (t109)
                  intro zx1 zx2 zx3 zx4 L V W hL hd hw hst u9 e9 p9
                  obtain rfl : u9 = _ := p9
                  refine ob_c rfl ?_ hst rfl
                  go_simp
                  try with_reducible rfl
              case en =>
                intro V W hst u0 e0 p0 u1 e1 p1 u2 e2 p2 u3 e3 p3 u4 e4 p4 u5 e5 p5 u6 e6 p6 u7 e7 p7 u8 e8 p8 u9 e9 p9 u10 e10 p10 u11 e11 p11
                obtain rfl : u0 = _ := p0
                obtain rfl : u1 = _ := p1
                obtain rfl : u2 = _ := p2
                obtain rfl : u3 = _ := p3
                obtain rfl : u4 = _ := p4
                obtain rfl : u5 = _ := p5
                obtain ⟨b6, q6, rfl, hb6⟩ := p6
                obtain ⟨b7, q7, rfl, hb7⟩ := p7
                obtain ⟨b8, q8, rfl, hb8⟩ := p8
                obtain rfl : u9 = _ := p9
                obtain ⟨b10, q10, rfl, hb10⟩ := p10
                obtain rfl : u11 = _ := p11
                simp only [EndAll, Act.put, List.getElem_toArray, List.getElem_cons_succ, List.getElem_cons_zero, List.setIfInBounds_toArray, List.set_cons_zero, List.set_cons_succ]
                replace hst : St w W [(gl, rowB row), (g1, dkB b11 q11 D)] [HasRows row D.sec, (IsDk · (dkS b11 q11 D) D)] := (((hst.loose (os1 := [])).loose (os1 := [(gl, rowB row), (g1, dkB b11 q11 D)])).loose (os1 := [(gl, rowB row), (g1, dkB b11 q11 D)])).facts (fun P hP => by simp only [List.mem_cons, List.not_mem_nil, or_false] at hP ⊢; rcases hP with rfl | rfl <;> simp)
                clear e0 e1 e2 e3 e4 e5 e6 e7 e8 e9 e10 e11 h14
                have hl128 : ((lr.length : Int) != 128) = false := by rw [hrl]; rfl
                go_wp2_with fail
                go_loopw [17] (VaInv2 w k gl g1 row b11 q11 D) (fun c _ => k - (intOf c).toNat)
                case atStart => exact ⟨0, by omega, rfl, hst⟩
                case round =>
                  clear hst
                  obtain ⟨i, hi, rfl, hst⟩ := hrel
                  by_cases hlt : i < k
                  · have i1 : (i : Int) < (k : Int) := by omega
                    have i0 : (0 : Int) ≤ (i : Int) := by omega
                    have hkD : i < D.sec.length := by have := HP.out.1; omega
                    have i2 : (i : Int) < (D.sec.length : Int) := by omega
                    obtain ⟨_, _, e, hxc, hxm, hx⟩ := (hst.get 1 rfl : IsDk _ _ _).open_
                    cases e
                    obtain ⟨xb, xo, ub, uc, rfl, hxc1, hxu⟩ := hx i hkD
                    clear hx
                    obtain ⟨hrs, hrc⟩ := (hst.is 0 rfl : HasRows _ _ _)
                    obtain ⟨br, qr, hr1, -⟩ := hrc i hkD
                    clear hrs hrc
                    obtain ⟨lk, hlk⟩ : ∃ lk, D.sec[i] = lk := ⟨_, rfl⟩
                    rw [hlk] at hxc1 hxu hr1
                    have HC2 : Hid (∀ W : World, W.heap[gl]? = some (rowB row) → W.cell? ⟨gl, i, none⟩ = some (.slice br lk.length qr)) := Lib.hid fun W h => by rw [cell_of_row _ _ _ _ _ _ h]; exact hr1
                    have HU2 : Hid (∀ W : World, HasRows row D.sec W → IsBytes W (.slice br lk.length qr) lk) := Lib.hid fun W h => by
                      obtain ⟨b', q', e1, e2⟩ := h.2 i hkD
                      rw [hlk] at e1 e2
                      rw [hr1] at e1
                      cases e1
                      exact e2
                    have h23 := (hst.put (Mono.cell _ _) hxc1).put (Mono.bytes _ _) hxu
                    clear hr1 hlk hxc1 hxu
                    go_upto_region 23 with fail
                    refine wp_region_st [pVal ?c23_0, pVal ?c23_1, pVal ?c23_2, pVal ?c23_3, pVal ?c23_4, pVal ?c23_5, pVal ?c23_6, pVal ?c23_7, pVal ?c23_8, pVal (.bool true), pVal ?c23_10] (osC [(gl, rowB row), (g1, dkB (some ⟨xb, xo, none⟩) q11 D)]) 144 [0, 1, 0, 7, 15, 0, 0, 96, 224, 511, 1023] [[], [(0, 122)], [], [(2, 124), (1, 123)], [(3, 125)], [], [], [(6, 128), (5, 127)], [(7, 129)], [(8, 130), (4, 126)], [(9, 131)]] [(0, 122), (1, 123), (2, 124), (3, 125), (4, 126), (5, 127), (6, 128), (7, 129), (8, 130), (9, 131), (10, 132)] (by kernel_rfl) (by kernel_rfl) rfl rfl h23 osC0 osC1 ?ob ?en
                    case ob =>
                      refine ⟨?_, ?_, ?_, ?_, ?_, ?_, ?_, ?_, ?_, ?_, ?_, trivial⟩
                      · -- 0: t122 := Op.fieldAddr 25 (t8) 0
                        intro zx1 zx2 zx3 zx4 L V W hL hd hw hst 
                        refine ob_c rfl ?_ hst rfl
                        go_simp
                        try with_reducible rfl
                      · -- 1: t123 := Op.load 23 (t122)
                        intro zx1 zx2 zx3 zx4 L V W hL hd hw hst u0 e0 p0
                        obtain rfl : u0 = _ := p0
                        refine ob_c rfl ?_ hst rfl
                        have d0 := (dkO_cells (hst.find (g := g1) (o := dkB (some ⟨xb, xo, none⟩) q11 D) (by simp [osC]))).1; have d1 := mask_is _ _ _ _ (hst.base 1 rfl); have d2 := HC2.out _ (hst.find (g := gl) (o := rowB row) (by simp [osC]))
                        go_simp
                        try with_reducible rfl
                      · -- 2: t124 := Op.move (t17)
                        intro zx1 zx2 zx3 zx4 L V W hL hd hw hst 
                        refine ob_c rfl ?_ hst rfl
                        go_simp
                        try with_reducible rfl
                      · -- 3: t125 := Op.indexAddr 23 (t123) (t124)
                        intro zx1 zx2 zx3 zx4 L V W hL hd hw hst u1 e1 p1 u2 e2 p2
                        obtain rfl : u1 = _ := p1
                        obtain rfl : u2 = _ := p2
                        refine ob_c rfl ?_ hst rfl
                        go_simp
                        try with_reducible rfl
                      · -- 4: t126 := Op.load 34 (t125)
                        intro zx1 zx2 zx3 zx4 L V W hL hd hw hst u3 e3 p3
                        obtain rfl : u3 = _ := p3
                        refine ob_c rfl ?_ hst rfl
                        have d0 := (dkO_cells (hst.find (g := g1) (o := dkB (some ⟨xb, xo, none⟩) q11 D) (by simp [osC]))).1; have d1 := mask_is _ _ _ _ (hst.base 1 rfl); have d2 := HC2.out _ (hst.find (g := gl) (o := rowB row) (by simp [osC]))
                        go_simp
                        try with_reducible rfl
                      · -- 5: t127 := Op.move (t11)
                        intro zx1 zx2 zx3 zx4 L V W hL hd hw hst 
                        refine ob_c rfl ?_ hst rfl
                        go_simp
                        try with_reducible rfl
                      · -- 6: t128 := Op.move (t17)
                        intro zx1 zx2 zx3 zx4 L V W hL hd hw hst 
                        refine ob_c rfl ?_ hst rfl
                        go_simp
                        try with_reducible rfl
                      · -- 7: t129 := Op.indexAddr 23 (t127) (t128)
                        intro zx1 zx2 zx3 zx4 L V W hL hd hw hst u5 e5 p5 u6 e6 p6
                        obtain rfl : u5 = _ := p5
                        obtain rfl : u6 = _ := p6
                        refine ob_c rfl ?_ hst rfl
                        go_simp
                        try with_reducible rfl
                      · -- 8: t130 := Op.load 34 (t129)
                        intro zx1 zx2 zx3 zx4 L V W hL hd hw hst u7 e7 p7
                        obtain rfl : u7 = _ := p7
                        refine ob_c rfl ?_ hst rfl
                        have d0 := (dkO_cells (hst.find (g := g1) (o := dkB (some ⟨xb, xo, none⟩) q11 D) (by simp [osC]))).1; have d1 := mask_is _ _ _ _ (hst.base 1 rfl); have d2 := HC2.out _ (hst.find (g := gl) (o := rowB row) (by simp [osC]))
                        go_simp
                        try with_reducible rfl
                      · -- 9: t131 := Op.call { callee := value (func 15), args := #[t126, t130], argTypes := #[34, 34] }
                        intro zx1 zx2 zx3 zx4 L V W hL hd hw hst u4 e4 p4 u8 e8 p8
                        obtain rfl : u4 = _ := p4
                        obtain rfl : u8 = _ := p8
                        refine ob_call rfl ?_ (same_p hst _ _ lk (hst.base 0 rfl) (HU2.out _ (hst.base 2 rfl)))
                        go_simp
                      · -- 10: t132 := Op.unOp UnOp.not 4 (t131)
                        intro zx1 zx2 zx3 zx4 L V W hL hd hw hst u9 e9 p9
                        obtain rfl : u9 = _ := p9
                        refine ob_c rfl ?_ hst rfl
                        go_simp
                        try with_reducible rfl
                    case en =>
                      intro V W hst u0 e0 p0 u1 e1 p1 u2 e2 p2 u3 e3 p3 u4 e4 p4 u5 e5 p5 u6 e6 p6 u7 e7 p7 u8 e8 p8 u9 e9 p9 u10 e10 p10
                      obtain rfl : u0 = _ := p0
                      obtain rfl : u1 = _ := p1
                      obtain rfl : u2 = _ := p2
                      obtain rfl : u3 = _ := p3
                      obtain rfl : u4 = _ := p4
                      obtain rfl : u5 = _ := p5
                      obtain rfl : u6 = _ := p6
                      obtain rfl : u7 = _ := p7
                      obtain rfl : u8 = _ := p8
                      obtain rfl : u9 = _ := p9
                      obtain rfl : u10 = _ := p10
                      simp only [EndAll, Act.put, List.getElem_toArray, List.getElem_cons_succ, List.getElem_cons_zero, List.setIfInBounds_toArray, List.set_cons_zero, List.set_cons_succ]
                      replace hst : St w W [(gl, rowB row), (g1, dkB (some ⟨xb, xo, none⟩) q11 D)] [HasRows row D.sec, (IsDk · (dkS (some ⟨xb, xo, none⟩) q11 D) D)] := hst.pop.pop
                      clear e0 e1 e2 e3 e4 e5 e6 e7 e8 e9 e10
                      go_wp2
                      go_roundw
                      case rel => exact ⟨i + 1, by omega, by go_num, hst⟩
                      case measure => simp [intOf]; omega
                  · obtain rfl : i = k := by omega
                    obtain ⟨c0, c1, c2, c3, -, -⟩ := dkO_cells (hst.at_ 1 rfl)
                    rw [HP.out.2.2] at c1
                    rw [HP.out.2.1] at c3
                    go_wp2_with fail
                    refine (example_any _).mono ?_
                    rintro e w6 ⟨rfl, hb⟩
                    go_wp2
                    go_ret
                    exact ⟨rfl, hst.below.trans (hb.mono hst.size)⟩
end Go.Proofs.Ytkfikcppnbfmoaa
