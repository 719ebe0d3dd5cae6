/- The walk over WalAppends. -/
import Derived.Test.YtnfgapdpnihicaaZLg31
set_option linter.unusedVariables false
set_option linter.unusedSimpArgs false
namespace Go.Proofs.Ytnfgapdpnihicaa
open Go Go.RowKit

/-- A region and the disk that it was formatted on. -/
structure Apd (O X : Dk) (p k : Nat) (W : List (List UInt8)) (E : Nat) : Prop where
  live : X.Live p k W E
  len : X.sec.length = O.sec.length
  far : ∀ j, j < p ∨ p + k ≤ j → X.sec[j]? = O.sec[j]?
theorem restart_live {d : Dk} (h : d.restart.Ok) : d.restart.stopped = false ∧ d.restart.left = -1 := by
  cases hv : d.valid with
  | true =>
    obtain ⟨e, -⟩ := dk_restart_ok (dk_head hv)
    rw [e]
    exact ⟨rfl, rfl⟩
  | false =>
    have : d.restart = Dk.zero := by unfold Dk.restart; rw [hv]; rfl
    rw [this] at h
    exact absurd h.one (by decide)
theorem format_live {O : Dk} {p k : Nat} (ho : O.Ok) (hs : O.stopped = false) (hl : O.left = -1) (h1 : 1 ≤ k) (h2 : p + k ≤ O.sec.length) : ∃ X, O.format p k = (X, 0) ∧ Apd O X p k [] p := by
  have hf : O.fits p k = true := by
    unfold Dk.fits
    rw [(Dk.valid_iff O).2 ho, Bool.true_and, decide_eq_true_eq]
    omega
  have hw := dk_wr_free hs hl p (by omega) (ho.size p (by omega)) zeroSec zeroSec_len
  have hok := dk_ok_wr ho p (by omega) zeroSec zeroSec_len
  rw [hw] at hok
  refine ⟨{ O with sec := O.sec.set p zeroSec }, ?_, ⟨⟨⟨hok, h1, by rw [List.length_set]; exact h2, scanL_stop ?_ _⟩, hs, hl⟩, by rw [List.length_set], fun j hj => ?_⟩⟩
  · unfold Dk.format
    rw [hf, if_neg (by decide), (dk_write_ok ho p (by omega) zeroSec zeroSec_len).1, hw]
  · rintro ⟨-, h⟩
    unfold Wl.marked at h
    rw [show (O.sec.set p zeroSec).getD p [] = zeroSec by rw [List.getD_eq_getElem?_getD, List.getElem?_set_self (by omega)]; rfl] at h
    revert h
    decide
  · rw [List.getElem?_set_ne (by omega)]
theorem apd_app {O X Y : Dk} {c : Int} {p k E : Nat} {W rs : List (List UInt8)} (h : Apd O X p k W E) (hne : rs ≠ []) (hn : rs.length ≤ 1048576) (hr : ∀ r ∈ rs, r.length ≤ 1048576) (hw : X.app p k rs = (Y, c)) :
    (c = 0 ∧ Wl.long rs = false ∧ E + sizeL rs ≤ p + k ∧ Apd O Y p k (W ++ rs) (E + sizeL rs)) ∨ (c = 2 ∧ Wl.long rs = true) ∨ (c = 310 ∧ Wl.long rs = false ∧ p + k < E + sizeL rs) := by
  have he : endL E rs = E + sizeL rs := by unfold endL; rw [if_neg hne]
  have := live_app h.live hn hr hw
  rw [he] at this
  rcases this with ⟨a1, a2, a3, a4, a5, a6⟩ | a | ⟨a1, a2, a3, a4⟩
  · exact .inl ⟨a1, a2, a3, a4, a5.trans h.len, fun j hj => (a6 j hj).trans (h.far j hj)⟩
  · exact .inr (.inl a)
  · exact .inr (.inr ⟨a1, a2, a4⟩)
theorem long_step {R : List (List UInt8)} {i : Nat} (h : i < R.length) : Wl.long (R.take (i + 1)) = (Wl.long (R.take i) || decide (8192 < (R[i]).length)) := by
  unfold Wl.long
  rw [← List.take_append_getElem h, List.any_append, List.any_cons, List.any_nil, Bool.or_false]

set_option maxRecDepth 8000 in
set_option maxHeartbeats 16000000 in
theorem appends_walk (w : World) (v : Value) (d : Dk) (hv : IsDk w v d) (hsd : ∀ s ∈ d.sec, s.length ≤ 140737488351232) (f : Int) (hf : -9223372036854775808 ≤ f ∧ f ≤ 9223372036854775807) (m : Int) (hm : -9223372036854775808 ≤ m ∧ m ≤ 9223372036854775807) (la : List (List (List UInt8))) (ab : Option Addr) (aq : Nat) (ha : IsBats w (.slice ab la.length aq) la) (hsa : ∀ a ∈ la, ∀ r ∈ a, r.length ≤ 140737488351232) :
    Calls Try.prog 5 #[v, .int .i64 f, .int .i64 m, .slice ab la.length aq] w fun e w' => e = .returned (.bool true) ∧ Below w.heap.size w w' := by
  obtain ⟨A, hA⟩ : ∃ N, la.length = N := ⟨_, rfl⟩
  have hqa : A ≤ 9223372036854775807 := by
    obtain ⟨_, _, e, k1, k2, -⟩ := IsSeq.shape ha
    unfold maxLen at k2
    omega
  rw [hA] at ha ⊢
  obtain ⟨bd, qd, rfl⟩ := hv.shape
  have HAL := Lib.hid hA
  have HSA := Lib.hid hsa
  have HSD := Lib.hid hsd
  have h0 := (((St.start w).putOld (P := (IsBats · (.slice ab A aq) la)) (Mono.seq rdLs_up _ _) ha).putOld (Mono.dk _ _) hv).boxC (dkA bd qd d) 24
  clear ha hsa hA hsd
  have hv0 := hv
  clear hv
  go_enter Try.func5, Try.ntmps5
  go_wp2_with fail
  refine (Calls.sV h0 (example_any _)).mono ?_
  rintro e w1 ⟨rfl, h1⟩
  clear h0 hv0
  obtain ⟨O, hO⟩ : ∃ D, d.restart = D := ⟨_, rfl⟩
  have XO := Lib.hid hO
  clear hO
  go_wp2_with (refine wpList_load_mid rfl 24 (.tmp 4) rfl w.heap.size 0 rfl [.slice bd d.sec.length qd, .int .i64 d.left, .int .i64 d.tear, .bool d.stopped] _ (h1.is 0 rfl : IsCells _ _ _).range Try.underlying24 rfl rfl ?_)
  refine (refRestart_s h1 (d := d) XO.out (h1.get 1 rfl)).mono ?_
  rintro e w2 ⟨b10, q10, rfl, h2⟩
  clear h1
  go_upto_region 3 with (refine wpList_store_row rfl 24 (.tmp 10) (.tmp 28) rfl w2.heap.size (dkA b10 q10 O) rfl rfl 24 _ (heap_alloc_new _ _) disk_info rfl (one4 rfl _ _ _) ?_)
  have h3 := (h2.newVar #[.slice none 0 0, .int .i64 0, .int .i64 0, .bool false] (dkA b10 q10 O) 24).shut
  clear h2
  generalize World.setRow _ _ _ = W3 at h3 ⊢
  generalize w2.heap.size = g10 at h3 ⊢
  obtain ⟨r, hr⟩ : ∃ r, smallB d [] = r := ⟨_, rfl⟩
  go_wp2_with (refine wpList_load_mid rfl 24 (.tmp 4) rfl w.heap.size 0 rfl [.slice bd d.sec.length qd, .int .i64 d.left, .int .i64 d.tear, .bool d.stopped] _ (h3.is 2 rfl : IsCells _ _ _).range Try.underlying24 rfl rfl ?_)
  refine (small_s h3 hr (h3.is 3 rfl) (lists_nil _)).mono ?_
  rintro e w4 ⟨rfl, h4⟩
  clear h3
  cases r with
  | false =>
    clear hr
    go_wp2_with fail
    go_ret
    exact ⟨rfl, h4.below⟩
  | true =>
    clear hr
    obtain ⟨c0, c1, c2, c3⟩ := (h4.is 0 rfl : IsCells _ _ _).c4
    go_wp2_with fail
    refine (Calls.sV h4 (refFits_any _ _ O (h4.is 1 rfl) f m hf hm)).mono ?_
    rintro e w5 ⟨rfl, h5⟩
    clear h4 c0 c1 c2 c3
    obtain ⟨ft, hft⟩ : ∃ b, O.fits f m = b := ⟨_, rfl⟩
    rw [hft]
    cases ft with
    | false =>
      clear hft
      go_wp2_with fail
      go_ret
      exact ⟨rfl, h5.below⟩
    | true =>
      obtain ⟨hok, p, k, rfl, rfl, hk1, hpk⟩ := Dk.fits_iff hft
      have hok2 := hok
      rw [← XO.out] at hok2
      obtain ⟨hs1, hs2⟩ := restart_live hok2
      rw [XO.out] at hs1 hs2
      obtain ⟨X0, hX0, hA0⟩ := format_live hok hs1 hs2 hk1 hpk
      have XF := Lib.hid hX0
      have XA := Lib.hid hA0
      have hmany := hok.many
      clear hok hok2 hs1 hs2 hft hX0 hA0
      by_cases hA20 : 20 < A
      · have i1 : (20 : Int) < (A : Int) := by omega
        go_wp2_with fail
        go_ret
        exact ⟨rfl, h5.below⟩
      have i1 : ¬ (20 : Int) < (A : Int) := by omega
      go_wp2_with (refine wpList_load_mid rfl 24 (.tmp 10) rfl g10 0 rfl [.slice b10 O.sec.length q10, .int .i64 O.left, .int .i64 O.tear, .bool O.stopped] _ (h5.is 0 rfl : IsCells _ _ _).range Try.underlying24 rfl rfl ?_)
      refine (fmt_s h5 (d := O) XF.out (by omega) (by omega) (h5.get 1 rfl)).mono ?_
      rintro e w6 ⟨b6, q6, rfl, h6⟩
      clear h5
      go_upto_region 6 with (refine wpList_store_row rfl 24 (.tmp 11) (.tmp 50) rfl w6.heap.size (dkA b6 q6 X0) rfl rfl 24 _ (heap_alloc_new _ _) disk_info rfl (one4 rfl _ _ _) ?_)
      have h7 := h6.newVar #[.slice none 0 0, .int .i64 0, .int .i64 0, .bool false] (dkA b6 q6 X0) 24
      clear h6
      generalize World.setRow _ _ _ = W7 at h7 ⊢
      generalize w6.heap.size = gxx at h7 ⊢
      have h8 := (h7.put (P := (IsLists · (.slice none 0 0) [])) (Mono.lists _ _) (lists_nil _)).facts (fs' := [(IsDk · (dkS b6 q6 X0) X0), (IsLists · (.slice none 0 0) []), IsCells g10 (dkA b10 q10 O), (IsDk · (dkS b10 q10 O) O), IsCells w.heap.size (dkA bd qd d), (IsDk · (dkS bd qd d) d), (IsBats · (.slice ab A aq) la)]) (fun P hP => by simp only [List.mem_cons, List.not_mem_nil, or_false] at hP ⊢; rcases hP with rfl | rfl | rfl | rfl | rfl | rfl | rfl <;> simp)
      clear h7
      go_wp2_with fail
      go_loopw [13, 14, 15] (fun wv rv iv wr => ∃ (j : Nat) (X : Dk) (b : Option Addr) (q : Nat) (WW : List (List UInt8)) (wb : Option Addr) (NW wq E Rm : Nat), j ≤ A ∧ iv = .int .i64 j ∧ wv = .slice wb NW wq ∧ rv = .int .i64 Rm ∧ Hid (WW.length = NW ∧ NW ≤ 200 * j ∧ E + Rm = p + k) ∧ Hid (Apd O X p k WW E) ∧ St w wr [(gxx, dkB b q X)] [(IsDk · (dkS b q X) X), (IsLists · (.slice wb NW wq) WW), IsCells g10 (dkA b10 q10 O), (IsDk · (dkS b10 q10 O) O), IsCells w.heap.size (dkA bd qd d), (IsDk · (dkS bd qd d) d), (IsBats · (.slice ab A aq) la)]) (fun _ _ iv _ => A - (intOf iv).toNat)
      case atStart => exact ⟨0, X0, b6, q6, [], none, 0, 0, p, k, by omega, rfl, rfl, rfl, Lib.hid ⟨rfl, by omega, rfl⟩, XA, h8⟩
      case round =>
        clear h8
        obtain ⟨j, X, b, q, WW, wb, NW, wq, E, Rm, hj, rfl, rfl, rfl, HW, HX, hst⟩ := hrel
        by_cases hlt : j < A
        · have hlti : (j : Int) < (A : Int) := by omega
          have hkl : j < la.length := by rw [HAL.out]; exact hlt
          obtain ⟨gA, oA, uA, rfl, xA, yA⟩ := bats_at (hst.get 6 rfl) j hkl
          obtain ⟨ub, uq, rfl⟩ := yA.shape
          obtain ⟨R, hR⟩ : ∃ R, la[j] = R := ⟨_, rfl⟩
          rw [hR] at xA yA
          have hSR := HSA.out _ (List.getElem_mem hkl)
          rw [hR] at hSR
          have HSR := Lib.hid hSR
          obtain ⟨NR, hNR⟩ : ∃ n, R.length = n := ⟨_, rfl⟩
          rw [hNR] at xA yA
          obtain ⟨r, hr⟩ : ∃ r, smallB d R = r := ⟨_, rfl⟩
          have HR := Lib.hid hr
          have HNR := Lib.hid hNR
          have h1 := (hst.put (P := fun x => x.cell? ⟨gA, oA + j, none⟩ = some (.slice ub NR uq)) (Mono.cell _ _) xA).put (P := (IsLists · (.slice ub NR uq) R)) (Mono.lists _ _) yA
          clear xA yA hr hR hNR hst hSR
          go_upto_region 11 with fail
          go_cut [77] from 63 to 76 (fun c wx => ∃ s : Bool, c = .bool s ∧ Hid (s = false → r = true ∧ NR ≠ 0) ∧ St w wx [(gxx, dkB b q X)] [(IsLists · (.slice ub NR uq) R), (fun x => x.cell? ⟨gA, oA + j, none⟩ = some (.slice ub NR uq)), (IsDk · (dkS b q X) X), (IsLists · (.slice wb NW wq) WW), IsCells g10 (dkA b10 q10 O), (IsDk · (dkS b10 q10 O) O), IsCells w.heap.size (dkA bd qd d), (IsDk · (dkS bd qd d) d), (IsBats · (.slice (some ⟨gA, oA, none⟩) A aq) la)])
          case first =>
            cases r with
            | true =>
              refine wp_region_st [pVal (dkS bd qd d), pVal ?c11t_1, pVal ?c11t_2, pVal (.pointer (some ⟨gA, oA + j, none⟩)), pVal (.slice ub NR uq), pVal (.bool true), pVal (.bool false), pVal (.bool false), pVal ?c11t_8, pVal ?c11t_9, pVal (.pointer (some ⟨gA, oA + j, none⟩)), pVal (.slice ub NR uq), pVal (.int .i64 (NR : Int)), pVal (.bool ((NR : Int) == 0)), pVal (.bool ((NR : Int) == 0))] (osC [(gxx, dkB b q X)]) 232 [0, 0, 0, 6, 14, 31, 63, 127, 255, 255, 1023, 2047, 4095, 8191, 16383] [[], [], [], [(2, 65), (1, 64)], [(3, 66)], [(4, 67), (0, 63)], [(5, 68)], [(6, 69)], [(7, 70)], [(7, 70)], [(7, 70), (9, 72), (8, 71)], [(7, 70), (10, 73)], [(7, 70), (11, 74)], [(7, 70), (12, 75)], [(13, 76), (7, 70)]] [(0, 63), (1, 64), (2, 65), (3, 66), (4, 67), (5, 68), (6, 69), (7, 70), (8, 71), (9, 72), (10, 73), (11, 74), (12, 75), (13, 76), (14, 77)] (by kernel_rfl) (by kernel_rfl) rfl rfl h1 osC0 osC1 ?ob ?en
              case ob =>
                refine ⟨?_, ?_, ?_, ?_, ?_, ?_, ?_, ?_, ?_, ?_, ?_, ?_, ?_, ?_, ?_, trivial⟩
                · -- 0: t63 := Op.load 24 (t4)
                  intro zx1 zx2 zx3 zx4 L V W hL hd hw hst 
                  exact ob_c (by first | rfl | (simp [wantE, dstOf, zx1]; done)) (run_load_mid rfl rfl ((hst.base 6 rfl : IsCells _ _ _) |> Mono.cells _ _ _ _ (mask_is _ _) |>.range) Try.underlying24 rfl rfl) hst rfl
                · -- 1: t64 := Op.move (t3)
                  intro zx1 zx2 zx3 zx4 L V W hL hd hw hst 
                  refine ob_c rfl ?_ hst rfl
                  go_simp
                  try with_reducible rfl
                · -- 2: t65 := Op.move (t15)
                  intro zx1 zx2 zx3 zx4 L V W hL hd hw hst 
                  refine ob_c rfl ?_ hst rfl
                  go_simp
                  try with_reducible rfl
                · -- 3: t66 := Op.indexAddr 40 (t64) (t65)
                  intro zx1 zx2 zx3 zx4 L V W hL hd hw hst u1 e1 p1 u2 e2 p2
                  obtain rfl : u1 = _ := p1
                  obtain rfl : u2 = _ := p2
                  refine ob_c (by first | rfl | (simp [wantE, dstOf, zx1]; done)) ?_ hst rfl
                  go_simp
                  all_goals (skip)
                · -- 4: t67 := Op.load 22 (t66)
                  intro zx1 zx2 zx3 zx4 L V W hL hd hw hst u3 e3 p3
                  obtain rfl : u3 = _ := p3
                  have hz := mask_is _ _ _ _ (hst.base 1 rfl : World.cell? _ _ = some _)
                  refine ob_c (by first | rfl | (simp [wantE, dstOf, zx1]; done)) ?_ hst rfl
                  go_simp
                  try with_reducible rfl
                · -- 5: t68 := Op.call { callee := value (func 13), args := #[t63, t67], argTypes := #[24, 22] }
                  intro zx1 zx2 zx3 zx4 L V W hL hd hw hst u0 e0 p0 u4 e4 p4
                  obtain rfl : u0 = _ := p0
                  obtain rfl : u4 = _ := p4
                  refine ob_call (by first | rfl | (simp [wantE, dstOf, zx1]; done)) ?_ (small_p hst HR.out ((hst.base 7 rfl : IsDk _ _ _).sub (mask_is _ _)) ((hst.base 0 rfl : IsLists _ _ _).sub (mask_is _ _)))
                  go_simp
                  try rfl
                · -- 6: t69 := Op.unOp UnOp.not 4 (t68)
                  intro zx1 zx2 zx3 zx4 L V W hL hd hw hst u5 e5 p5
                  obtain rfl : u5 = _ := p5
                  refine ob_c (by first | rfl | (simp [wantE, dstOf, zx1]; done)) ?_ hst rfl
                  go_simp
                  all_goals (skip)
                · -- 7: t70 := Op.move (t69)
                  intro zx1 zx2 zx3 zx4 L V W hL hd hw hst u6 e6 p6
                  obtain rfl : u6 = _ := p6
                  refine ob_c (by first | rfl | (simp [wantE, dstOf, zx1]; done)) ?_ hst rfl
                  go_simp
                  all_goals (skip)
                · -- 8: t71 := Op.move (t3)
                  intro zx1 zx2 zx3 zx4 L V W hL hd hw hst u7 e7 p7
                  obtain rfl : u7 = _ := p7
                  refine ob_c (by first | rfl | (simp [wantE, dstOf, zx1]; done)) ?_ hst rfl
                  go_simp
                  try with_reducible rfl
                · -- 9: t72 := Op.move (t15)
                  intro zx1 zx2 zx3 zx4 L V W hL hd hw hst u7 e7 p7
                  obtain rfl : u7 = _ := p7
                  refine ob_c (by first | rfl | (simp [wantE, dstOf, zx1]; done)) ?_ hst rfl
                  go_simp
                  try with_reducible rfl
                · -- 10: t73 := Op.indexAddr 40 (t71) (t72)
                  intro zx1 zx2 zx3 zx4 L V W hL hd hw hst u8 e8 p8 u9 e9 p9 u7 e7 p7
                  obtain rfl : u8 = _ := p8
                  obtain rfl : u9 = _ := p9
                  obtain rfl : u7 = _ := p7
                  refine ob_c (by first | rfl | (simp [wantE, dstOf, zx1]; done)) ?_ hst rfl
                  go_simp
                  all_goals (skip)
                · -- 11: t74 := Op.load 22 (t73)
                  intro zx1 zx2 zx3 zx4 L V W hL hd hw hst u10 e10 p10 u7 e7 p7
                  obtain rfl : u10 = _ := p10
                  obtain rfl : u7 = _ := p7
                  have hz := mask_is _ _ _ _ (hst.base 1 rfl : World.cell? _ _ = some _)
                  refine ob_c (by first | rfl | (simp [wantE, dstOf, zx1]; done)) ?_ hst rfl
                  go_simp
                  try with_reducible rfl
                · -- 12: t75 := Op.call { callee := builtin Builtin.len, args := #[t74], argTypes := #[22] }
                  intro zx1 zx2 zx3 zx4 L V W hL hd hw hst u11 e11 p11 u7 e7 p7
                  obtain rfl : u11 = _ := p11
                  obtain rfl : u7 = _ := p7
                  refine ob_c (by first | rfl | (simp [wantE, dstOf, zx1]; done)) ?_ hst rfl
                  go_simp
                  all_goals (skip)
                · -- 13: t76 := Op.binOp BinOp.eql 3 (t75) (const (int IntKind.i64 0)) 3
                  intro zx1 zx2 zx3 zx4 L V W hL hd hw hst u12 e12 p12 u7 e7 p7
                  obtain rfl : u12 = _ := p12
                  obtain rfl : u7 = _ := p7
                  refine ob_c (by first | rfl | (simp [wantE, dstOf, zx1]; done)) ?_ hst rfl
                  go_simp
                  all_goals (skip)
                · -- 14: t77 := Op.pick (t70) (const (bool true)) (t76)
                  intro zx1 zx2 zx3 zx4 L V W hL hd hw hst u7 e7 p7 u13 e13 p13
                  obtain rfl : u7 = _ := p7
                  obtain rfl : u13 = _ := p13
                  refine ob_c (by first | rfl | (simp [wantE, dstOf, zx1]; done)) ?_ hst rfl
                  go_simp
                  all_goals (skip)
              case en =>
                intro V W hst u0 e0 p0 u1 e1 p1 u2 e2 p2 u3 e3 p3 u4 e4 p4 u5 e5 p5 u6 e6 p6 u7 e7 p7 u8 e8 p8 u9 e9 p9 u10 e10 p10 u11 e11 p11 u12 e12 p12 u13 e13 p13 u14 e14 p14
                obtain rfl : u0 = _ := p0
                obtain rfl : u1 = _ := p1
                obtain rfl : u2 = _ := p2
                obtain rfl : u3 = _ := p3
                obtain rfl : u4 = _ := p4
                obtain rfl : u5 = _ := p5
                obtain rfl : u6 = _ := p6
                obtain rfl : u7 = _ := p7
                obtain rfl : u8 = _ := p8
                obtain rfl : u9 = _ := p9
                obtain rfl : u10 = _ := p10
                obtain rfl : u11 = _ := p11
                obtain rfl : u12 = _ := p12
                obtain rfl : u13 = _ := p13
                obtain rfl : u14 = _ := p14
                simp only [EndAll, Act.put, List.getElem_toArray, List.getElem_cons_succ, List.getElem_cons_zero, List.setIfInBounds_toArray, List.set_cons_zero, List.set_cons_succ]
                go_wp2_with fail
                go_meet
                case rel => exact ⟨_, rfl, Lib.hid (fun e => ⟨by first | rfl | trivial, by have := bne_iff_ne.1 (show ((NR : Int) != 0) = true by rw [bne, e]; rfl); omega⟩), hst⟩
            | false =>
              refine wp_region_st [pVal (dkS bd qd d), pVal ?c11f_1, pVal ?c11f_2, pVal (.pointer (some ⟨gA, oA + j, none⟩)), pVal (.slice ub NR uq), pVal (.bool false), pVal (.bool true), pVal (.bool true), pVal ?c11f_8, pVal ?c11f_9, pVal ?c11f_10, pVal ?c11f_11, pVal ?c11f_12, pVal ?c11f_13, pVal (.bool true)] (osC [(gxx, dkB b q X)]) 232 [0, 0, 0, 6, 14, 31, 63, 127, 255, 255, 1023, 2047, 4095, 8191, 16383] [[], [], [], [(2, 65), (1, 64)], [(3, 66)], [(4, 67), (0, 63)], [(5, 68)], [(6, 69)], [(7, 70)], [(7, 70)], [(7, 70), (9, 72), (8, 71)], [(7, 70), (10, 73)], [(7, 70), (11, 74)], [(7, 70), (12, 75)], [(13, 76), (7, 70)]] [(0, 63), (1, 64), (2, 65), (3, 66), (4, 67), (5, 68), (6, 69), (7, 70), (8, 71), (9, 72), (10, 73), (11, 74), (12, 75), (13, 76), (14, 77)] (by kernel_rfl) (by kernel_rfl) rfl rfl h1 osC0 osC1 ?ob ?en
              case ob =>
                refine ⟨?_, ?_, ?_, ?_, ?_, ?_, ?_, ?_, ?_, ?_, ?_, ?_, ?_, ?_, ?_, trivial⟩
                · -- 0: t63 := Op.load 24 (t4)
                  intro zx1 zx2 zx3 zx4 L V W hL hd hw hst 
                  exact ob_c (by first | rfl | (simp [wantE, dstOf, zx1]; done)) (run_load_mid rfl rfl ((hst.base 6 rfl : IsCells _ _ _) |> Mono.cells _ _ _ _ (mask_is _ _) |>.range) Try.underlying24 rfl rfl) hst rfl
                · -- 1: t64 := Op.move (t3)
                  intro zx1 zx2 zx3 zx4 L V W hL hd hw hst 
                  refine ob_c rfl ?_ hst rfl
                  go_simp
                  try with_reducible rfl
                · -- 2: t65 := Op.move (t15)
                  intro zx1 zx2 zx3 zx4 L V W hL hd hw hst 
                  refine ob_c rfl ?_ hst rfl
                  go_simp
                  try with_reducible rfl
                · -- 3: t66 := Op.indexAddr 40 (t64) (t65)
                  intro zx1 zx2 zx3 zx4 L V W hL hd hw hst u1 e1 p1 u2 e2 p2
                  obtain rfl : u1 = _ := p1
                  obtain rfl : u2 = _ := p2
                  refine ob_c (by first | rfl | (simp [wantE, dstOf, zx1]; done)) ?_ hst rfl
                  go_simp
                  all_goals (skip)
                · -- 4: t67 := Op.load 22 (t66)
                  intro zx1 zx2 zx3 zx4 L V W hL hd hw hst u3 e3 p3
                  obtain rfl : u3 = _ := p3
                  have hz := mask_is _ _ _ _ (hst.base 1 rfl : World.cell? _ _ = some _)
                  refine ob_c (by first | rfl | (simp [wantE, dstOf, zx1]; done)) ?_ hst rfl
                  go_simp
                  try with_reducible rfl
                · -- 5: t68 := Op.call { callee := value (func 13), args := #[t63, t67], argTypes := #[24, 22] }
                  intro zx1 zx2 zx3 zx4 L V W hL hd hw hst u0 e0 p0 u4 e4 p4
                  obtain rfl : u0 = _ := p0
                  obtain rfl : u4 = _ := p4
                  refine ob_call (by first | rfl | (simp [wantE, dstOf, zx1]; done)) ?_ (small_p hst HR.out ((hst.base 7 rfl : IsDk _ _ _).sub (mask_is _ _)) ((hst.base 0 rfl : IsLists _ _ _).sub (mask_is _ _)))
                  go_simp
                  try rfl
                · -- 6: t69 := Op.unOp UnOp.not 4 (t68)
                  intro zx1 zx2 zx3 zx4 L V W hL hd hw hst u5 e5 p5
                  obtain rfl : u5 = _ := p5
                  refine ob_c (by first | rfl | (simp [wantE, dstOf, zx1]; done)) ?_ hst rfl
                  go_simp
                  all_goals (skip)
                · -- 7: t70 := Op.move (t69)
                  intro zx1 zx2 zx3 zx4 L V W hL hd hw hst u6 e6 p6
                  obtain rfl : u6 = _ := p6
                  refine ob_c (by first | rfl | (simp [wantE, dstOf, zx1]; done)) ?_ hst rfl
                  go_simp
                  all_goals (skip)
                · -- 8: t71 := Op.move (t3)
                  intro zx1 zx2 zx3 zx4 L V W hL hd hw hst u7 e7 p7
                  obtain rfl : u7 = _ := p7
                  refine ob_o ?_ hst ?_
                  · first | rfl | (simp [wantE, dstOf, zx1]; done)
                  · rfl
                · -- 9: t72 := Op.move (t15)
                  intro zx1 zx2 zx3 zx4 L V W hL hd hw hst u7 e7 p7
                  obtain rfl : u7 = _ := p7
                  refine ob_o ?_ hst ?_
                  · first | rfl | (simp [wantE, dstOf, zx1]; done)
                  · rfl
                · -- 10: t73 := Op.indexAddr 40 (t71) (t72)
                  intro zx1 zx2 zx3 zx4 L V W hL hd hw hst u8 e8 p8 u9 e9 p9 u7 e7 p7
                  obtain rfl : u8 = _ := p8
                  obtain rfl : u9 = _ := p9
                  obtain rfl : u7 = _ := p7
                  refine ob_o ?_ hst ?_
                  · first | rfl | (simp [wantE, dstOf, zx1]; done)
                  · rfl
                · -- 11: t74 := Op.load 22 (t73)
                  intro zx1 zx2 zx3 zx4 L V W hL hd hw hst u10 e10 p10 u7 e7 p7
                  obtain rfl : u10 = _ := p10
                  obtain rfl : u7 = _ := p7
                  refine ob_o ?_ hst ?_
                  · first | rfl | (simp [wantE, dstOf, zx1]; done)
                  · rfl
                · -- 12: t75 := Op.call { callee := builtin Builtin.len, args := #[t74], argTypes := #[22] }
                  intro zx1 zx2 zx3 zx4 L V W hL hd hw hst u11 e11 p11 u7 e7 p7
                  obtain rfl : u11 = _ := p11
                  obtain rfl : u7 = _ := p7
                  refine ob_o ?_ hst ?_
                  · first | rfl | (simp [wantE, dstOf, zx1]; done)
                  · rfl
                · -- 13: t76 := Op.binOp BinOp.eql 3 (t75) (const (int IntKind.i64 0)) 3
                  intro zx1 zx2 zx3 zx4 L V W hL hd hw hst u12 e12 p12 u7 e7 p7
                  obtain rfl : u12 = _ := p12
                  obtain rfl : u7 = _ := p7
                  refine ob_o ?_ hst ?_
                  · first | rfl | (simp [wantE, dstOf, zx1]; done)
                  · rfl
                · -- 14: t77 := Op.pick (t70) (const (bool true)) (t76)
                  intro zx1 zx2 zx3 zx4 L V W hL hd hw hst u7 e7 p7 u13 e13 p13
                  obtain rfl : u7 = _ := p7
                  obtain rfl : u13 = _ := p13
                  refine ob_c (by first | rfl | (simp [wantE, dstOf, zx1]; done)) ?_ hst rfl
                  go_simp
                  all_goals (skip)
              case en =>
                intro V W hst u0 e0 p0 u1 e1 p1 u2 e2 p2 u3 e3 p3 u4 e4 p4 u5 e5 p5 u6 e6 p6 u7 e7 p7 u8 e8 p8 u9 e9 p9 u10 e10 p10 u11 e11 p11 u12 e12 p12 u13 e13 p13 u14 e14 p14
                obtain rfl : u0 = _ := p0
                obtain rfl : u1 = _ := p1
                obtain rfl : u2 = _ := p2
                obtain rfl : u3 = _ := p3
                obtain rfl : u4 = _ := p4
                obtain rfl : u5 = _ := p5
                obtain rfl : u6 = _ := p6
                obtain rfl : u7 = _ := p7
                obtain rfl : u8 = _ := p8
                obtain rfl : u9 = _ := p9
                obtain rfl : u10 = _ := p10
                obtain rfl : u11 = _ := p11
                obtain rfl : u12 = _ := p12
                obtain rfl : u13 = _ := p13
                obtain rfl : u14 = _ := p14
                simp only [EndAll, Act.put, List.getElem_toArray, List.getElem_cons_succ, List.getElem_cons_zero, List.setIfInBounds_toArray, List.set_cons_zero, List.set_cons_succ]
                go_wp2_with fail
                go_meet
                case rel => exact ⟨true, rfl, Lib.hid (fun e => by cases e), hst⟩
          case rest =>
          clear h1
          obtain ⟨s, rfl, HS, h1⟩ := hcut
          cases s with
          | true =>
            have hb := h1.below
            clear h1
            go_wp2_with fail
            go_ret
            exact ⟨rfl, hb⟩
          | false =>
            obtain ⟨hrt, hNR0⟩ := HS.out rfl
            clear HS
            obtain ⟨-, hn200, -, hall⟩ := smallB_use (HR.out.trans hrt) (fun s h => Nat.le_trans (HSD.out s h) (by omega)) (fun r h => Nat.le_trans (HSR.out r h) (by omega))
            rw [HNR.out] at hn200
            have HA2 := Lib.hid (fun r h => Nat.le_trans (hall r h) (show 40000 ≤ 1048576 by omega))
            clear hall hrt
            obtain ⟨⟨Y, c⟩, hY⟩ : ∃ r, X.app p k R = r := ⟨_, rfl⟩
            have hlaw := apd_app HX.out (fun h => hNR0 (by rw [← HNR.out, h]; rfl)) (by rw [HNR.out]; omega) HA2.out hY
            obtain ⟨n, hn⟩ : ∃ n, sizeL R = n := ⟨_, rfl⟩
            obtain ⟨lg, hlg⟩ : ∃ b, Wl.long R = b := ⟨_, rfl⟩
            rw [hn, hlg] at hlaw
            have HY := Lib.hid hY
            have HN := Lib.hid hn
            have HLG := Lib.hid hlg
            have HLAW := Lib.hid hlaw
            clear hY hn hlg hlaw
            go_upto_region 13 with fail
            refine wp_region_st [pVal (dkS b q X), pVal ?c13_1, pVal ?c13_2, pVal ?c13_3, pVal ?c13_4, pVal (.pointer (some ⟨gA, oA + j, none⟩)), pVal (.slice ub NR uq), pDkT Y c, pDkT Y c, pDk Y, pVal (.int .i64 c), pPtr, pAny, pVal ?c13_13] (osN 11 12 9 24 (.cells #[.slice none 0 0, .int .i64 0, .int .i64 0, .bool false] 24 (0, 0)) [(gxx, dkB b q X)]) 232 [0, 0, 0, 0, 0, 24, 56, 127, 255, 511, 511, 0, 3071, 8191] [[], [], [], [], [], [(4, 84), (3, 83)], [(5, 85)], [(6, 86), (2, 82), (1, 81), (0, 80)], [(7, 87)], [(8, 79)], [(8, 79)], [], [(9, 88), (11, 16)], [(10, 89)]] [(0, 80), (1, 81), (2, 82), (3, 83), (4, 84), (5, 85), (6, 86), (7, 87), (8, 79), (9, 88), (10, 89), (11, 16), (13, 17)] (by kernel_rfl) (by kernel_rfl) rfl rfl h1 osN0 (osN1 (by decide) (by decide)) ?ob ?en
            case ob =>
              refine ⟨?_, ?_, ?_, ?_, ?_, ?_, ?_, ?_, ?_, ?_, ?_, ?_, ?_, ?_, trivial⟩
              · -- 0: t80 := Op.load 24 (t11)
                intro zx1 zx2 zx3 zx4 L V W hL hd hw hst 
                refine ob_c (by first | rfl | (simp [wantE, dstOf, zx1]; done)) ?_ hst rfl
                have hg := hst.find (g := gxx) (o := dkB b q X) (osN_mem (by simp) _ _)
                exact run_load_own rfl rfl hg Try.underlying24 rfl disk_info
              · -- 1: t81 := Op.move (t1)
                intro zx1 zx2 zx3 zx4 L V W hL hd hw hst 
                refine ob_c rfl ?_ hst rfl
                go_simp
                try with_reducible rfl
              · -- 2: t82 := Op.move (t2)
                intro zx1 zx2 zx3 zx4 L V W hL hd hw hst 
                refine ob_c rfl ?_ hst rfl
                go_simp
                try with_reducible rfl
              · -- 3: t83 := Op.move (t3)
                intro zx1 zx2 zx3 zx4 L V W hL hd hw hst 
                refine ob_c rfl ?_ hst rfl
                go_simp
                try with_reducible rfl
              · -- 4: t84 := Op.move (t15)
                intro zx1 zx2 zx3 zx4 L V W hL hd hw hst 
                refine ob_c rfl ?_ hst rfl
                go_simp
                try with_reducible rfl
              · -- 5: t85 := Op.indexAddr 40 (t83) (t84)
                intro zx1 zx2 zx3 zx4 L V W hL hd hw hst u3 e3 p3 u4 e4 p4
                obtain rfl : u3 = _ := p3
                obtain rfl : u4 = _ := p4
                refine ob_c (by first | rfl | (simp [wantE, dstOf, zx1]; done)) ?_ hst rfl
                go_simp
                all_goals (skip)
              · -- 6: t86 := Op.load 22 (t85)
                intro zx1 zx2 zx3 zx4 L V W hL hd hw hst u5 e5 p5
                obtain rfl : u5 = _ := p5
                have hz := mask_is _ _ _ _ (hst.base 1 rfl : World.cell? _ _ = some _)
                refine ob_c (by first | rfl | (simp [wantE, dstOf, zx1]; done)) ?_ hst rfl
                go_simp
                try with_reducible rfl
              · -- 7: t87 := Op.call { callee := value (func 21), args := #[t80, t81, t82, t86], argTypes := #[24, 3, 3, 22] }
                intro zx1 zx2 zx3 zx4 L V W hL hd hw hst u0 e0 p0 u1 e1 p1 u2 e2 p2 u6 e6 p6
                obtain rfl : u0 = _ := p0
                obtain rfl : u1 = _ := p1
                obtain rfl : u2 = _ := p2
                obtain rfl : u6 = _ := p6
                refine ob_call (by first | rfl | (simp [wantE, dstOf, zx1]; done)) ?_ (app_p hst (d := X) (f := p) (m := k) HY.out (by omega) (by omega) (hst.base 2 rfl) ((hst.base 0 rfl : IsLists _ _ _).sub (mask_is _ _)) (by rw [HNR.out]; omega) HA2.out)
                go_simp
                try rfl
              · -- 8: t79 := Op.move (t87)
                intro zx1 zx2 zx3 zx4 L V W hL hd hw hst u7 e7 p7
                refine ob_v u7 rfl ?_ hst rfl p7
                go_simp
              · -- 9: t88 := Op.extract (t79) 0
                intro zx1 zx2 zx3 zx4 L V W hL hd hw hst u8 e8 p8
                obtain ⟨bm, qm, rfl, kmm⟩ := p8
                refine ob_v (dkS bm qm Y) rfl ?_ hst (osN_keep (hw 12 rfl (by decide)) (by decide) (by decide)) ⟨bm, qm, rfl, kmm⟩
                go_simp
              · -- 10: t89 := Op.extract (t79) 1
                intro zx1 zx2 zx3 zx4 L V W hL hd hw hst u8 e8 p8
                obtain ⟨bm, qm, rfl, kmm⟩ := p8
                refine ob_c rfl ?_ hst rfl
                go_simp
                try with_reducible rfl
              · -- 11: t16 := Op.alloc 24
                intro zx1 zx2 zx3 zx4 L V W hL hd hw hst 
                exact ob_new _ rfl rfl dk_zero_var rfl (by decide) hL (hw 12 rfl (by decide)) rfl hst
              · -- 12: tNone := Op.store 24 (t16) (t88)
                intro zx1 zx2 zx3 zx4 L V W hL hd hw hst u11 e11 p11 u9 e9 p9
                obtain ⟨g11, rfl⟩ := p11
                obtain ⟨bx13, qx13, rfl, kx⟩ := p9
                exact ob_put (ia := 11) (k := 9) (z := .agg #[.slice none 0 0, .int .i64 0, .int .i64 0, .bool false]) rfl rfl rfl rfl e11 e9 rfl (by decide) (by decide) (hd 11 rfl) hL rfl disk_info (one4 rfl _ _ _) hst
              · -- 13: t17 := Op.assign (t89)
                intro zx1 zx2 zx3 zx4 L V W hL hd hw hst u10 e10 p10
                obtain rfl : u10 = _ := p10
                refine ob_c rfl ?_ hst rfl
                go_simp
                try with_reducible rfl
            case en =>
              intro V W hst u0 e0 p0 u1 e1 p1 u2 e2 p2 u3 e3 p3 u4 e4 p4 u5 e5 p5 u6 e6 p6 u7 e7 p7 u8 e8 p8 u9 e9 p9 u10 e10 p10 u11 e11 p11 u13 e13 p13
              obtain rfl : u0 = _ := p0
              obtain rfl : u1 = _ := p1
              obtain rfl : u2 = _ := p2
              obtain rfl : u3 = _ := p3
              obtain rfl : u4 = _ := p4
              obtain rfl : u5 = _ := p5
              obtain rfl : u6 = _ := p6
              obtain ⟨ba, qa, rfl, ka⟩ := p7
              obtain ⟨bm, qm, rfl, kmm⟩ := p8
              obtain ⟨bx13, qx13, rfl, kx⟩ := p9
              obtain rfl : u10 = _ := p10
              obtain ⟨g11, rfl⟩ := p11
              obtain rfl : u13 = _ := p13
              simp only [EndAll, Act.put, List.getElem_toArray, List.getElem_cons_succ, List.getElem_cons_zero, List.setIfInBounds_toArray, List.set_cons_zero, List.set_cons_succ]
              have h2 := hst.put (Mono.dk _ _) kx
              rw [osN_end e11 e9] at h2
              replace h2 := h2.shut
              clear hst kx kmm ka
              generalize g11 = gz at h2 ⊢
              generalize bx13 = bz at h2 ⊢
              generalize qx13 = qz at h2 ⊢
              have xA := (h2.is 3 rfl : World.cell? _ _ = some _)
              go_wp2_with fail
              refine (sectors_s h2 (rs := R) HN.out (h2.is 2 rfl) (by rw [HNR.out]; omega) HA2.out).mono ?_
              rintro e w3 ⟨rfl, h3⟩
              clear h2 xA
              have xA := (h3.is 3 rfl : World.cell? _ _ = some _)
              obtain ⟨_, _, ee, -, -, -, hat⟩ := (h3.is 2 rfl : IsLists _ _ _).out
              rw [HNR.out] at ee
              cases ee
              have HAT := Lib.hid hat
              clear hat
              go_wp2_with fail
              go_loopw [19, 20] (fun lv iv wr => ∃ i : Nat, i ≤ NR ∧ lv = .bool (Wl.long (R.take i)) ∧ iv = .int .i64 i ∧ Hid (wr = w3)) (fun _ iv _ => NR - (intOf iv).toNat)
              case atStart => exact ⟨0, by omega, rfl, rfl, Lib.hid rfl⟩
              case round =>
                obtain ⟨i, hi, rfl, rfl, hwr⟩ := hrel
                have hwr := hwr.out
                subst wr
                by_cases hil : i < NR
                · have hil2 : i < R.length := by rw [HNR.out]; exact hil
                  have hili : (i : Int) < (NR : Int) := by omega
                  have hst2 := long_step hil2
                  obtain ⟨gB, oB, uB, eB, xB, yB⟩ := HAT.out i hil2
                  subst eB
                  obtain ⟨_, _, eB, -⟩ := yB.out
                  subst eB
                  clear yB
                  obtain ⟨L, hL⟩ : ∃ L, R[i].length = L := ⟨_, rfl⟩
                  rw [hL] at xB hst2
                  obtain ⟨lo, hlo⟩ : ∃ b, Wl.long (R.take i) = b := ⟨_, rfl⟩
                  rw [hlo] at hst2 ⊢
                  have HST := Lib.hid hst2
                  clear hst2 hlo hL
                  cases lo with
                  | true =>
                    go_wp2_with fail
                    go_roundw
                    case rel => exact ⟨i + 1, by omega, by rw [HST.out]; rfl, by go_num, by first | exact Lib.hid rfl | exact Lib.hid trivial⟩
                    case measure => simp [intOf]; omega
                  | false =>
                    rw [Bool.false_or] at HST
                    by_cases hbig : 8192 < L
                    · have hbi : (8192 : Int) < (L : Int) := by omega
                      go_wp2_with fail
                      go_roundw
                      case rel => exact ⟨i + 1, by omega, by rw [HST.out, decide_eq_true hbig], by go_num, by first | exact Lib.hid rfl | exact Lib.hid trivial⟩
                      case measure => simp [intOf]; omega
                    · have hbi : ¬ (8192 : Int) < (L : Int) := by omega
                      go_wp2_with fail
                      go_roundw
                      case rel => exact ⟨i + 1, by omega, by rw [HST.out, decide_eq_false hbig], by go_num, by first | exact Lib.hid rfl | exact Lib.hid trivial⟩
                      case measure => simp [intOf]; omega
                · obtain rfl : NR = i := by omega
                  have hili : ¬ (NR : Int) < (NR : Int) := by omega
                  rw [show R.take NR = R by rw [← HNR.out, List.take_length], HLG.out]
                  clear hil hi HAT
                  go_upto_region 20 with fail
                  go_cut [144] from 116 to 143 (fun c wx => c = .bool false ∧ Hid (wx = w3))
                  case first =>
                    have hWE := HW.out.2.2
                    rcases HLAW.out with ⟨rfl, rfl, hE, -⟩ | ⟨rfl, rfl⟩ | ⟨rfl, rfl, hE⟩
                    · have i2 : (n : Int) ≤ (Rm : Int) := by omega
                      have i3 : ¬ (Rm : Int) < (n : Int) := by omega
                      clear hE hWE
                      go_wp2_with fail
                      go_meet
                      case rel => exact ⟨rfl, by first | exact Lib.hid rfl | exact Lib.hid trivial⟩
                    · go_wp2_with fail
                      go_meet
                      case rel => exact ⟨rfl, by first | exact Lib.hid rfl | exact Lib.hid trivial⟩
                    · have i2 : ¬ (n : Int) ≤ (Rm : Int) := by omega
                      have i3 : (Rm : Int) < (n : Int) := by omega
                      clear hE hWE
                      go_wp2_with fail
                      go_meet
                      case rel => exact ⟨rfl, by first | exact Lib.hid rfl | exact Lib.hid trivial⟩
                  case rest =>
                  obtain ⟨rfl, hwx⟩ := hcut
                  have hwx := hwx.out
                  rename_i wx
                  subst wx
                  go_upto_if 146 with fail
                  go_cut [13, 14] from 146 to 156 (fun wv rv wx => ∃ (X2 : Dk) (b2 : Option Addr) (q2 : Nat) (W2 : List (List UInt8)) (wb2 : Option Addr) (NW2 wq2 E2 Rm2 : Nat), wv = .slice wb2 NW2 wq2 ∧ rv = .int .i64 Rm2 ∧ Hid (W2.length = NW2 ∧ NW2 ≤ 200 * j + 200 ∧ E2 + Rm2 = p + k) ∧ Hid (Apd O X2 p k W2 E2) ∧ St w wx [(gxx, dkB b2 q2 X2)] [(IsDk · (dkS b2 q2 X2) X2), (IsLists · (.slice wb2 NW2 wq2) W2), IsCells g10 (dkA b10 q10 O), (IsDk · (dkS b10 q10 O) O), IsCells w.heap.size (dkA bd qd d), (IsDk · (dkS bd qd d) d), (IsBats · (.slice (some ⟨gA, oA, none⟩) A aq) la)])
                  case first =>
                    by_cases hc : c = 0
                    · subst hc
                      obtain ⟨hlgf, hE, hAY⟩ : lg = false ∧ E + n ≤ p + k ∧ Apd O Y p k (WW ++ R) (E + n) := by
                        rcases HLAW.out with ⟨-, a, b, c⟩ | ⟨a, -⟩ | ⟨a, -⟩
                        · exact ⟨a, b, by rw [← HN.out]; exact HN.out ▸ c⟩
                        · cases a
                        · cases a
                      obtain ⟨Rm2, hRm2⟩ : ∃ x : Nat, Rm = n + x := ⟨Rm - n, by have := HW.out; omega⟩
                      have HAY := Lib.hid hAY
                      have hwR : IntKind.i64.wrap ((Rm : Int) - (n : Int)) = (Rm2 : Int) := by rw [IntKind.wrap_i64]; have := HW.out; omega
                      have HRM := Lib.hid hRm2
                      clear hAY hlgf hRm2
                      go_upto_region 23 with fail
                      refine wp_region_st [pVal (dkS bz qz Y), pVal ?c23_1, pVal ?c23_2, pVal (.int .i64 (Rm2 : Int)), pVal ?c23_4, pVal ?c23_5, pVal ?c23_6, pVal (.pointer (some ⟨gA, oA + j, none⟩)), pVal (.slice ub NR uq), pLs (WW ++ R), pAny, pVal (.int .i64 (Rm2 : Int)), pLs (WW ++ R)] (osS 10 0 24 gxx (.cells #[.slice b X.sec.length q, .int .i64 X.left, .int .i64 X.tear, .bool X.stopped] 24 (0, 0)) [] []) 232 [0, 0, 0, 6, 0, 0, 0, 96, 224, 496, 1009, 2047, 4095] [[], [], [], [(2, 149), (1, 148)], [], [], [], [(6, 153), (5, 152)], [(7, 154)], [(8, 155), (4, 151)], [(0, 147)], [(3, 150)], [(9, 156)]] [(0, 147), (1, 148), (2, 149), (3, 150), (4, 151), (5, 152), (6, 153), (7, 154), (8, 155), (9, 156), (11, 14), (12, 13)] (by kernel_rfl) (by kernel_rfl) rfl rfl h3 osS0 (osS1 (by decide)) ?ob ?en
                      case ob =>
                        refine ⟨?_, ?_, ?_, ?_, ?_, ?_, ?_, ?_, ?_, ?_, ?_, ?_, ?_, trivial⟩
                        · -- 0: t147 := Op.load 24 (t16)
                          intro zx1 zx2 zx3 zx4 L V W hL hd hw hst 
                          exact ob_c (by first | rfl | (simp [wantE, dstOf, zx1]; done)) (run_load_mid rfl rfl ((hst.base 0 rfl : IsCells _ _ _) |> Mono.cells _ _ _ _ (mask_is _ _) |>.range) Try.underlying24 rfl rfl) hst (osS_keep (hw 10 rfl (by decide)) (by decide))
                        · -- 1: t148 := Op.move (t14)
                          intro zx1 zx2 zx3 zx4 L V W hL hd hw hst 
                          refine ob_c (by first | rfl | (simp [wantE, dstOf, zx1]; done)) ?_ hst rfl
                          go_simp
                          try with_reducible rfl
                        · -- 2: t149 := Op.move (t18)
                          intro zx1 zx2 zx3 zx4 L V W hL hd hw hst 
                          refine ob_c (by first | rfl | (simp [wantE, dstOf, zx1]; done)) ?_ hst rfl
                          go_simp
                          try with_reducible rfl
                        · -- 3: t150 := Op.binOp BinOp.sub 3 (t148) (t149) 3
                          intro zx1 zx2 zx3 zx4 L V W hL hd hw hst u1 e1 p1 u2 e2 p2
                          obtain rfl : u1 = _ := p1
                          obtain rfl : u2 = _ := p2
                          refine ob_c (by first | rfl | (simp [wantE, dstOf, zx1]; done)) ?_ hst rfl
                          go_simp
                          try with_reducible rfl
                        · -- 4: t151 := Op.move (t13)
                          intro zx1 zx2 zx3 zx4 L V W hL hd hw hst 
                          refine ob_c (by first | rfl | (simp [wantE, dstOf, zx1]; done)) ?_ hst rfl
                          go_simp
                          try with_reducible rfl
                        · -- 5: t152 := Op.move (t3)
                          intro zx1 zx2 zx3 zx4 L V W hL hd hw hst 
                          refine ob_c (by first | rfl | (simp [wantE, dstOf, zx1]; done)) ?_ hst rfl
                          go_simp
                          try with_reducible rfl
                        · -- 6: t153 := Op.move (t15)
                          intro zx1 zx2 zx3 zx4 L V W hL hd hw hst 
                          refine ob_c (by first | rfl | (simp [wantE, dstOf, zx1]; done)) ?_ hst rfl
                          go_simp
                          try with_reducible rfl
                        · -- 7: t154 := Op.indexAddr 40 (t152) (t153)
                          intro zx1 zx2 zx3 zx4 L V W hL hd hw hst u5 e5 p5 u6 e6 p6
                          obtain rfl : u5 = _ := p5
                          obtain rfl : u6 = _ := p6
                          refine ob_c (by first | rfl | (simp [wantE, dstOf, zx1]; done)) ?_ hst rfl
                          go_simp
                          try with_reducible rfl
                        · -- 8: t155 := Op.load 22 (t154)
                          intro zx1 zx2 zx3 zx4 L V W hL hd hw hst u7 e7 p7
                          obtain rfl : u7 = _ := p7
                          have hz := mask_is _ _ _ _ (hst.base 3 rfl : World.cell? _ _ = some _)
                          refine ob_c (by first | rfl | (simp [wantE, dstOf, zx1]; done)) ?_ hst rfl
                          go_simp
                          try with_reducible rfl
                        · -- 9: t156 := Op.call { callee := value (func 28), args := #[t151, t155], argTypes := #[22, 22] }
                          intro zx1 zx2 zx3 zx4 L V W hL hd hw hst u4 e4 p4 u8 e8 p8
                          obtain rfl : u4 = _ := p4
                          obtain rfl : u8 = _ := p8
                          refine ob_call (by first | rfl | (simp [wantE, dstOf, zx1]; done)) ?_ (joined_pp hst (a := WW) (b := R) rfl (hst.base 5 rfl) (hst.base 2 rfl) (by rw [HW.out.1, HNR.out]; have := HW.out.2.1; omega))
                          go_simp
                          try rfl
                        · -- 10: tNone := Op.store 24 (t11) (t147)
                          intro zx1 zx2 zx3 zx4 L V W hL hd hw hst u0 e0 p0
                          obtain rfl : u0 = _ := p0
                          exact ob_set (k := 0) (g := gxx) rfl rfl rfl rfl e0 rfl (by decide) hL rfl disk_info (one4 rfl _ _ _) hst
                        · -- 11: t14 := Op.assign (t150)
                          intro zx1 zx2 zx3 zx4 L V W hL hd hw hst u3 e3 p3
                          obtain rfl : u3 = _ := p3
                          refine ob_c (by first | rfl | (simp [wantE, dstOf, zx1]; done)) ?_ hst rfl
                          go_simp
                          try with_reducible rfl
                        · -- 12: t13 := Op.assign (t156)
                          intro zx1 zx2 zx3 zx4 L V W hL hd hw hst u9 e9 p9
                          refine ob_v u9 (by first | rfl | (simp [wantE, dstOf, zx1]; done)) ?_ hst rfl p9
                          go_simp
                      case en =>
                        intro V W hst u0 e0 p0 u1 e1 p1 u2 e2 p2 u3 e3 p3 u4 e4 p4 u5 e5 p5 u6 e6 p6 u7 e7 p7 u8 e8 p8 u9 e9 p9 u11 e11 p11 u12 e12 p12
                        obtain rfl : u0 = _ := p0
                        obtain rfl : u1 = _ := p1
                        obtain rfl : u2 = _ := p2
                        obtain rfl : u3 = _ := p3
                        obtain rfl : u4 = _ := p4
                        obtain rfl : u5 = _ := p5
                        obtain rfl : u6 = _ := p6
                        obtain rfl : u7 = _ := p7
                        obtain rfl : u8 = _ := p8
                        obtain ⟨bl, ql, rfl, kl⟩ := p9
                        obtain rfl : u11 = _ := p11
                        obtain ⟨b8, q8, rfl, k8⟩ := p12
                        simp only [EndAll, Act.put, List.getElem_toArray, List.getElem_cons_succ, List.getElem_cons_zero, List.setIfInBounds_toArray, List.set_cons_zero, List.set_cons_succ]
                        have h4 := hst.put (P := (IsLists · (.slice b8 (WW ++ R).length q8) (WW ++ R))) (Mono.lists _ _) k8
                        rw [osS_end e0] at h4
                        obtain ⟨NX, hNX⟩ : ∃ n, (WW ++ R).length = n := ⟨_, rfl⟩
                        rw [hNX] at h4
                        try rw [hNX]
                        have HNX := Lib.hid hNX
                        clear hNX
                        have h5 := h4.facts (fs' := [(IsDk · (dkS bz qz Y) Y), (IsLists · (.slice b8 NX q8) (WW ++ R)), IsCells g10 (dkA b10 q10 O), (IsDk · (dkS b10 q10 O) O), IsCells w.heap.size (dkA bd qd d), (IsDk · (dkS bd qd d) d), (IsBats · (.slice (some ⟨gA, oA, none⟩) A aq) la)]) (fun P hP => by simp only [List.mem_cons, List.not_mem_nil, or_false] at hP ⊢; rcases hP with rfl | rfl | rfl | rfl | rfl | rfl | rfl <;> simp)
                        clear hst h4
                        go_wp2_with fail
                        go_meet
                        case rel => exact ⟨Y, bz, qz, WW ++ R, b8, NX, q8, E + n, Rm2, rfl, rfl, Lib.hid ⟨HNX.out, by rw [← HNX.out, List.length_append, HNR.out]; have := HW.out; omega, by have := HW.out; have := HRM.out; omega⟩, Lib.hid HAY.out, h5⟩
                    · have hcb := beq_of hc
                      have h5 := h3.facts (fs' := [(IsDk · (dkS b q X) X), (IsLists · (.slice wb NW wq) WW), IsCells g10 (dkA b10 q10 O), (IsDk · (dkS b10 q10 O) O), IsCells w.heap.size (dkA bd qd d), (IsDk · (dkS bd qd d) d), (IsBats · (.slice (some ⟨gA, oA, none⟩) A aq) la)]) (fun P hP => by simp only [List.mem_cons, List.not_mem_nil, or_false] at hP ⊢; rcases hP with rfl | rfl | rfl | rfl | rfl | rfl | rfl <;> simp)
                      clear h3
                      go_wp2_with fail
                      go_meet
                      case rel => exact ⟨X, b, q, WW, wb, NW, wq, E, Rm, rfl, rfl, Lib.hid ⟨HW.out.1, by have := HW.out.2.1; omega, HW.out.2.2⟩, HX, h5⟩
                  case rest =>
                  clear h3 HLAW HLG HSR HA2 HY HN HNR HW HX
                  obtain ⟨X2, b2, q2, W2, wb2, NW2, wq2, E2, Rm2, rfl, rfl, HW2, HX2, h6⟩ := hcut
                  have hlo := HX2.out.live.reg.lo
                  have hRI : ((p : Int) + (k : Int) - (E2 : Int)) = (Rm2 : Int) := by have := HW2.out.2.2; omega
                  go_wp2_with (refine wpList_load_row rfl 24 (.tmp 11) rfl gxx rfl 24 _ (0, 0) _ (h6.at_ 0 rfl) Try.underlying24 rfl disk_info ?_)
                  refine (read_s h6 (d := X2) (f := p) (m := k) HX2.out.live.is (by omega) (by omega) (h6.is 0 rfl)).mono ?_
                  rintro e w7 ⟨b7, q7, rfl, h7⟩
                  clear h6
                  rw [HW2.out.1] at h7 ⊢
                  go_wp2_with (refine wpList_load_row rfl 24 (.tmp 11) rfl gxx rfl 24 _ (0, 0) _ (h7.at_ 0 rfl) Try.underlying24 rfl disk_info ?_)
                  refine (room_s h7 (d := X2) (f := p) (m := k) HX2.out.live.is (R := (Rm2 : Int)) (by rw [if_pos rfl]; exact hRI) (by omega) (by omega) (h7.is 1 rfl)).mono ?_
                  rintro e w8 ⟨rfl, h8⟩
                  clear h7 hRI hlo
                  go_wp2_with fail
                  refine (same_s h8 (a := W2) (b := W2) (decide_eq_true rfl) (h8.is 0 rfl) (h8.is 2 rfl)).mono ?_
                  rintro e w9 ⟨rfl, h9⟩
                  clear h8
                  go_wp2_with fail
                  go_roundw
                  case rel => exact ⟨j + 1, X2, b2, q2, W2, wb2, NW2, wq2, E2, Rm2, by omega, rfl, rfl, by go_num, Lib.hid ⟨HW2.out.1, by have := HW2.out.2.1; omega, HW2.out.2.2⟩, HX2, h9.pop⟩
                  case measure => simp [intOf]; omega
        · have hlti : ¬ (j : Int) < (A : Int) := by omega
          have h9 := hst.shut
          clear hst hlt
          obtain ⟨c0, c1, c2, c3⟩ := (h9.is 0 rfl : IsCells _ _ _).c4
          obtain ⟨d0, d1, d2, d3⟩ := (h9.is 3 rfl : IsCells _ _ _).c4
          obtain ⟨S, hS⟩ : ∃ S, X.sec.length = S := ⟨_, rfl⟩
          have hS2 : O.sec.length = S := by rw [← HX.out.len]; exact hS
          rw [hS] at c0
          rw [hS2] at d0
          have hS4 : S ≤ 4096 := by rw [← hS2]; exact hmany
          have HS := Lib.hid (And.intro hS hS2)
          clear hS hS2
          go_wp2_with fail
          go_loopw [25] (fun iv wr => ∃ i : Nat, i ≤ S ∧ iv = .int .i64 i ∧ St w wr [] [IsCells gxx (dkA b q X), (IsDk · (dkS b q X) X), (IsLists · (.slice wb NW wq) WW), IsCells g10 (dkA b10 q10 O), (IsDk · (dkS b10 q10 O) O), IsCells w.heap.size (dkA bd qd d), (IsDk · (dkS bd qd d) d), (IsBats · (.slice ab A aq) la)]) (fun iv _ => S - (intOf iv).toNat)
          case atStart => exact ⟨0, by omega, rfl, h9⟩
          case round =>
            clear h9 c0 c1 c2 c3 d0 d1 d2 d3
            obtain ⟨i, hi, rfl, hst⟩ := hrel
            obtain ⟨c0, c1, c2, c3⟩ := (hst.is 0 rfl : IsCells _ _ _).c4
            rw [HS.out.1] at c0
            by_cases hil : i < S
            · have hili : (i : Int) < (S : Int) := by omega
              have hX := (hst.get 1 rfl : IsDk _ _ _)
              have hO := (hst.get 4 rfl : IsDk _ _ _)
              obtain ⟨_, _, e1, -, -, hatX⟩ := hX.open_
              obtain ⟨_, _, e2, -, -, hatO⟩ := hO.open_
              simp only [dkS, Value.agg.injEq, Array.mk.injEq, List.cons.injEq, Value.slice.injEq] at e1 e2
              obtain ⟨⟨e1, -, e3⟩, -⟩ := e1
              obtain ⟨⟨e2, -, e4⟩, -⟩ := e2
              subst e1 e2 e3 e4
              obtain ⟨gB, oB, ub, uc, e5, xB, yB⟩ := hatX i (by rw [HS.out.1]; exact hil)
              obtain ⟨gC, oC, vb, vc, e6, xC, yC⟩ := hatO i (by rw [HS.out.2]; exact hil)
              subst e5 e6
              obtain ⟨LB, hLB⟩ : ∃ L, (X.sec[i]'(by rw [HS.out.1]; exact hil)) = L := ⟨_, rfl⟩
              obtain ⟨LC, hLC⟩ : ∃ L, (O.sec[i]'(by rw [HS.out.2]; exact hil)) = L := ⟨_, rfl⟩
              rw [hLB] at xB yB
              rw [hLC] at xC yC
              have hfar : (i < p ∨ p + k ≤ i) → LB = LC := fun h => by
                have := HX.out.far i h
                rw [List.getElem?_eq_getElem (by rw [HS.out.1]; exact hil), List.getElem?_eq_getElem (by rw [HS.out.2]; exact hil), hLB, hLC] at this
                exact Option.some.inj this
              have z0 := True.intro
              have g0 : World.cell? _ ⟨gxx, 0, none⟩ = some (.slice (some ⟨gB, oB, none⟩) X.sec.length q) := ((hst.get 0 rfl : IsCells _ _ _) 0 _ rfl)
              have g1 : World.cell? _ ⟨g10, 0, none⟩ = some (.slice (some ⟨gC, oC, none⟩) O.sec.length q10) := ((hst.get 3 rfl : IsCells _ _ _) 0 _ rfl)
              rw [HS.out.1] at g0
              rw [HS.out.2] at g1
              have h10 := (((((hst.put (P := fun x => x.cell? ⟨gxx, 0, none⟩ = some (.slice (some ⟨gB, oB, none⟩) S q)) (Mono.cell _ _) g0).put (P := fun x => x.cell? ⟨g10, 0, none⟩ = some (.slice (some ⟨gC, oC, none⟩) S q10)) (Mono.cell _ _) g1).put (P := fun x => x.cell? ⟨gB, oB + i, none⟩ = some (.slice ub LB.length uc)) (Mono.cell _ _) xB).put (P := (IsBytes · (.slice ub LB.length uc) LB)) (Mono.bytes _ _) yB).put (P := fun x => x.cell? ⟨gC, oC + i, none⟩ = some (.slice vb LC.length vc)) (Mono.cell _ _) xC).put (P := (IsBytes · (.slice vb LC.length vc) LC)) (Mono.bytes _ _) yC
              have HF := Lib.hid hfar
              have hwp : IntKind.i64.wrap ((p : Int) + (k : Int)) = (p : Int) + (k : Int) := by rw [IntKind.wrap_i64]; omega
              clear hatX hatO hX hO hLB hLC hfar z0 g0 g1 xB yB xC yC
              go_upto_region 33 with fail
              clear c0 c1 c2 c3
              by_cases hlo : i < p
              · have hli : (i : Int) < (p : Int) := by omega
                obtain rfl : LB = LC := HF.out (.inl hlo)
                refine wp_region_st [pVal ?c33a_0, pVal ?c33a_1, pVal (.bool true), pVal (.bool true), pVal ?c33a_4, pVal ?c33a_5, pVal ?c33a_6, pVal ?c33a_7, pVal ?c33a_8, pVal (.bool true), pVal (.bool true), pVal ?c33a_11, pVal (.slice (some ⟨gB, oB, none⟩) S q), pVal ?c33a_13, pVal (.pointer (some ⟨gB, oB + i, none⟩)), pVal (.slice ub LB.length uc), pVal (.string ⟨LB.toArray⟩), pVal ?c33a_17, pVal (.slice (some ⟨gC, oC, none⟩) S q10), pVal ?c33a_19, pVal (.pointer (some ⟨gC, oC + i, none⟩)), pVal (.slice vb LB.length vc), pVal (.string ⟨LB.toArray⟩), pVal (.bool false), pVal (.bool false)] (osC []) 232 [0, 0, 3, 7, 15, 15, 15, 111, 255, 511, 1023, 2047, 4095, 2047, 16383, 32767, 65535, 2047, 133119, 2047, 919551, 1968127, 4065279, 8388607, 16777215] [[], [], [(1, 207), (0, 206)], [(2, 208)], [(3, 209)], [(3, 209)], [(3, 209)], [(3, 209), (6, 212), (5, 211)], [(3, 209), (7, 213), (4, 210)], [(8, 214), (3, 209)], [(9, 215)], [(10, 216)], [(10, 216), (11, 217)], [(10, 216)], [(10, 216), (13, 219), (12, 218)], [(10, 216), (14, 220)], [(10, 216), (15, 221)], [(10, 216)], [(10, 216), (17, 223)], [(10, 216)], [(10, 216), (19, 225), (18, 224)], [(10, 216), (20, 226)], [(10, 216), (21, 227)], [(10, 216), (22, 228), (16, 222)], [(23, 229), (10, 216)]] [(0, 206), (1, 207), (2, 208), (3, 209), (4, 210), (5, 211), (6, 212), (7, 213), (8, 214), (9, 215), (10, 216), (11, 217), (12, 218), (13, 219), (14, 220), (15, 221), (16, 222), (17, 223), (18, 224), (19, 225), (20, 226), (21, 227), (22, 228), (23, 229), (24, 230)] (by kernel_rfl) (by kernel_rfl) rfl rfl h10 osC0 osC1 ?ob ?en
                case ob =>
                  refine ⟨?_, ?_, ?_, ?_, ?_, ?_, ?_, ?_, ?_, ?_, ?_, ?_, ?_, ?_, ?_, ?_, ?_, ?_, ?_, ?_, ?_, ?_, ?_, ?_, ?_, trivial⟩
                  · -- 0: t206 := Op.move (t25)
                    intro zx1 zx2 zx3 zx4 L V W hL hd hw hst 
                    refine ob_c rfl ?_ hst rfl
                    go_simp
                    try with_reducible rfl
                  · -- 1: t207 := Op.move (t1)
                    intro zx1 zx2 zx3 zx4 L V W hL hd hw hst 
                    refine ob_c rfl ?_ hst rfl
                    go_simp
                    try with_reducible rfl
                  · -- 2: t208 := Op.binOp BinOp.lss 3 (t206) (t207) 3
                    intro zx1 zx2 zx3 zx4 L V W hL hd hw hst u0 e0 p0 u1 e1 p1
                    obtain rfl : u0 = _ := p0
                    obtain rfl : u1 = _ := p1
                    refine ob_c (by first | rfl | (simp [wantE, dstOf, zx1]; done)) ?_ hst rfl
                    go_simp
                    all_goals (skip)
                  · -- 3: t209 := Op.move (t208)
                    intro zx1 zx2 zx3 zx4 L V W hL hd hw hst u2 e2 p2
                    obtain rfl : u2 = _ := p2
                    refine ob_c (by first | rfl | (simp [wantE, dstOf, zx1]; done)) ?_ hst rfl
                    go_simp
                    all_goals (skip)
                  · -- 4: t210 := Op.move (t25)
                    intro zx1 zx2 zx3 zx4 L V W hL hd hw hst u3 e3 p3
                    obtain rfl : u3 = _ := p3
                    refine ob_o ?_ hst ?_
                    · first | rfl | (simp [wantE, dstOf, zx1]; done)
                    · rfl
                  · -- 5: t211 := Op.move (t1)
                    intro zx1 zx2 zx3 zx4 L V W hL hd hw hst u3 e3 p3
                    obtain rfl : u3 = _ := p3
                    refine ob_o ?_ hst ?_
                    · first | rfl | (simp [wantE, dstOf, zx1]; done)
                    · rfl
                  · -- 6: t212 := Op.move (t2)
                    intro zx1 zx2 zx3 zx4 L V W hL hd hw hst u3 e3 p3
                    obtain rfl : u3 = _ := p3
                    refine ob_o ?_ hst ?_
                    · first | rfl | (simp [wantE, dstOf, zx1]; done)
                    · rfl
                  · -- 7: t213 := Op.binOp BinOp.add 3 (t211) (t212) 3
                    intro zx1 zx2 zx3 zx4 L V W hL hd hw hst u5 e5 p5 u6 e6 p6 u3 e3 p3
                    obtain rfl : u5 = _ := p5
                    obtain rfl : u6 = _ := p6
                    obtain rfl : u3 = _ := p3
                    refine ob_o ?_ hst ?_
                    · first | rfl | (simp [wantE, dstOf, zx1]; done)
                    · rfl
                  · -- 8: t214 := Op.binOp BinOp.geq 3 (t210) (t213) 3
                    intro zx1 zx2 zx3 zx4 L V W hL hd hw hst u4 e4 p4 u7 e7 p7 u3 e3 p3
                    obtain rfl : u4 = _ := p4
                    obtain rfl : u7 = _ := p7
                    obtain rfl : u3 = _ := p3
                    refine ob_o ?_ hst ?_
                    · first | rfl | (simp [wantE, dstOf, zx1]; done)
                    · rfl
                  · -- 9: t215 := Op.pick (t209) (const (bool true)) (t214)
                    intro zx1 zx2 zx3 zx4 L V W hL hd hw hst u3 e3 p3 u8 e8 p8
                    obtain rfl : u3 = _ := p3
                    obtain rfl : u8 = _ := p8
                    refine ob_c (by first | rfl | (simp [wantE, dstOf, zx1]; done)) ?_ hst rfl
                    go_simp
                    all_goals (skip)
                  · -- 10: t216 := Op.move (t215)
                    intro zx1 zx2 zx3 zx4 L V W hL hd hw hst u9 e9 p9
                    obtain rfl : u9 = _ := p9
                    refine ob_c (by first | rfl | (simp [wantE, dstOf, zx1]; done)) ?_ hst rfl
                    go_simp
                    all_goals (skip)
                  · -- 11: t217 := Op.fieldAddr 24 (t11) 0
                    intro zx1 zx2 zx3 zx4 L V W hL hd hw hst u10 e10 p10
                    obtain rfl : u10 = _ := p10
                    refine ob_c (by first | rfl | (simp [wantE, dstOf, zx1]; done)) ?_ hst rfl
                    go_simp
                    try with_reducible rfl
                  · -- 12: t218 := Op.load 22 (t217)
                    intro zx1 zx2 zx3 zx4 L V W hL hd hw hst u11 e11 p11 u10 e10 p10
                    obtain rfl : u11 = _ := p11
                    obtain rfl : u10 = _ := p10
                    have hz := mask_is _ _ _ _ (hst.base 5 rfl : World.cell? _ _ = some _)
                    refine ob_c (by first | rfl | (simp [wantE, dstOf, zx1]; done)) ?_ hst rfl
                    go_simp
                    try with_reducible rfl
                  · -- 13: t219 := Op.move (t25)
                    intro zx1 zx2 zx3 zx4 L V W hL hd hw hst u10 e10 p10
                    obtain rfl : u10 = _ := p10
                    refine ob_c (by first | rfl | (simp [wantE, dstOf, zx1]; done)) ?_ hst rfl
                    go_simp
                    try with_reducible rfl
                  · -- 14: t220 := Op.indexAddr 22 (t218) (t219)
                    intro zx1 zx2 zx3 zx4 L V W hL hd hw hst u12 e12 p12 u13 e13 p13 u10 e10 p10
                    obtain rfl : u12 = _ := p12
                    obtain rfl : u13 = _ := p13
                    obtain rfl : u10 = _ := p10
                    refine ob_c (by first | rfl | (simp [wantE, dstOf, zx1]; done)) ?_ hst rfl
                    go_simp
                    all_goals (skip)
                  · -- 15: t221 := Op.load 42 (t220)
                    intro zx1 zx2 zx3 zx4 L V W hL hd hw hst u14 e14 p14 u10 e10 p10
                    obtain rfl : u14 = _ := p14
                    obtain rfl : u10 = _ := p10
                    have hz := mask_is _ _ _ _ (hst.base 3 rfl : World.cell? _ _ = some _)
                    refine ob_c (by first | rfl | (simp [wantE, dstOf, zx1]; done)) ?_ hst rfl
                    go_simp
                    try with_reducible rfl
                  · -- 16: t222 := Op.convert 42 9 (t221)
                    intro zx1 zx2 zx3 zx4 L V W hL hd hw hst u15 e15 p15 u10 e10 p10
                    obtain rfl : u15 = _ := p15
                    obtain rfl : u10 = _ := p10
                    exact ob_c (by first | rfl | (simp [wantE, dstOf, zx1]; done)) (run_cv_op rfl rfl (bytesStr ((hst.base 2 rfl : IsBytes _ _ _).sub (mask_is _ _)))) hst rfl
                  · -- 17: t223 := Op.fieldAddr 24 (t10) 0
                    intro zx1 zx2 zx3 zx4 L V W hL hd hw hst u10 e10 p10
                    obtain rfl : u10 = _ := p10
                    refine ob_c (by first | rfl | (simp [wantE, dstOf, zx1]; done)) ?_ hst rfl
                    go_simp
                    try with_reducible rfl
                  · -- 18: t224 := Op.load 22 (t223)
                    intro zx1 zx2 zx3 zx4 L V W hL hd hw hst u17 e17 p17 u10 e10 p10
                    obtain rfl : u17 = _ := p17
                    obtain rfl : u10 = _ := p10
                    have hz := mask_is _ _ _ _ (hst.base 4 rfl : World.cell? _ _ = some _)
                    refine ob_c (by first | rfl | (simp [wantE, dstOf, zx1]; done)) ?_ hst rfl
                    go_simp
                    try with_reducible rfl
                  · -- 19: t225 := Op.move (t25)
                    intro zx1 zx2 zx3 zx4 L V W hL hd hw hst u10 e10 p10
                    obtain rfl : u10 = _ := p10
                    refine ob_c (by first | rfl | (simp [wantE, dstOf, zx1]; done)) ?_ hst rfl
                    go_simp
                    try with_reducible rfl
                  · -- 20: t226 := Op.indexAddr 22 (t224) (t225)
                    intro zx1 zx2 zx3 zx4 L V W hL hd hw hst u18 e18 p18 u19 e19 p19 u10 e10 p10
                    obtain rfl : u18 = _ := p18
                    obtain rfl : u19 = _ := p19
                    obtain rfl : u10 = _ := p10
                    refine ob_c (by first | rfl | (simp [wantE, dstOf, zx1]; done)) ?_ hst rfl
                    go_simp
                    all_goals (skip)
                  · -- 21: t227 := Op.load 42 (t226)
                    intro zx1 zx2 zx3 zx4 L V W hL hd hw hst u20 e20 p20 u10 e10 p10
                    obtain rfl : u20 = _ := p20
                    obtain rfl : u10 = _ := p10
                    have hz := mask_is _ _ _ _ (hst.base 1 rfl : World.cell? _ _ = some _)
                    refine ob_c (by first | rfl | (simp [wantE, dstOf, zx1]; done)) ?_ hst rfl
                    go_simp
                    try with_reducible rfl
                  · -- 22: t228 := Op.convert 42 9 (t227)
                    intro zx1 zx2 zx3 zx4 L V W hL hd hw hst u21 e21 p21 u10 e10 p10
                    obtain rfl : u21 = _ := p21
                    obtain rfl : u10 = _ := p10
                    exact ob_c (by first | rfl | (simp [wantE, dstOf, zx1]; done)) (run_cv_op rfl rfl (bytesStr ((hst.base 0 rfl : IsBytes _ _ _).sub (mask_is _ _)))) hst rfl
                  · -- 23: t229 := Op.binOp BinOp.neq 9 (t222) (t228) 9
                    intro zx1 zx2 zx3 zx4 L V W hL hd hw hst u16 e16 p16 u22 e22 p22 u10 e10 p10
                    obtain rfl : u16 = _ := p16
                    obtain rfl : u22 = _ := p22
                    obtain rfl : u10 = _ := p10
                    refine ob_c (by first | rfl | (simp [wantE, dstOf, zx1]; done)) ?_ hst rfl
                    go_simp
                    all_goals (skip)
                  · -- 24: t230 := Op.pick (t216) (t229) (const (bool false))
                    intro zx1 zx2 zx3 zx4 L V W hL hd hw hst u10 e10 p10 u23 e23 p23
                    obtain rfl : u10 = _ := p10
                    obtain rfl : u23 = _ := p23
                    refine ob_c (by first | rfl | (simp [wantE, dstOf, zx1]; done)) ?_ hst rfl
                    go_simp
                    all_goals (skip)
                case en =>
                  intro V W hst u0 e0 p0 u1 e1 p1 u2 e2 p2 u3 e3 p3 u4 e4 p4 u5 e5 p5 u6 e6 p6 u7 e7 p7 u8 e8 p8 u9 e9 p9 u10 e10 p10 u11 e11 p11 u12 e12 p12 u13 e13 p13 u14 e14 p14 u15 e15 p15 u16 e16 p16 u17 e17 p17 u18 e18 p18 u19 e19 p19 u20 e20 p20 u21 e21 p21 u22 e22 p22 u23 e23 p23 u24 e24 p24
                  obtain rfl : u0 = _ := p0
                  obtain rfl : u1 = _ := p1
                  obtain rfl : u2 = _ := p2
                  obtain rfl : u3 = _ := p3
                  obtain rfl : u4 = _ := p4
                  obtain rfl : u5 = _ := p5
                  obtain rfl : u6 = _ := p6
                  obtain rfl : u7 = _ := p7
                  obtain rfl : u8 = _ := p8
                  obtain rfl : u9 = _ := p9
                  obtain rfl : u10 = _ := p10
                  obtain rfl : u11 = _ := p11
                  obtain rfl : u12 = _ := p12
                  obtain rfl : u13 = _ := p13
                  obtain rfl : u14 = _ := p14
                  obtain rfl : u15 = _ := p15
                  obtain rfl : u16 = _ := p16
                  obtain rfl : u17 = _ := p17
                  obtain rfl : u18 = _ := p18
                  obtain rfl : u19 = _ := p19
                  obtain rfl : u20 = _ := p20
                  obtain rfl : u21 = _ := p21
                  obtain rfl : u22 = _ := p22
                  obtain rfl : u23 = _ := p23
                  obtain rfl : u24 = _ := p24
                  simp only [EndAll, Act.put, List.getElem_toArray, List.getElem_cons_succ, List.getElem_cons_zero, List.setIfInBounds_toArray, List.set_cons_zero, List.set_cons_succ]
                  have h11 := hst.facts (fs' := [IsCells gxx (dkA (some ⟨gB, oB, none⟩) q X), (IsDk · (dkS (some ⟨gB, oB, none⟩) q X) X), (IsLists · (.slice wb NW wq) WW), IsCells g10 (dkA (some ⟨gC, oC, none⟩) q10 O), (IsDk · (dkS (some ⟨gC, oC, none⟩) q10 O) O), IsCells w.heap.size (dkA bd qd d), (IsDk · (dkS bd qd d) d), (IsBats · (.slice ab A aq) la)]) (fun P hP => by simp only [List.mem_cons, List.not_mem_nil, or_false] at hP ⊢; rcases hP with rfl | rfl | rfl | rfl | rfl | rfl | rfl | rfl <;> simp)
                  clear hst h10
                  go_wp2_with fail
                  go_roundw
                  case rel => exact ⟨i + 1, by omega, by go_num, h11⟩
                  case measure => simp [intOf]; omega
              · have hli : ¬ (i : Int) < (p : Int) := by omega
                by_cases hhi : p + k ≤ i
                · have hhii : (p : Int) + (k : Int) ≤ (i : Int) := by omega
                  obtain rfl : LB = LC := HF.out (.inr hhi)
                  refine wp_region_st [pVal ?c33b_0, pVal ?c33b_1, pVal (.bool false), pVal (.bool false), pVal ?c33b_4, pVal ?c33b_5, pVal ?c33b_6, pVal (.int .i64 ((p : Int) + (k : Int))), pVal (.bool true), pVal (.bool true), pVal (.bool true), pVal ?c33b_11, pVal (.slice (some ⟨gB, oB, none⟩) S q), pVal ?c33b_13, pVal (.pointer (some ⟨gB, oB + i, none⟩)), pVal (.slice ub LB.length uc), pVal (.string ⟨LB.toArray⟩), pVal ?c33b_17, pVal (.slice (some ⟨gC, oC, none⟩) S q10), pVal ?c33b_19, pVal (.pointer (some ⟨gC, oC + i, none⟩)), pVal (.slice vb LB.length vc), pVal (.string ⟨LB.toArray⟩), pVal (.bool false), pVal (.bool false)] (osC []) 232 [0, 0, 3, 7, 15, 15, 15, 111, 255, 511, 1023, 2047, 4095, 2047, 16383, 32767, 65535, 2047, 133119, 2047, 919551, 1968127, 4065279, 8388607, 16777215] [[], [], [(1, 207), (0, 206)], [(2, 208)], [(3, 209)], [(3, 209)], [(3, 209)], [(3, 209), (6, 212), (5, 211)], [(3, 209), (7, 213), (4, 210)], [(8, 214), (3, 209)], [(9, 215)], [(10, 216)], [(10, 216), (11, 217)], [(10, 216)], [(10, 216), (13, 219), (12, 218)], [(10, 216), (14, 220)], [(10, 216), (15, 221)], [(10, 216)], [(10, 216), (17, 223)], [(10, 216)], [(10, 216), (19, 225), (18, 224)], [(10, 216), (20, 226)], [(10, 216), (21, 227)], [(10, 216), (22, 228), (16, 222)], [(23, 229), (10, 216)]] [(0, 206), (1, 207), (2, 208), (3, 209), (4, 210), (5, 211), (6, 212), (7, 213), (8, 214), (9, 215), (10, 216), (11, 217), (12, 218), (13, 219), (14, 220), (15, 221), (16, 222), (17, 223), (18, 224), (19, 225), (20, 226), (21, 227), (22, 228), (23, 229), (24, 230)] (by kernel_rfl) (by kernel_rfl) rfl rfl h10 osC0 osC1 ?ob ?en
                  case ob =>
                    refine ⟨?_, ?_, ?_, ?_, ?_, ?_, ?_, ?_, ?_, ?_, ?_, ?_, ?_, ?_, ?_, ?_, ?_, ?_, ?_, ?_, ?_, ?_, ?_, ?_, ?_, trivial⟩
                    · -- 0: t206 := Op.move (t25)
                      intro zx1 zx2 zx3 zx4 L V W hL hd hw hst 
                      refine ob_c rfl ?_ hst rfl
                      go_simp
                      try with_reducible rfl
                    · -- 1: t207 := Op.move (t1)
                      intro zx1 zx2 zx3 zx4 L V W hL hd hw hst 
                      refine ob_c rfl ?_ hst rfl
                      go_simp
                      try with_reducible rfl
                    · -- 2: t208 := Op.binOp BinOp.lss 3 (t206) (t207) 3
                      intro zx1 zx2 zx3 zx4 L V W hL hd hw hst u0 e0 p0 u1 e1 p1
                      obtain rfl : u0 = _ := p0
                      obtain rfl : u1 = _ := p1
                      refine ob_c (by first | rfl | (simp [wantE, dstOf, zx1]; done)) ?_ hst rfl
                      go_simp
                      all_goals (skip)
                    · -- 3: t209 := Op.move (t208)
                      intro zx1 zx2 zx3 zx4 L V W hL hd hw hst u2 e2 p2
                      obtain rfl : u2 = _ := p2
                      refine ob_c (by first | rfl | (simp [wantE, dstOf, zx1]; done)) ?_ hst rfl
                      go_simp
                      all_goals (skip)
                    · -- 4: t210 := Op.move (t25)
                      intro zx1 zx2 zx3 zx4 L V W hL hd hw hst u3 e3 p3
                      obtain rfl : u3 = _ := p3
                      refine ob_c (by first | rfl | (simp [wantE, dstOf, zx1]; done)) ?_ hst rfl
                      go_simp
                      try with_reducible rfl
                    · -- 5: t211 := Op.move (t1)
                      intro zx1 zx2 zx3 zx4 L V W hL hd hw hst u3 e3 p3
                      obtain rfl : u3 = _ := p3
                      refine ob_c (by first | rfl | (simp [wantE, dstOf, zx1]; done)) ?_ hst rfl
                      go_simp
                      try with_reducible rfl
                    · -- 6: t212 := Op.move (t2)
                      intro zx1 zx2 zx3 zx4 L V W hL hd hw hst u3 e3 p3
                      obtain rfl : u3 = _ := p3
                      refine ob_c (by first | rfl | (simp [wantE, dstOf, zx1]; done)) ?_ hst rfl
                      go_simp
                      try with_reducible rfl
                    · -- 7: t213 := Op.binOp BinOp.add 3 (t211) (t212) 3
                      intro zx1 zx2 zx3 zx4 L V W hL hd hw hst u5 e5 p5 u6 e6 p6 u3 e3 p3
                      obtain rfl : u5 = _ := p5
                      obtain rfl : u6 = _ := p6
                      obtain rfl : u3 = _ := p3
                      refine ob_c (by first | rfl | (simp [wantE, dstOf, zx1]; done)) ?_ hst rfl
                      go_simp
                      all_goals (skip)
                    · -- 8: t214 := Op.binOp BinOp.geq 3 (t210) (t213) 3
                      intro zx1 zx2 zx3 zx4 L V W hL hd hw hst u4 e4 p4 u7 e7 p7 u3 e3 p3
                      obtain rfl : u4 = _ := p4
                      obtain rfl : u7 = _ := p7
                      obtain rfl : u3 = _ := p3
                      refine ob_c (by first | rfl | (simp [wantE, dstOf, zx1]; done)) ?_ hst rfl
                      go_simp
                      all_goals (skip)
                    · -- 9: t215 := Op.pick (t209) (const (bool true)) (t214)
                      intro zx1 zx2 zx3 zx4 L V W hL hd hw hst u3 e3 p3 u8 e8 p8
                      obtain rfl : u3 = _ := p3
                      obtain rfl : u8 = _ := p8
                      refine ob_c (by first | rfl | (simp [wantE, dstOf, zx1]; done)) ?_ hst rfl
                      go_simp
                      all_goals (skip)
                    · -- 10: t216 := Op.move (t215)
                      intro zx1 zx2 zx3 zx4 L V W hL hd hw hst u9 e9 p9
                      obtain rfl : u9 = _ := p9
                      refine ob_c (by first | rfl | (simp [wantE, dstOf, zx1]; done)) ?_ hst rfl
                      go_simp
                      all_goals (skip)
                    · -- 11: t217 := Op.fieldAddr 24 (t11) 0
                      intro zx1 zx2 zx3 zx4 L V W hL hd hw hst u10 e10 p10
                      obtain rfl : u10 = _ := p10
                      refine ob_c (by first | rfl | (simp [wantE, dstOf, zx1]; done)) ?_ hst rfl
                      go_simp
                      try with_reducible rfl
                    · -- 12: t218 := Op.load 22 (t217)
                      intro zx1 zx2 zx3 zx4 L V W hL hd hw hst u11 e11 p11 u10 e10 p10
                      obtain rfl : u11 = _ := p11
                      obtain rfl : u10 = _ := p10
                      have hz := mask_is _ _ _ _ (hst.base 5 rfl : World.cell? _ _ = some _)
                      refine ob_c (by first | rfl | (simp [wantE, dstOf, zx1]; done)) ?_ hst rfl
                      go_simp
                      try with_reducible rfl
                    · -- 13: t219 := Op.move (t25)
                      intro zx1 zx2 zx3 zx4 L V W hL hd hw hst u10 e10 p10
                      obtain rfl : u10 = _ := p10
                      refine ob_c (by first | rfl | (simp [wantE, dstOf, zx1]; done)) ?_ hst rfl
                      go_simp
                      try with_reducible rfl
                    · -- 14: t220 := Op.indexAddr 22 (t218) (t219)
                      intro zx1 zx2 zx3 zx4 L V W hL hd hw hst u12 e12 p12 u13 e13 p13 u10 e10 p10
                      obtain rfl : u12 = _ := p12
                      obtain rfl : u13 = _ := p13
                      obtain rfl : u10 = _ := p10
                      refine ob_c (by first | rfl | (simp [wantE, dstOf, zx1]; done)) ?_ hst rfl
                      go_simp
                      all_goals (skip)
                    · -- 15: t221 := Op.load 42 (t220)
                      intro zx1 zx2 zx3 zx4 L V W hL hd hw hst u14 e14 p14 u10 e10 p10
                      obtain rfl : u14 = _ := p14
                      obtain rfl : u10 = _ := p10
                      have hz := mask_is _ _ _ _ (hst.base 3 rfl : World.cell? _ _ = some _)
                      refine ob_c (by first | rfl | (simp [wantE, dstOf, zx1]; done)) ?_ hst rfl
                      go_simp
                      try with_reducible rfl
                    · -- 16: t222 := Op.convert 42 9 (t221)
                      intro zx1 zx2 zx3 zx4 L V W hL hd hw hst u15 e15 p15 u10 e10 p10
                      obtain rfl : u15 = _ := p15
                      obtain rfl : u10 = _ := p10
                      exact ob_c (by first | rfl | (simp [wantE, dstOf, zx1]; done)) (run_cv_op rfl rfl (bytesStr ((hst.base 2 rfl : IsBytes _ _ _).sub (mask_is _ _)))) hst rfl
                    · -- 17: t223 := Op.fieldAddr 24 (t10) 0
                      intro zx1 zx2 zx3 zx4 L V W hL hd hw hst u10 e10 p10
                      obtain rfl : u10 = _ := p10
                      refine ob_c (by first | rfl | (simp [wantE, dstOf, zx1]; done)) ?_ hst rfl
                      go_simp
                      try with_reducible rfl
                    · -- 18: t224 := Op.load 22 (t223)
                      intro zx1 zx2 zx3 zx4 L V W hL hd hw hst u17 e17 p17 u10 e10 p10
                      obtain rfl : u17 = _ := p17
                      obtain rfl : u10 = _ := p10
                      have hz := mask_is _ _ _ _ (hst.base 4 rfl : World.cell? _ _ = some _)
                      refine ob_c (by first | rfl | (simp [wantE, dstOf, zx1]; done)) ?_ hst rfl
                      go_simp
                      try with_reducible rfl
                    · -- 19: t225 := Op.move (t25)
                      intro zx1 zx2 zx3 zx4 L V W hL hd hw hst u10 e10 p10
                      obtain rfl : u10 = _ := p10
                      refine ob_c (by first | rfl | (simp [wantE, dstOf, zx1]; done)) ?_ hst rfl
                      go_simp
                      try with_reducible rfl
                    · -- 20: t226 := Op.indexAddr 22 (t224) (t225)
                      intro zx1 zx2 zx3 zx4 L V W hL hd hw hst u18 e18 p18 u19 e19 p19 u10 e10 p10
                      obtain rfl : u18 = _ := p18
                      obtain rfl : u19 = _ := p19
                      obtain rfl : u10 = _ := p10
                      refine ob_c (by first | rfl | (simp [wantE, dstOf, zx1]; done)) ?_ hst rfl
                      go_simp
                      all_goals (skip)
                    · -- 21: t227 := Op.load 42 (t226)
                      intro zx1 zx2 zx3 zx4 L V W hL hd hw hst u20 e20 p20 u10 e10 p10
                      obtain rfl : u20 = _ := p20
                      obtain rfl : u10 = _ := p10
                      have hz := mask_is _ _ _ _ (hst.base 1 rfl : World.cell? _ _ = some _)
                      refine ob_c (by first | rfl | (simp [wantE, dstOf, zx1]; done)) ?_ hst rfl
                      go_simp
                      try with_reducible rfl
                    · -- 22: t228 := Op.convert 42 9 (t227)
                      intro zx1 zx2 zx3 zx4 L V W hL hd hw hst u21 e21 p21 u10 e10 p10
                      obtain rfl : u21 = _ := p21
                      obtain rfl : u10 = _ := p10
                      exact ob_c (by first | rfl | (simp [wantE, dstOf, zx1]; done)) (run_cv_op rfl rfl (bytesStr ((hst.base 0 rfl : IsBytes _ _ _).sub (mask_is _ _)))) hst rfl
                    · -- 23: t229 := Op.binOp BinOp.neq 9 (t222) (t228) 9
                      intro zx1 zx2 zx3 zx4 L V W hL hd hw hst u16 e16 p16 u22 e22 p22 u10 e10 p10
                      obtain rfl : u16 = _ := p16
                      obtain rfl : u22 = _ := p22
                      obtain rfl : u10 = _ := p10
                      refine ob_c (by first | rfl | (simp [wantE, dstOf, zx1]; done)) ?_ hst rfl
                      go_simp
                      all_goals (skip)
                    · -- 24: t230 := Op.pick (t216) (t229) (const (bool false))
                      intro zx1 zx2 zx3 zx4 L V W hL hd hw hst u10 e10 p10 u23 e23 p23
                      obtain rfl : u10 = _ := p10
                      obtain rfl : u23 = _ := p23
                      refine ob_c (by first | rfl | (simp [wantE, dstOf, zx1]; done)) ?_ hst rfl
                      go_simp
                      all_goals (skip)
                  case en =>
                    intro V W hst u0 e0 p0 u1 e1 p1 u2 e2 p2 u3 e3 p3 u4 e4 p4 u5 e5 p5 u6 e6 p6 u7 e7 p7 u8 e8 p8 u9 e9 p9 u10 e10 p10 u11 e11 p11 u12 e12 p12 u13 e13 p13 u14 e14 p14 u15 e15 p15 u16 e16 p16 u17 e17 p17 u18 e18 p18 u19 e19 p19 u20 e20 p20 u21 e21 p21 u22 e22 p22 u23 e23 p23 u24 e24 p24
                    obtain rfl : u0 = _ := p0
                    obtain rfl : u1 = _ := p1
                    obtain rfl : u2 = _ := p2
                    obtain rfl : u3 = _ := p3
                    obtain rfl : u4 = _ := p4
                    obtain rfl : u5 = _ := p5
                    obtain rfl : u6 = _ := p6
                    obtain rfl : u7 = _ := p7
                    obtain rfl : u8 = _ := p8
                    obtain rfl : u9 = _ := p9
                    obtain rfl : u10 = _ := p10
                    obtain rfl : u11 = _ := p11
                    obtain rfl : u12 = _ := p12
                    obtain rfl : u13 = _ := p13
                    obtain rfl : u14 = _ := p14
                    obtain rfl : u15 = _ := p15
                    obtain rfl : u16 = _ := p16
                    obtain rfl : u17 = _ := p17
                    obtain rfl : u18 = _ := p18
                    obtain rfl : u19 = _ := p19
                    obtain rfl : u20 = _ := p20
                    obtain rfl : u21 = _ := p21
                    obtain rfl : u22 = _ := p22
                    obtain rfl : u23 = _ := p23
                    obtain rfl : u24 = _ := p24
                    simp only [EndAll, Act.put, List.getElem_toArray, List.getElem_cons_succ, List.getElem_cons_zero, List.setIfInBounds_toArray, List.set_cons_zero, List.set_cons_succ]
                    have h11 := hst.facts (fs' := [IsCells gxx (dkA (some ⟨gB, oB, none⟩) q X), (IsDk · (dkS (some ⟨gB, oB, none⟩) q X) X), (IsLists · (.slice wb NW wq) WW), IsCells g10 (dkA (some ⟨gC, oC, none⟩) q10 O), (IsDk · (dkS (some ⟨gC, oC, none⟩) q10 O) O), IsCells w.heap.size (dkA bd qd d), (IsDk · (dkS bd qd d) d), (IsBats · (.slice ab A aq) la)]) (fun P hP => by simp only [List.mem_cons, List.not_mem_nil, or_false] at hP ⊢; rcases hP with rfl | rfl | rfl | rfl | rfl | rfl | rfl | rfl <;> simp)
                    clear hst h10
                    go_wp2_with fail
                    go_roundw
                    case rel => exact ⟨i + 1, by omega, by go_num, h11⟩
                    case measure => simp [intOf]; omega
                · have hhii : ¬ (p : Int) + (k : Int) ≤ (i : Int) := by omega
                  refine wp_region_st [pVal ?c33c_0, pVal ?c33c_1, pVal (.bool false), pVal (.bool false), pVal ?c33c_4, pVal ?c33c_5, pVal ?c33c_6, pVal (.int .i64 ((p : Int) + (k : Int))), pVal (.bool false), pVal (.bool false), pVal (.bool false), pVal ?c33c_11, pVal ?c33c_12, pVal ?c33c_13, pVal ?c33c_14, pVal ?c33c_15, pVal ?c33c_16, pVal ?c33c_17, pVal ?c33c_18, pVal ?c33c_19, pVal ?c33c_20, pVal ?c33c_21, pVal ?c33c_22, pVal ?c33c_23, pVal (.bool false)] (osC []) 232 [0, 0, 3, 7, 15, 15, 15, 111, 255, 511, 1023, 2047, 4095, 2047, 16383, 32767, 65535, 2047, 133119, 2047, 919551, 1968127, 4065279, 8388607, 16777215] [[], [], [(1, 207), (0, 206)], [(2, 208)], [(3, 209)], [(3, 209)], [(3, 209)], [(3, 209), (6, 212), (5, 211)], [(3, 209), (7, 213), (4, 210)], [(8, 214), (3, 209)], [(9, 215)], [(10, 216)], [(10, 216), (11, 217)], [(10, 216)], [(10, 216), (13, 219), (12, 218)], [(10, 216), (14, 220)], [(10, 216), (15, 221)], [(10, 216)], [(10, 216), (17, 223)], [(10, 216)], [(10, 216), (19, 225), (18, 224)], [(10, 216), (20, 226)], [(10, 216), (21, 227)], [(10, 216), (22, 228), (16, 222)], [(23, 229), (10, 216)]] [(0, 206), (1, 207), (2, 208), (3, 209), (4, 210), (5, 211), (6, 212), (7, 213), (8, 214), (9, 215), (10, 216), (11, 217), (12, 218), (13, 219), (14, 220), (15, 221), (16, 222), (17, 223), (18, 224), (19, 225), (20, 226), (21, 227), (22, 228), (23, 229), (24, 230)] (by kernel_rfl) (by kernel_rfl) rfl rfl h10 osC0 osC1 ?ob ?en
                  case ob =>
                    refine ⟨?_, ?_, ?_, ?_, ?_, ?_, ?_, ?_, ?_, ?_, ?_, ?_, ?_, ?_, ?_, ?_, ?_, ?_, ?_, ?_, ?_, ?_, ?_, ?_, ?_, trivial⟩
                    · -- 0: t206 := Op.move (t25)
                      intro zx1 zx2 zx3 zx4 L V W hL hd hw hst 
                      refine ob_c rfl ?_ hst rfl
                      go_simp
                      try with_reducible rfl
                    · -- 1: t207 := Op.move (t1)
                      intro zx1 zx2 zx3 zx4 L V W hL hd hw hst 
                      refine ob_c rfl ?_ hst rfl
                      go_simp
                      try with_reducible rfl
                    · -- 2: t208 := Op.binOp BinOp.lss 3 (t206) (t207) 3
                      intro zx1 zx2 zx3 zx4 L V W hL hd hw hst u0 e0 p0 u1 e1 p1
                      obtain rfl : u0 = _ := p0
                      obtain rfl : u1 = _ := p1
                      refine ob_c (by first | rfl | (simp [wantE, dstOf, zx1]; done)) ?_ hst rfl
                      go_simp
                      all_goals (skip)
                    · -- 3: t209 := Op.move (t208)
                      intro zx1 zx2 zx3 zx4 L V W hL hd hw hst u2 e2 p2
                      obtain rfl : u2 = _ := p2
                      refine ob_c (by first | rfl | (simp [wantE, dstOf, zx1]; done)) ?_ hst rfl
                      go_simp
                      all_goals (skip)
                    · -- 4: t210 := Op.move (t25)
                      intro zx1 zx2 zx3 zx4 L V W hL hd hw hst u3 e3 p3
                      obtain rfl : u3 = _ := p3
                      refine ob_c (by first | rfl | (simp [wantE, dstOf, zx1]; done)) ?_ hst rfl
                      go_simp
                      try with_reducible rfl
                    · -- 5: t211 := Op.move (t1)
                      intro zx1 zx2 zx3 zx4 L V W hL hd hw hst u3 e3 p3
                      obtain rfl : u3 = _ := p3
                      refine ob_c (by first | rfl | (simp [wantE, dstOf, zx1]; done)) ?_ hst rfl
                      go_simp
                      try with_reducible rfl
                    · -- 6: t212 := Op.move (t2)
                      intro zx1 zx2 zx3 zx4 L V W hL hd hw hst u3 e3 p3
                      obtain rfl : u3 = _ := p3
                      refine ob_c (by first | rfl | (simp [wantE, dstOf, zx1]; done)) ?_ hst rfl
                      go_simp
                      try with_reducible rfl
                    · -- 7: t213 := Op.binOp BinOp.add 3 (t211) (t212) 3
                      intro zx1 zx2 zx3 zx4 L V W hL hd hw hst u5 e5 p5 u6 e6 p6 u3 e3 p3
                      obtain rfl : u5 = _ := p5
                      obtain rfl : u6 = _ := p6
                      obtain rfl : u3 = _ := p3
                      refine ob_c (by first | rfl | (simp [wantE, dstOf, zx1]; done)) ?_ hst rfl
                      go_simp
                      all_goals (skip)
                    · -- 8: t214 := Op.binOp BinOp.geq 3 (t210) (t213) 3
                      intro zx1 zx2 zx3 zx4 L V W hL hd hw hst u4 e4 p4 u7 e7 p7 u3 e3 p3
                      obtain rfl : u4 = _ := p4
                      obtain rfl : u7 = _ := p7
                      obtain rfl : u3 = _ := p3
                      refine ob_c (by first | rfl | (simp [wantE, dstOf, zx1]; done)) ?_ hst rfl
                      go_simp
                      all_goals (skip)
                    · -- 9: t215 := Op.pick (t209) (const (bool true)) (t214)
                      intro zx1 zx2 zx3 zx4 L V W hL hd hw hst u3 e3 p3 u8 e8 p8
                      obtain rfl : u3 = _ := p3
                      obtain rfl : u8 = _ := p8
                      refine ob_c (by first | rfl | (simp [wantE, dstOf, zx1]; done)) ?_ hst rfl
                      go_simp
                      all_goals (skip)
                    · -- 10: t216 := Op.move (t215)
                      intro zx1 zx2 zx3 zx4 L V W hL hd hw hst u9 e9 p9
                      obtain rfl : u9 = _ := p9
                      refine ob_c (by first | rfl | (simp [wantE, dstOf, zx1]; done)) ?_ hst rfl
                      go_simp
                      all_goals (skip)
                    · -- 11: t217 := Op.fieldAddr 24 (t11) 0
                      intro zx1 zx2 zx3 zx4 L V W hL hd hw hst u10 e10 p10
                      obtain rfl : u10 = _ := p10
                      refine ob_o ?_ hst ?_
                      · first | rfl | (simp [wantE, dstOf, zx1]; done)
                      · rfl
                    · -- 12: t218 := Op.load 22 (t217)
                      intro zx1 zx2 zx3 zx4 L V W hL hd hw hst u11 e11 p11 u10 e10 p10
                      obtain rfl : u11 = _ := p11
                      obtain rfl : u10 = _ := p10
                      refine ob_o ?_ hst ?_
                      · first | rfl | (simp [wantE, dstOf, zx1]; done)
                      · rfl
                    · -- 13: t219 := Op.move (t25)
                      intro zx1 zx2 zx3 zx4 L V W hL hd hw hst u10 e10 p10
                      obtain rfl : u10 = _ := p10
                      refine ob_o ?_ hst ?_
                      · first | rfl | (simp [wantE, dstOf, zx1]; done)
                      · rfl
                    · -- 14: t220 := Op.indexAddr 22 (t218) (t219)
                      intro zx1 zx2 zx3 zx4 L V W hL hd hw hst u12 e12 p12 u13 e13 p13 u10 e10 p10
                      obtain rfl : u12 = _ := p12
                      obtain rfl : u13 = _ := p13
                      obtain rfl : u10 = _ := p10
                      refine ob_o ?_ hst ?_
                      · first | rfl | (simp [wantE, dstOf, zx1]; done)
                      · rfl
                    · -- 15: t221 := Op.load 42 (t220)
                      intro zx1 zx2 zx3 zx4 L V W hL hd hw hst u14 e14 p14 u10 e10 p10
                      obtain rfl : u14 = _ := p14
                      obtain rfl : u10 = _ := p10
                      refine ob_o ?_ hst ?_
                      · first | rfl | (simp [wantE, dstOf, zx1]; done)
                      · rfl
                    · -- 16: t222 := Op.convert 42 9 (t221)
                      intro zx1 zx2 zx3 zx4 L V W hL hd hw hst u15 e15 p15 u10 e10 p10
                      obtain rfl : u15 = _ := p15
                      obtain rfl : u10 = _ := p10
                      refine ob_o ?_ hst ?_
                      · first | rfl | (simp [wantE, dstOf, zx1]; done)
                      · rfl
                    · -- 17: t223 := Op.fieldAddr 24 (t10) 0
                      intro zx1 zx2 zx3 zx4 L V W hL hd hw hst u10 e10 p10
                      obtain rfl : u10 = _ := p10
                      refine ob_o ?_ hst ?_
                      · first | rfl | (simp [wantE, dstOf, zx1]; done)
                      · rfl
                    · -- 18: t224 := Op.load 22 (t223)
                      intro zx1 zx2 zx3 zx4 L V W hL hd hw hst u17 e17 p17 u10 e10 p10
                      obtain rfl : u17 = _ := p17
                      obtain rfl : u10 = _ := p10
                      refine ob_o ?_ hst ?_
                      · first | rfl | (simp [wantE, dstOf, zx1]; done)
                      · rfl
                    · -- 19: t225 := Op.move (t25)
                      intro zx1 zx2 zx3 zx4 L V W hL hd hw hst u10 e10 p10
                      obtain rfl : u10 = _ := p10
                      refine ob_o ?_ hst ?_
                      · first | rfl | (simp [wantE, dstOf, zx1]; done)
                      · rfl
                    · -- 20: t226 := Op.indexAddr 22 (t224) (t225)
                      intro zx1 zx2 zx3 zx4 L V W hL hd hw hst u18 e18 p18 u19 e19 p19 u10 e10 p10
                      obtain rfl : u18 = _ := p18
                      obtain rfl : u19 = _ := p19
                      obtain rfl : u10 = _ := p10
                      refine ob_o ?_ hst ?_
                      · first | rfl | (simp [wantE, dstOf, zx1]; done)
                      · rfl
                    · -- 21: t227 := Op.load 42 (t226)
                      intro zx1 zx2 zx3 zx4 L V W hL hd hw hst u20 e20 p20 u10 e10 p10
                      obtain rfl : u20 = _ := p20
                      obtain rfl : u10 = _ := p10
                      refine ob_o ?_ hst ?_
                      · first | rfl | (simp [wantE, dstOf, zx1]; done)
                      · rfl
                    · -- 22: t228 := Op.convert 42 9 (t227)
                      intro zx1 zx2 zx3 zx4 L V W hL hd hw hst u21 e21 p21 u10 e10 p10
                      obtain rfl : u21 = _ := p21
                      obtain rfl : u10 = _ := p10
                      refine ob_o ?_ hst ?_
                      · first | rfl | (simp [wantE, dstOf, zx1]; done)
                      · rfl
                    · -- 23: t229 := Op.binOp BinOp.neq 9 (t222) (t228) 9
                      intro zx1 zx2 zx3 zx4 L V W hL hd hw hst u16 e16 p16 u22 e22 p22 u10 e10 p10
                      obtain rfl : u16 = _ := p16
                      obtain rfl : u22 = _ := p22
                      obtain rfl : u10 = _ := p10
                      refine ob_o ?_ hst ?_
                      · first | rfl | (simp [wantE, dstOf, zx1]; done)
                      · rfl
                    · -- 24: t230 := Op.pick (t216) (t229) (const (bool false))
                      intro zx1 zx2 zx3 zx4 L V W hL hd hw hst u10 e10 p10 u23 e23 p23
                      obtain rfl : u10 = _ := p10
                      obtain rfl : u23 = _ := p23
                      refine ob_c (by first | rfl | (simp [wantE, dstOf, zx1]; done)) ?_ hst rfl
                      go_simp
                      all_goals (skip)
                  case en =>
                    intro V W hst u0 e0 p0 u1 e1 p1 u2 e2 p2 u3 e3 p3 u4 e4 p4 u5 e5 p5 u6 e6 p6 u7 e7 p7 u8 e8 p8 u9 e9 p9 u10 e10 p10 u11 e11 p11 u12 e12 p12 u13 e13 p13 u14 e14 p14 u15 e15 p15 u16 e16 p16 u17 e17 p17 u18 e18 p18 u19 e19 p19 u20 e20 p20 u21 e21 p21 u22 e22 p22 u23 e23 p23 u24 e24 p24
                    obtain rfl : u0 = _ := p0
                    obtain rfl : u1 = _ := p1
                    obtain rfl : u2 = _ := p2
                    obtain rfl : u3 = _ := p3
                    obtain rfl : u4 = _ := p4
                    obtain rfl : u5 = _ := p5
                    obtain rfl : u6 = _ := p6
                    obtain rfl : u7 = _ := p7
                    obtain rfl : u8 = _ := p8
                    obtain rfl : u9 = _ := p9
                    obtain rfl : u10 = _ := p10
                    obtain rfl : u11 = _ := p11
                    obtain rfl : u12 = _ := p12
                    obtain rfl : u13 = _ := p13
                    obtain rfl : u14 = _ := p14
                    obtain rfl : u15 = _ := p15
                    obtain rfl : u16 = _ := p16
                    obtain rfl : u17 = _ := p17
                    obtain rfl : u18 = _ := p18
                    obtain rfl : u19 = _ := p19
                    obtain rfl : u20 = _ := p20
                    obtain rfl : u21 = _ := p21
                    obtain rfl : u22 = _ := p22
                    obtain rfl : u23 = _ := p23
                    obtain rfl : u24 = _ := p24
                    simp only [EndAll, Act.put, List.getElem_toArray, List.getElem_cons_succ, List.getElem_cons_zero, List.setIfInBounds_toArray, List.set_cons_zero, List.set_cons_succ]
                    have h11 := hst.facts (fs' := [IsCells gxx (dkA (some ⟨gB, oB, none⟩) q X), (IsDk · (dkS (some ⟨gB, oB, none⟩) q X) X), (IsLists · (.slice wb NW wq) WW), IsCells g10 (dkA (some ⟨gC, oC, none⟩) q10 O), (IsDk · (dkS (some ⟨gC, oC, none⟩) q10 O) O), IsCells w.heap.size (dkA bd qd d), (IsDk · (dkS bd qd d) d), (IsBats · (.slice ab A aq) la)]) (fun P hP => by simp only [List.mem_cons, List.not_mem_nil, or_false] at hP ⊢; rcases hP with rfl | rfl | rfl | rfl | rfl | rfl | rfl | rfl <;> simp)
                    clear hst h10
                    go_wp2_with fail
                    go_roundw
                    case rel => exact ⟨i + 1, by omega, by go_num, h11⟩
                    case measure => simp [intOf]; omega
            · have hili : ¬ (i : Int) < (S : Int) := by omega
              have hb := hst.below
              clear hst
              go_wp2_with fail
              go_ret
              exact ⟨rfl, hb⟩
end Go.Proofs.Ytnfgapdpnihicaa
