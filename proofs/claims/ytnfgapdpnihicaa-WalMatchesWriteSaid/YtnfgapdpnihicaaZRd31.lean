/- The walk over asofref31.Format. -/
import Derived.Test.YtnfgapdpnihicaaZRb31
import Derived.Test.YtnfgapdpnihicaaZGH
set_option linter.unusedVariables false
set_option linter.unusedSimpArgs false
namespace Go.Proofs.Ytnfgapdpnihicaa
open Go Go.RowKit
open Wl
theorem refWrite_p {w0 W : World} {os : List (Nat × Obj)} {fs : List (World → Prop)} (h : St w0 W os fs) {v bv : Value} {d D : Dk} {i x : Int} {b : List UInt8} (hok : d.Ok) (hc : d.write i b = (D, x)) (hv : IsDk (sm os W) v d) (hb : IsBytes W bv b) :
    Calls Try.prog 45 #[v, .int .i64 i, bv] W fun e w' => ∃ v, e = .returned v ∧ St w0 w' os ((pDkT D x).p v :: fs) := by
  have hx := refWrite_any (inL (keys os)) W h.ltS v d i bv b hok hv hb
  rw [hc] at hx
  refine hx.mono fun e w' ⟨v', he, hd, hb⟩ => ?_
  obtain ⟨bs, q, rfl⟩ := hd.shape
  exact ⟨_, he, (h.call hb).put ((pDkT D x).mono _) ⟨bs, q, rfl, hd⟩⟩

set_option maxRecDepth 8000 in
set_option maxHeartbeats 4000000 in
theorem refFormat_any (w : World) (v : Value) (d : Dk) (hv : IsDk w v d) (f m : Int) (hf : -9223372036854775808 ≤ f ∧ f ≤ 9223372036854775807) (hm : -9223372036854775808 ≤ m ∧ m ≤ 9223372036854775807) {D : Dk} {c : Int} (hc : d.format f m = (D, c)) :
    Calls Try.prog 20 #[v, .int .i64 f, .int .i64 m] w fun e w' => ∃ b q, e = .returned (.tuple #[dkS b q D, .int .i64 c]) ∧ IsDk w' (dkS b q D) D ∧ Below w.heap.size w w' := by
  obtain ⟨bd, qd, rfl⟩ := hv.shape
  unfold Dk.format at hc
  have h0 := (((St.start w).putOld (Mono.dk _ _) hv).boxC (dkA bd qd d) 24).alloc (.cells #[.slice none 0 0, .int .i64 0, .int .i64 0, .bool false] 24)
  simp only [al_size] at h0
  have HC := Lib.hid hc
  clear hv hc
  obtain ⟨ft, hft⟩ : ∃ b, d.fits f m = b := ⟨_, rfl⟩
  have HF := Lib.hid hft
  clear hft
  go_enter Try.func20, Try.ntmps20
  go_wp2_with (refine wpList_load_mid rfl 24 (.tmp 3) rfl w.heap.size 0 rfl [.slice bd d.sec.length qd, .int .i64 d.left, .int .i64 d.tear, .bool d.stopped] _ (h0.is 0 rfl : IsCells _ _ _).range Try.underlying24 rfl rfl ?_)
  refine (Calls.sV h0 (refFits_any _ _ d (h0.is 1 rfl) f m hf hm)).mono ?_
  rintro e w1 ⟨rfl, h1⟩
  rw [HF.out]
  clear h0
  generalize hg3 : w.heap.size = g3 at h1 ⊢
  generalize hg6 : g3 + 1 = g6 at h1 ⊢
  cases ft with
  | false =>
    have hr := HC.out
    rw [HF.out, if_pos rfl] at hr
    cases hr
    have h2 := h1.setRow (os1 := []) (cs' := #[.slice none 0 0, .int .i64 0, .int .i64 0, .bool false])
    go_wp2_with (refine wpList_store_row rfl 24 (.tmp 6) (.tmp 13) rfl g6 #[.slice none 0 0, .int .i64 0, .int .i64 0, .bool false] rfl rfl 24 _ (h1.at_ 0 rfl) disk_info rfl (one4 rfl _ _ _) ?_)
    try simp only [Exit.inBlock, Exit.then]
    exact ret_disk g6 (.slice none 0 0) 0 0 false rfl rfl (h2.at_ 0 rfl) rfl ⟨none, 0, rfl, dk_zero _, hg3 ▸ h2.below⟩
  | true =>
    have hr := HC.out
    rw [HF.out, if_neg (by decide)] at hr
    have hok := (Dk.fits_iff HF.out).1
    have HR := Lib.hid hr
    have HK := Lib.hid hok
    clear hr HC hok
    go_upto_region 3 with fail
    refine wp_region_st [pVal (dkS bd qd d), pVal ?c3_1, pBytes zeroSec, pDkT D c, pDk D, pVal (.int .i64 c), pAny, pVal ?c3_7] (osS 6 4 24 g6 (.cells #[.slice none 0 0, .int .i64 0, .int .i64 0, .bool false] 24 (0, 0)) [] []) 20 [0, 0, 0, 7, 15, 15, 63, 127] [[], [], [], [(2, 16), (1, 15), (0, 14)], [(3, 17)], [(3, 17)], [(4, 18)], [(5, 19)]] [(0, 14), (1, 15), (2, 16), (3, 17), (4, 18), (5, 19), (7, 7)] (by kernel_rfl) (by kernel_rfl) rfl rfl h1 osS0 (osS1 (by decide)) ?ob ?en
    case ob =>
      refine ⟨?_, ?_, ?_, ?_, ?_, ?_, ?_, ?_, trivial⟩
      · -- 0: t14 := Op.load 24 (t3)
        intro zx1 zx2 zx3 zx4 L V W hL hd hw hst 
        exact ob_c (by first | rfl | (simp [wantE, dstOf, zx1]; done)) (run_load_mid rfl rfl ((hst.base 0 rfl : IsCells _ _ _) |> Mono.cells _ _ _ _ (mask_is _ _) |>.range) Try.underlying24 rfl rfl) hst rfl
      · -- 1: t15 := Op.move (t1)
        intro zx1 zx2 zx3 zx4 L V W hL hd hw hst 
        refine ob_c rfl ?_ hst rfl
        go_simp
        try with_reducible rfl
      · -- 2: t16 := Op.call { callee := value (func 46), args := #[], argTypes := #[] }
        intro zx1 zx2 zx3 zx4 L V W hL hd hw hst 
        refine ob_call (by first | rfl | (simp [wantE, dstOf, zx1]; done)) ?_ (Calls.pB hst (refZeros_any _))
        go_simp
        try rfl
      · -- 3: t17 := Op.call { callee := value (func 45), args := #[t14, t15, t16], argTypes := #[24, 3, 42] }
        intro zx1 zx2 zx3 zx4 L V W hL hd hw hst u0 e0 p0 u1 e1 p1 u2 e2 p2
        obtain rfl : u0 = _ := p0
        obtain rfl : u1 = _ := p1
        obtain ⟨bz, qz, rfl, kz⟩ := p2
        refine ob_call (by first | rfl | (simp [wantE, dstOf, zx1]; done)) ?_ (refWrite_p hst (d := d) HK.out HR.out (hst.base 1 rfl) (kz.sub (mask_is _ _)))
        go_simp
        try rfl
      · -- 4: t18 := Op.extract (t17) 0
        intro zx1 zx2 zx3 zx4 L V W hL hd hw hst u3 e3 p3
        obtain ⟨ba, qa, rfl, ka⟩ := p3
        refine ob_v (dkS ba qa D) rfl ?_ hst (osS_keep (hw 6 rfl (by decide)) (by decide)) ⟨ba, qa, rfl, ka⟩
        go_simp
      · -- 5: t19 := Op.extract (t17) 1
        intro zx1 zx2 zx3 zx4 L V W hL hd hw hst u3 e3 p3
        obtain ⟨ba, qa, rfl, ka⟩ := p3
        refine ob_c rfl ?_ hst rfl
        go_simp
        try with_reducible rfl
      · -- 6: tNone := Op.store 24 (t6) (t18)
        intro zx1 zx2 zx3 zx4 L V W hL hd hw hst u4 e4 p4
        obtain ⟨bx3, qx3, rfl, kx⟩ := p4
        exact ob_set (k := 4) (g := g6) rfl rfl rfl rfl e4 rfl (by decide) hL rfl disk_info (one4 rfl _ _ _) hst
      · -- 7: t7 := Op.assign (t19)
        intro zx1 zx2 zx3 zx4 L V W hL hd hw hst u5 e5 p5
        obtain rfl : u5 = _ := p5
        refine ob_c rfl ?_ hst rfl
        go_simp
        try with_reducible rfl
    case en =>
      intro V W hst u0 e0 p0 u1 e1 p1 u2 e2 p2 u3 e3 p3 u4 e4 p4 u5 e5 p5 u7 e7 p7
      obtain rfl : u0 = _ := p0
      obtain rfl : u1 = _ := p1
      obtain ⟨bz, qz, rfl, kz⟩ := p2
      obtain ⟨ba, qa, rfl, ka⟩ := p3
      obtain ⟨bx3, qx3, rfl, kx⟩ := p4
      obtain rfl : u5 = _ := p5
      obtain rfl : u7 = _ := p7
      simp only [EndAll, Act.put, List.getElem_toArray, List.getElem_cons_succ, List.getElem_cons_zero, List.setIfInBounds_toArray, List.set_cons_zero, List.set_cons_succ]
      have h8a := hst.put (Mono.dk _ _) kx
      rw [osS_end e4] at h8a
      clear hst kx ka kz
      go_wp2_with fail
      try simp only [Exit.inBlock, Exit.then]
      exact ret_disk g6 (.slice bx3 D.sec.length qx3) D.left D.tear D.stopped rfl rfl (h8a.at_ 0 rfl) rfl ⟨bx3, qx3, rfl, h8a.is 0 rfl, hg3 ▸ h8a.below⟩
end Go.Proofs.Ytnfgapdpnihicaa
