/- The examples of chapter 13, which are true. -/
import Derived.Test.YtfpkibfofainaaaZAsr
import Derived.Test.YtfpkibfofainaaaZChk
set_option linter.unusedVariables false
set_option linter.unusedSimpArgs false
namespace Go.Proofs.Ytfpkibfofainaaa
open Go.RowKit

theorem cells4' {W : World} {g : Nat} {a b c d : Value} {t : TypeId} (h : W.heap[g]? = some (.cells #[a, b, c, d] t (0, 0))) :
    W.cell? ⟨g, 0, none⟩ = some a ∧ W.cell? ⟨g, 1, none⟩ = some b ∧ W.cell? ⟨g, 2, none⟩ = some c ∧ W.cell? ⟨g, 3, none⟩ = some d := by
  refine ⟨?_, ?_, ?_, ?_⟩ <;> rw [cell_of_row _ _ _ _ _ _ h] <;> rfl
theorem vals_flat : ∀ (l : List Vl) (i : Nat) (hi : i < l.length), ((l.flatMap Vl.cells).drop (i * 3)).take 3 = (l[i]).cells
  | [], _, h => by simp at h
  | v :: t, 0, _ => by simp [Vl.cells]
  | v :: t, i + 1, h => by
    have := vals_flat t i (by simpa using h)
    rw [List.flatMap_cons, show (i + 1) * 3 = (v.cells).length + i * 3 by simp [Vl.cells]; omega, ← List.drop_drop, List.drop_left]
    exact this
def pVals (l : List Vl) : Pd := ⟨fun v w => ∃ b q, v = .slice b l.length q ∧ IsVals w v l, fun _ _ _ h ⟨b, q, e, k⟩ => ⟨b, q, e, k.sub rdVal_up h⟩⟩
def pFc (f : Fc) : Pd := ⟨fun v w => ∃ b q, v = f.val (.slice b f.fields.length q) ∧ IsVals w (.slice b f.fields.length q) f.fields, fun _ _ _ h ⟨b, q, e, k⟩ => ⟨b, q, e, k.sub rdVal_up h⟩⟩
theorem St.newVals {w0 W : World} {os : List (Nat × Obj)} {F : List (World → Prop)} (h : St w0 W os F) (l : List Vl) (hl : l.length ≤ maxLen) (cs : Array Value) (hc : cs.toList = l.flatMap Vl.cells) (T : TypeId) :
    St w0 (W.alloc (.cells cs T)) os ((pVals l).p (.slice (some ⟨W.heap.size, 0, none⟩) l.length l.length) :: F) := by
  have hs : cs.size = l.length * 3 := by
    rw [← Array.length_toList, hc]
    clear hc hl h
    induction l with
    | nil => rfl
    | cons a t ih => rw [List.flatMap_cons, List.length_append, ih, List.length_cons]; simp [Vl.cells]; omega
  have h1 := h.alloc (.cells cs T)
  have hr := isRow_lit (sz := 3) (heap_alloc_new W (.cells cs T)) hs hl
  have hr2 := mask_row (S := inL (keys os)) hr (fun k hk => by
    have : W.heap.size = k := by cases hk; rfl
    subst this
    exact inL_no.2 fun hm => Nat.lt_irrefl _ (h.lt _ hm))
  refine (St.loose (os1 := []) h1).put ((pVals l).mono _) ⟨_, _, rfl, _, hr2, fun i hi => ?_⟩
  rw [hc]
  exact vals_flat l i hi
theorem St.assertP {w0 W W' : World} {os : List (Nat × Obj)} {F : List (World → Prop)} {v : Value} (h : St w0 W os F) (f : Fc) (b : Option Addr) (q : Nat) (hv : IsVals (sm os W) (.slice b f.fields.length q) f.fields)
    (hv' : v = f.val (.slice b f.fields.length q)) (hb : Below W.heap.size W W') : St w0 W' os ((pFc f).p v :: F) :=
  ((h.put (P := (pFc f).p v) ((pFc f).mono v) ⟨b, q, hv', hv⟩).call hb)

def exF (seq : Int) (table : ByteArray) (l : List Vl) : Fc := ⟨⟨#[97, 112, 112]⟩, seq, 1, 0, table, ⟨#[117, 49]⟩, 5, l⟩
def v3 : Vl := ⟨2, 3, ⟨#[]⟩⟩
def v0 : Vl := ⟨0, 0, ⟨#[]⟩⟩
def v4 : Vl := ⟨3, 3000000, ⟨#[]⟩⟩
def v5 : Vl := ⟨5, 0, ⟨#[115]⟩⟩
def exBack : Fc := ⟨⟨#[97, 112, 112]⟩, 6, 3, 1, ⟨#[]⟩, ⟨#[]⟩, 0, []⟩
def exSelf : Fc := ⟨⟨#[97, 112, 112]⟩, 6, 3, 6, ⟨#[]⟩, ⟨#[]⟩, 0, []⟩
theorem ex1 : chk [exTb] (exF 1 sOrders [v3, v5]) = 0 := by decide +kernel
theorem ex2 : chk [exTb] (exF 2 sOrders [v0, v0]) = 0 := by decide +kernel
theorem ex3 : chk [exTb] (exF 3 sOrders [v3]) = 5 := by decide +kernel
theorem ex4 : chk [exTb] (exF 4 sOrders [v4, v5]) = 5 := by decide +kernel
theorem ex5 : chk [exTb] (exF 5 ⟨#[112, 97, 121, 109, 101, 110, 116, 115]⟩ [v3, v5]) = 4 := by decide +kernel
theorem ex6 : chk [exTb] (exF 0 sOrders [v3, v5]) = 1 := by decide +kernel
theorem ex7 : chk [exTb] exBack = 0 := by decide +kernel
theorem ex8 : chk [exTb] exSelf = 1 := by decide +kernel
theorem check_at {w0 W : World} {os : List (Nat × Obj)} {F : List (World → Prop)} (h : St w0 W os F) (hm : HasMax w0) (b : Option Addr) (q : Nat) (u1 u2 u3 : Value) (ht : IsTbs W (.slice b 1 q) [exTb]) (f : Fc) (vb : Option Addr) (vq : Nat) (hv : IsVals W (.slice vb f.fields.length vq) f.fields) (r : Int) (hr : chk [exTb] f = r) :
    Calls Try.prog 21 #[.agg #[.slice b 1 q, u1, u2, u3], f.val (.slice vb f.fields.length vq)] W fun e w' => e = .returned (.int .i64 r) ∧ Below W.heap.size W w' := by
  have := check_any W b q [exTb] u1 u2 u3 f vb vq (hm.below h.below rfl) ht hv
  rw [hr] at this
  exact this

set_option maxRecDepth 8000 in
set_option maxHeartbeats 4000000 in
theorem example_any (w : World) (hm : HasMax w) : Calls Try.prog 13 #[] w fun e w' => e = .returned (.bool true) ∧ Below w.heap.size w w' := by
  go_enter Try.func13, Try.ntmps13
  go_wp2_with fail
  refine (orders_any _).mono ?_
  rintro e w1 ⟨b, q, rfl, ht, hb1⟩
  have h1 : St w w1 [] [(IsTbs · (.slice b 1 q) [exTb])] := ((St.start w).call hb1).put (Mono.seq rdTb_up _ _) (ht.sub rdTb_up (mask_nil _))
  have hs := h1.below.size
  clear hb1 ht
  go_upto_region 3 with fail
  have h2 := (((h1.alloc (.cells #[.slice b 1 q, .slice none 0 0, .slice none 0 0, .slice none 0 0] 45)).alloc (.cells #[.int .i64 2, .int .i64 3, .string ⟨#[]⟩] 57)).alloc (.cells #[.int .i64 3, .int .i64 3000000, .string ⟨#[]⟩] 57)).alloc (.cells #[.int .i64 5, .int .i64 0, .string ⟨#[115]⟩] 57)
  simp only [al_size] at h2
  generalize hg1 : w1.heap.size = g1 at *
  generalize hg2 : g1 + 1 = g2 at *
  generalize hg3 : g2 + 1 = g3 at *
  generalize hg4 : g3 + 1 = g4 at *
  generalize World.alloc (World.alloc _ _) _ = W2 at h2 ⊢
  clear h1 hg1 hg2 hg3 hg4
  have h3 : St w W2 [(g4, .cells #[.int .i64 5, .int .i64 0, .string ⟨#[115]⟩] 57 (0, 0)), (g3, .cells #[.int .i64 3, .int .i64 3000000, .string ⟨#[]⟩] 57 (0, 0)), (g2, .cells #[.int .i64 2, .int .i64 3, .string ⟨#[]⟩] 57 (0, 0)), (g1, .cells #[.slice b 1 q, .slice none 0 0, .slice none 0 0, .slice none 0 0] 45 (0, 0))] [(IsTbs · (.slice b 1 q) [exTb])] := h2
  clear h2
  refine wp_region_st [pVal (.agg #[.slice b 1 q, .slice none 0 0, .slice none 0 0, .slice none 0 0]), pVal (.agg #[.int .i64 2, .int .i64 3, .string ⟨#[]⟩]), pVal (.agg #[.int .i64 5, .int .i64 0, .string ⟨#[115]⟩]), pVals [v3, v5], pFc (exF 1 sOrders [v3, v5]), pVal (.int .i64 0), pVal ?c3_6, pVal ?c3_7, pVal (.agg #[.slice b 1 q, .slice none 0 0, .slice none 0 0, .slice none 0 0]), pVal (.agg #[.int .i64 0, .int .i64 0, .string ⟨#[]⟩]), pVal (.agg #[.int .i64 0, .int .i64 0, .string ⟨#[]⟩]), pVals [v0, v0], pFc (exF 2 sOrders [v0, v0]), pVal (.int .i64 0), pVal ?c3_14, pVal ?c3_15, pVal ?c3_16, pVal (.agg #[.slice b 1 q, .slice none 0 0, .slice none 0 0, .slice none 0 0]), pVal (.agg #[.int .i64 2, .int .i64 3, .string ⟨#[]⟩]), pVals [v3], pFc (exF 3 sOrders [v3]), pVal (.int .i64 5), pVal ?c3_22, pVal ?c3_23, pVal ?c3_24] (osC [(g4, .cells #[.int .i64 5, .int .i64 0, .string ⟨#[115]⟩] 57 (0, 0)), (g3, .cells #[.int .i64 3, .int .i64 3000000, .string ⟨#[]⟩] 57 (0, 0)), (g2, .cells #[.int .i64 2, .int .i64 3, .string ⟨#[]⟩] 57 (0, 0)), (g1, .cells #[.slice b 1 q, .slice none 0 0, .slice none 0 0, .slice none 0 0] 45 (0, 0))]) 88 [0, 0, 0, 6, 14, 31, 63, 127, 255, 255, 255, 1791, 3839, 8191, 16383, 32767, 65535, 131071, 131071, 393215, 917503, 2097151, 4194303, 8388607, 16777215] [[], [], [], [(2, 15), (1, 14)], [(3, 16)], [(4, 17), (0, 13)], [(5, 18)], [(6, 19)], [(7, 20)], [(7, 20)], [(7, 20)], [(7, 20), (10, 23), (9, 22)], [(7, 20), (11, 24)], [(7, 20), (12, 25), (8, 21)], [(7, 20), (13, 26)], [(14, 27), (7, 20)], [(15, 28)], [(16, 29)], [(16, 29)], [(16, 29), (18, 31)], [(16, 29), (19, 32)], [(16, 29), (20, 33), (17, 30)], [(16, 29), (21, 34)], [(22, 35), (16, 29)], [(23, 36)]] [(0, 13), (1, 14), (2, 15), (3, 16), (4, 17), (5, 18), (6, 19), (7, 20), (8, 21), (9, 22), (10, 23), (11, 24), (12, 25), (13, 26), (14, 27), (15, 28), (16, 29), (17, 30), (18, 31), (19, 32), (20, 33), (21, 34), (22, 35), (23, 36), (24, 5)] (by kernel_rfl) (by kernel_rfl) rfl rfl h3 osC0 osC1 ?ob ?en
  case ob =>
    refine ⟨?_, ?_, ?_, ?_, ?_, ?_, ?_, ?_, ?_, ?_, ?_, ?_, ?_, ?_, ?_, ?_, ?_, ?_, ?_, ?_, ?_, ?_, ?_, ?_, ?_, trivial⟩
    · -- 0: t13 := Op.load 45 (t1)
      intro zx1 zx2 zx3 zx4 L V W hL hd hw hst 
      exact ob_v _ (by first | rfl | (simp [wantE, dstOf, zx1]; done)) (run_load_own rfl rfl (hst.find (g := g1) (o := .cells #[.slice b 1 q, .slice none 0 0, .slice none 0 0, .slice none 0 0] 45 (0, 0)) (by simp [osC])) Try.underlying45 rfl cat_info) hst rfl rfl
    · -- 1: t14 := Op.load 57 (t2)
      intro zx1 zx2 zx3 zx4 L V W hL hd hw hst 
      exact ob_v _ (by first | rfl | (simp [wantE, dstOf, zx1]; done)) (run_load_own rfl rfl (hst.find (g := g2) (o := .cells #[.int .i64 2, .int .i64 3, .string ⟨#[]⟩] 57 (0, 0)) (by simp [osC])) Try.underlying57 rfl val_infoC) hst rfl rfl
    · -- 2: t15 := Op.load 57 (t4)
      intro zx1 zx2 zx3 zx4 L V W hL hd hw hst 
      exact ob_v _ (by first | rfl | (simp [wantE, dstOf, zx1]; done)) (run_load_own rfl rfl (hst.find (g := g4) (o := .cells #[.int .i64 5, .int .i64 0, .string ⟨#[115]⟩] 57 (0, 0)) (by simp [osC])) Try.underlying57 rfl val_infoC) hst rfl rfl
    · -- 3: t16 := Op.buildSlice 25 2 #[(0, t14), (1, t15)]
      intro zx1 zx2 zx3 zx4 L V W hL hd hw hst u1 e1 p1 u2 e2 p2
      obtain rfl : u1 = _ := p1
      obtain rfl : u2 = _ := p2
      refine ob_run (n := .value (.slice (some ⟨W.heap.size, 0, none⟩) 2 2)) (W' := W.alloc (.cells #[.int .i64 2, .int .i64 3, .string ⟨#[]⟩, .int .i64 5, .int .i64 0, .string ⟨#[115]⟩] 57)) (by first | rfl | (simp [wantE, dstOf, zx1]; done)) ?_ ?_
      · go_simp
        try rfl
      · exact St.newVals hst [v3, v5] (by decide) _ rfl 57
    · -- 4: t17 := Op.call { callee := value (func 35), args := #[const (int IntKind.i64 1), const (string { data := #[111, 114, 100, 101, 114, 115] }), t16], argTypes := #[3, 9, 25] }
      intro zx1 zx2 zx3 zx4 L V W hL hd hw hst u3 e3 p3
      obtain ⟨bs, qs, rfl, hv⟩ := p3
      refine ob_call (by first | rfl | (simp [wantE, dstOf, zx1]; done)) ?_ ((assert_any W 1 sOrders bs 2 qs).mono ?_)
      · go_simp
        try rfl
      · rintro e w' ⟨rfl, hb⟩
        exact ⟨_, rfl, St.assertP hst (exF 1 sOrders [v3, v5]) bs qs hv rfl hb⟩
    · -- 5: t18 := Op.call { callee := value (func 21), args := #[t13, t17], argTypes := #[45, 27] }
      intro zx1 zx2 zx3 zx4 L V W hL hd hw hst u0 e0 p0 u4 e4 p4
      obtain rfl : u0 = _ := p0
      obtain ⟨bf, qf, rfl, hf⟩ := p4
      refine ob_call (by first | rfl | (simp [wantE, dstOf, zx1]; done)) ?_ (Calls.pV hst (check_at hst hm b q (.slice none 0 0) (.slice none 0 0) (.slice none 0 0) ((hst.base 0 rfl).sub rdTb_up (mask_is _ _)) (exF 1 sOrders [v3, v5]) bf qf (hf.sub rdVal_up (mask_is _ _)) 0 ex1))
      · go_simp
        try rfl
    · -- 6: t19 := Op.binOp BinOp.eql 31 (t18) (const (int IntKind.i64 0)) 31
      intro zx1 zx2 zx3 zx4 L V W hL hd hw hst u5 e5 p5
      obtain rfl : u5 = _ := p5
      refine ob_c rfl ?_ hst rfl
      go_simp
      try with_reducible rfl
    · -- 7: t20 := Op.move (t19)
      intro zx1 zx2 zx3 zx4 L V W hL hd hw hst u6 e6 p6
      obtain rfl : u6 = _ := p6
      refine ob_c rfl ?_ hst rfl
      go_simp
      try with_reducible rfl
    · -- 8: t21 := Op.load 45 (t1)
      intro zx1 zx2 zx3 zx4 L V W hL hd hw hst u7 e7 p7
      obtain rfl : u7 = _ := p7
      exact ob_v _ (by first | rfl | (simp [wantE, dstOf, zx1]; done)) (run_load_own rfl rfl (hst.find (g := g1) (o := .cells #[.slice b 1 q, .slice none 0 0, .slice none 0 0, .slice none 0 0] 45 (0, 0)) (by simp [osC])) Try.underlying45 rfl cat_info) hst rfl rfl
    · -- 9: t22 := Op.build 57 #[]
      intro zx1 zx2 zx3 zx4 L V W hL hd hw hst u7 e7 p7
      obtain rfl : u7 = _ := p7
      refine ob_c (by first | rfl | (simp [wantE, dstOf, zx1]; done)) ?_ hst rfl
      go_simp
      try with_reducible rfl
    · -- 10: t23 := Op.build 57 #[]
      intro zx1 zx2 zx3 zx4 L V W hL hd hw hst u7 e7 p7
      obtain rfl : u7 = _ := p7
      refine ob_c (by first | rfl | (simp [wantE, dstOf, zx1]; done)) ?_ hst rfl
      go_simp
      try with_reducible rfl
    · -- 11: t24 := Op.buildSlice 25 2 #[(0, t22), (1, t23)]
      intro zx1 zx2 zx3 zx4 L V W hL hd hw hst u9 e9 p9 u10 e10 p10 u7 e7 p7
      obtain rfl : u9 = _ := p9
      obtain rfl : u10 = _ := p10
      obtain rfl : u7 = _ := p7
      refine ob_run (n := .value (.slice (some ⟨W.heap.size, 0, none⟩) 2 2)) (W' := W.alloc (.cells #[.int .i64 0, .int .i64 0, .string ⟨#[]⟩, .int .i64 0, .int .i64 0, .string ⟨#[]⟩] 57)) (by first | rfl | (simp [wantE, dstOf, zx1]; done)) ?_ ?_
      · go_simp
        try rfl
      · exact St.newVals hst [v0, v0] (by decide) _ rfl 57
    · -- 12: t25 := Op.call { callee := value (func 35), args := #[const (int IntKind.i64 2), const (string { data := #[111, 114, 100, 101, 114, 115] }), t24], argTypes := #[3, 9, 25] }
      intro zx1 zx2 zx3 zx4 L V W hL hd hw hst u11 e11 p11 u7 e7 p7
      obtain ⟨bs, qs, rfl, hv⟩ := p11
      obtain rfl : u7 = _ := p7
      refine ob_call (by first | rfl | (simp [wantE, dstOf, zx1]; done)) ?_ ((assert_any W 2 sOrders bs 2 qs).mono ?_)
      · go_simp
        try rfl
      · rintro e w' ⟨rfl, hb⟩
        exact ⟨_, rfl, St.assertP hst (exF 2 sOrders [v0, v0]) bs qs hv rfl hb⟩
    · -- 13: t26 := Op.call { callee := value (func 21), args := #[t21, t25], argTypes := #[45, 27] }
      intro zx1 zx2 zx3 zx4 L V W hL hd hw hst u8 e8 p8 u12 e12 p12 u7 e7 p7
      obtain rfl : u8 = _ := p8
      obtain ⟨bf, qf, rfl, hf⟩ := p12
      obtain rfl : u7 = _ := p7
      refine ob_call (by first | rfl | (simp [wantE, dstOf, zx1]; done)) ?_ (Calls.pV hst (check_at hst hm b q (.slice none 0 0) (.slice none 0 0) (.slice none 0 0) ((hst.base 0 rfl).sub rdTb_up (mask_is _ _)) (exF 2 sOrders [v0, v0]) bf qf (hf.sub rdVal_up (mask_is _ _)) 0 ex2))
      · go_simp
        try rfl
    · -- 14: t27 := Op.binOp BinOp.eql 31 (t26) (const (int IntKind.i64 0)) 31
      intro zx1 zx2 zx3 zx4 L V W hL hd hw hst u13 e13 p13 u7 e7 p7
      obtain rfl : u13 = _ := p13
      obtain rfl : u7 = _ := p7
      refine ob_c (by first | rfl | (simp [wantE, dstOf, zx1]; done)) ?_ hst rfl
      go_simp
      try with_reducible rfl
    · -- 15: t28 := Op.pick (t20) (t27) (const (bool false))
      intro zx1 zx2 zx3 zx4 L V W hL hd hw hst u7 e7 p7 u14 e14 p14
      obtain rfl : u7 = _ := p7
      obtain rfl : u14 = _ := p14
      refine ob_c rfl ?_ hst rfl
      go_simp
      try with_reducible rfl
    · -- 16: t29 := Op.move (t28)
      intro zx1 zx2 zx3 zx4 L V W hL hd hw hst u15 e15 p15
      obtain rfl : u15 = _ := p15
      refine ob_c rfl ?_ hst rfl
      go_simp
      try with_reducible rfl
    · -- 17: t30 := Op.load 45 (t1)
      intro zx1 zx2 zx3 zx4 L V W hL hd hw hst u16 e16 p16
      obtain rfl : u16 = _ := p16
      exact ob_v _ (by first | rfl | (simp [wantE, dstOf, zx1]; done)) (run_load_own rfl rfl (hst.find (g := g1) (o := .cells #[.slice b 1 q, .slice none 0 0, .slice none 0 0, .slice none 0 0] 45 (0, 0)) (by simp [osC])) Try.underlying45 rfl cat_info) hst rfl rfl
    · -- 18: t31 := Op.load 57 (t2)
      intro zx1 zx2 zx3 zx4 L V W hL hd hw hst u16 e16 p16
      obtain rfl : u16 = _ := p16
      exact ob_v _ (by first | rfl | (simp [wantE, dstOf, zx1]; done)) (run_load_own rfl rfl (hst.find (g := g2) (o := .cells #[.int .i64 2, .int .i64 3, .string ⟨#[]⟩] 57 (0, 0)) (by simp [osC])) Try.underlying57 rfl val_infoC) hst rfl rfl
    · -- 19: t32 := Op.buildSlice 25 1 #[(0, t31)]
      intro zx1 zx2 zx3 zx4 L V W hL hd hw hst u18 e18 p18 u16 e16 p16
      obtain rfl : u18 = _ := p18
      obtain rfl : u16 = _ := p16
      refine ob_run (n := .value (.slice (some ⟨W.heap.size, 0, none⟩) 1 1)) (W' := W.alloc (.cells #[.int .i64 2, .int .i64 3, .string ⟨#[]⟩] 57)) (by first | rfl | (simp [wantE, dstOf, zx1]; done)) ?_ ?_
      · go_simp
        try rfl
      · exact St.newVals hst [v3] (by decide) _ rfl 57
    · -- 20: t33 := Op.call { callee := value (func 35), args := #[const (int IntKind.i64 3), const (string { data := #[111, 114, 100, 101, 114, 115] }), t32], argTypes := #[3, 9, 25] }
      intro zx1 zx2 zx3 zx4 L V W hL hd hw hst u19 e19 p19 u16 e16 p16
      obtain ⟨bs, qs, rfl, hv⟩ := p19
      obtain rfl : u16 = _ := p16
      refine ob_call (by first | rfl | (simp [wantE, dstOf, zx1]; done)) ?_ ((assert_any W 3 sOrders bs 1 qs).mono ?_)
      · go_simp
        try rfl
      · rintro e w' ⟨rfl, hb⟩
        exact ⟨_, rfl, St.assertP hst (exF 3 sOrders [v3]) bs qs hv rfl hb⟩
    · -- 21: t34 := Op.call { callee := value (func 21), args := #[t30, t33], argTypes := #[45, 27] }
      intro zx1 zx2 zx3 zx4 L V W hL hd hw hst u17 e17 p17 u20 e20 p20 u16 e16 p16
      obtain rfl : u17 = _ := p17
      obtain ⟨bf, qf, rfl, hf⟩ := p20
      obtain rfl : u16 = _ := p16
      refine ob_call (by first | rfl | (simp [wantE, dstOf, zx1]; done)) ?_ (Calls.pV hst (check_at hst hm b q (.slice none 0 0) (.slice none 0 0) (.slice none 0 0) ((hst.base 0 rfl).sub rdTb_up (mask_is _ _)) (exF 3 sOrders [v3]) bf qf (hf.sub rdVal_up (mask_is _ _)) 5 ex3))
      · go_simp
        try rfl
    · -- 22: t35 := Op.binOp BinOp.eql 31 (t34) (const (int IntKind.i64 5)) 31
      intro zx1 zx2 zx3 zx4 L V W hL hd hw hst u21 e21 p21 u16 e16 p16
      obtain rfl : u21 = _ := p21
      obtain rfl : u16 = _ := p16
      refine ob_c (by first | rfl | (simp [wantE, dstOf, zx1]; done)) ?_ hst rfl
      go_simp
      try with_reducible rfl
    · -- 23: t36 := Op.pick (t29) (t35) (const (bool false))
      intro zx1 zx2 zx3 zx4 L V W hL hd hw hst u16 e16 p16 u22 e22 p22
      obtain rfl : u16 = _ := p16
      obtain rfl : u22 = _ := p22
      refine ob_c rfl ?_ hst rfl
      go_simp
      try with_reducible rfl
    · -- 24: t5 := Op.assign (t36)
      intro zx1 zx2 zx3 zx4 L V W hL hd hw hst u23 e23 p23
      obtain rfl : u23 = _ := p23
      refine ob_c rfl ?_ hst rfl
      go_simp
      try with_reducible rfl
  case en =>
    intro V W hst u0 e0 p0 u1 e1 p1 u2 e2 p2 u3 e3 p3 u4 e4 p4 u5 e5 p5 u6 e6 p6 u7 e7 p7 u8 e8 p8 u9 e9 p9 u10 e10 p10 u11 e11 p11 u12 e12 p12 u13 e13 p13 u14 e14 p14 u15 e15 p15 u16 e16 p16 u17 e17 p17 u18 e18 p18 u19 e19 p19 u20 e20 p20 u21 e21 p21 u22 e22 p22 u23 e23 p23 u24 e24 p24
    obtain rfl : u0 = _ := p0
    obtain rfl : u1 = _ := p1
    obtain rfl : u2 = _ := p2
    obtain ⟨bs, qs, rfl, hv⟩ := p3
    obtain ⟨bf, qf, rfl, hf⟩ := p4
    obtain rfl : u5 = _ := p5
    obtain rfl : u6 = _ := p6
    obtain rfl : u7 = _ := p7
    obtain rfl : u8 = _ := p8
    obtain rfl : u9 = _ := p9
    obtain rfl : u10 = _ := p10
    obtain ⟨bs, qs, rfl, hv⟩ := p11
    obtain ⟨bf, qf, rfl, hf⟩ := p12
    obtain rfl : u13 = _ := p13
    obtain rfl : u14 = _ := p14
    obtain rfl : u15 = _ := p15
    obtain rfl : u16 = _ := p16
    obtain rfl : u17 = _ := p17
    obtain rfl : u18 = _ := p18
    obtain ⟨bs, qs, rfl, hv⟩ := p19
    obtain ⟨bf, qf, rfl, hf⟩ := p20
    obtain rfl : u21 = _ := p21
    obtain rfl : u22 = _ := p22
    obtain rfl : u23 = _ := p23
    obtain rfl : u24 = _ := p24
    simp only [EndAll, Act.put, List.getElem_toArray, List.getElem_cons_succ, List.getElem_cons_zero, List.setIfInBounds_toArray, List.set_cons_zero, List.set_cons_succ]
    rw [show osC [(g4, .cells #[.int .i64 5, .int .i64 0, .string ⟨#[115]⟩] 57 (0, 0)), (g3, .cells #[.int .i64 3, .int .i64 3000000, .string ⟨#[]⟩] 57 (0, 0)), (g2, .cells #[.int .i64 2, .int .i64 3, .string ⟨#[]⟩] 57 (0, 0)), (g1, .cells #[.slice b 1 q, .slice none 0 0, .slice none 0 0, .slice none 0 0] 45 (0, 0))] (fun _ => true) V = [(g4, .cells #[.int .i64 5, .int .i64 0, .string ⟨#[115]⟩] 57 (0, 0)), (g3, .cells #[.int .i64 3, .int .i64 3000000, .string ⟨#[]⟩] 57 (0, 0)), (g2, .cells #[.int .i64 2, .int .i64 3, .string ⟨#[]⟩] 57 (0, 0)), (g1, .cells #[.slice b 1 q, .slice none 0 0, .slice none 0 0, .slice none 0 0] 45 (0, 0))] from rfl] at hst
    clear e0 e1 e2 e3 e4 e5 e6 e7 e8 e9 e10 e11 e12 e13 e14 e15 e16 e17 e18 e19 e20 e21 e22 e23 e24 h3
    have h4 := hst
    clear hst
    go_upto_region 4 with fail
    refine wp_region_st [pVal (.agg #[.slice b 1 q, .slice none 0 0, .slice none 0 0, .slice none 0 0]), pVal (.agg #[.int .i64 3, .int .i64 3000000, .string ⟨#[]⟩]), pVal (.agg #[.int .i64 5, .int .i64 0, .string ⟨#[115]⟩]), pVals [v4, v5], pFc (exF 4 sOrders [v4, v5]), pVal (.int .i64 5), pVal ?c4_6, pVal ?c4_7, pVal (.agg #[.slice b 1 q, .slice none 0 0, .slice none 0 0, .slice none 0 0]), pVal (.agg #[.int .i64 2, .int .i64 3, .string ⟨#[]⟩]), pVal (.agg #[.int .i64 5, .int .i64 0, .string ⟨#[115]⟩]), pVals [v3, v5], pFc (exF 5 ⟨#[112, 97, 121, 109, 101, 110, 116, 115]⟩ [v3, v5]), pVal (.int .i64 4), pVal ?c4_14, pVal ?c4_15, pVal ?c4_16, pVal (.agg #[.slice b 1 q, .slice none 0 0, .slice none 0 0, .slice none 0 0]), pVal (.agg #[.int .i64 2, .int .i64 3, .string ⟨#[]⟩]), pVal (.agg #[.int .i64 5, .int .i64 0, .string ⟨#[115]⟩]), pVals [v3, v5], pFc (exF 0 sOrders [v3, v5]), pVal (.int .i64 1), pVal ?c4_23, pVal ?c4_24, pVal ?c4_25] (osC [(g4, .cells #[.int .i64 5, .int .i64 0, .string ⟨#[115]⟩] 57 (0, 0)), (g3, .cells #[.int .i64 3, .int .i64 3000000, .string ⟨#[]⟩] 57 (0, 0)), (g2, .cells #[.int .i64 2, .int .i64 3, .string ⟨#[]⟩] 57 (0, 0)), (g1, .cells #[.slice b 1 q, .slice none 0 0, .slice none 0 0, .slice none 0 0] 45 (0, 0))]) 88 [0, 0, 0, 6, 14, 31, 63, 127, 255, 255, 255, 1791, 3839, 8191, 16383, 32767, 65535, 131071, 131071, 131071, 917503, 1966079, 4194303, 8388607, 16777215, 33554431] [[], [], [], [(2, 39), (1, 38)], [(3, 40)], [(4, 41), (0, 37)], [(5, 42)], [(6, 43)], [(7, 44)], [(7, 44)], [(7, 44)], [(7, 44), (10, 47), (9, 46)], [(7, 44), (11, 48)], [(7, 44), (12, 49), (8, 45)], [(7, 44), (13, 50)], [(14, 51), (7, 44)], [(15, 52)], [(16, 53)], [(16, 53)], [(16, 53)], [(16, 53), (19, 56), (18, 55)], [(16, 53), (20, 57)], [(16, 53), (21, 58), (17, 54)], [(16, 53), (22, 59)], [(23, 60), (16, 53)], [(24, 61)]] [(0, 37), (1, 38), (2, 39), (3, 40), (4, 41), (5, 42), (6, 43), (7, 44), (8, 45), (9, 46), (10, 47), (11, 48), (12, 49), (13, 50), (14, 51), (15, 52), (16, 53), (17, 54), (18, 55), (19, 56), (20, 57), (21, 58), (22, 59), (23, 60), (24, 61), (25, 6)] (by kernel_rfl) (by kernel_rfl) rfl rfl h4 osC0 osC1 ?ob ?en
    case ob =>
      refine ⟨?_, ?_, ?_, ?_, ?_, ?_, ?_, ?_, ?_, ?_, ?_, ?_, ?_, ?_, ?_, ?_, ?_, ?_, ?_, ?_, ?_, ?_, ?_, ?_, ?_, ?_, trivial⟩
      · -- 0: t37 := Op.load 45 (t1)
        intro zx1 zx2 zx3 zx4 L V W hL hd hw hst 
        exact ob_v _ (by first | rfl | (simp [wantE, dstOf, zx1]; done)) (run_load_own rfl rfl (hst.find (g := g1) (o := .cells #[.slice b 1 q, .slice none 0 0, .slice none 0 0, .slice none 0 0] 45 (0, 0)) (by simp [osC])) Try.underlying45 rfl cat_info) hst rfl rfl
      · -- 1: t38 := Op.load 57 (t3)
        intro zx1 zx2 zx3 zx4 L V W hL hd hw hst 
        exact ob_v _ (by first | rfl | (simp [wantE, dstOf, zx1]; done)) (run_load_own rfl rfl (hst.find (g := g3) (o := .cells #[.int .i64 3, .int .i64 3000000, .string ⟨#[]⟩] 57 (0, 0)) (by simp [osC])) Try.underlying57 rfl val_infoC) hst rfl rfl
      · -- 2: t39 := Op.load 57 (t4)
        intro zx1 zx2 zx3 zx4 L V W hL hd hw hst 
        exact ob_v _ (by first | rfl | (simp [wantE, dstOf, zx1]; done)) (run_load_own rfl rfl (hst.find (g := g4) (o := .cells #[.int .i64 5, .int .i64 0, .string ⟨#[115]⟩] 57 (0, 0)) (by simp [osC])) Try.underlying57 rfl val_infoC) hst rfl rfl
      · -- 3: t40 := Op.buildSlice 25 2 #[(0, t38), (1, t39)]
        intro zx1 zx2 zx3 zx4 L V W hL hd hw hst u1 e1 p1 u2 e2 p2
        obtain rfl : u1 = _ := p1
        obtain rfl : u2 = _ := p2
        refine ob_run (n := .value (.slice (some ⟨W.heap.size, 0, none⟩) 2 2)) (W' := W.alloc (.cells #[.int .i64 3, .int .i64 3000000, .string ⟨#[]⟩, .int .i64 5, .int .i64 0, .string ⟨#[115]⟩] 57)) (by first | rfl | (simp [wantE, dstOf, zx1]; done)) ?_ ?_
        · go_simp
          try rfl
        · exact St.newVals hst [v4, v5] (by decide) _ rfl 57
      · -- 4: t41 := Op.call { callee := value (func 35), args := #[const (int IntKind.i64 4), const (string { data := #[111, 114, 100, 101, 114, 115] }), t40], argTypes := #[3, 9, 25] }
        intro zx1 zx2 zx3 zx4 L V W hL hd hw hst u3 e3 p3
        obtain ⟨bs, qs, rfl, hv⟩ := p3
        refine ob_call (by first | rfl | (simp [wantE, dstOf, zx1]; done)) ?_ ((assert_any W 4 sOrders bs 2 qs).mono ?_)
        · go_simp
          try rfl
        · rintro e w' ⟨rfl, hb⟩
          exact ⟨_, rfl, St.assertP hst (exF 4 sOrders [v4, v5]) bs qs hv rfl hb⟩
      · -- 5: t42 := Op.call { callee := value (func 21), args := #[t37, t41], argTypes := #[45, 27] }
        intro zx1 zx2 zx3 zx4 L V W hL hd hw hst u0 e0 p0 u4 e4 p4
        obtain rfl : u0 = _ := p0
        obtain ⟨bf, qf, rfl, hf⟩ := p4
        refine ob_call (by first | rfl | (simp [wantE, dstOf, zx1]; done)) ?_ (Calls.pV hst (check_at hst hm b q (.slice none 0 0) (.slice none 0 0) (.slice none 0 0) ((hst.base 0 rfl).sub rdTb_up (mask_is _ _)) (exF 4 sOrders [v4, v5]) bf qf (hf.sub rdVal_up (mask_is _ _)) 5 ex4))
        · go_simp
          try rfl
      · -- 6: t43 := Op.binOp BinOp.eql 31 (t42) (const (int IntKind.i64 5)) 31
        intro zx1 zx2 zx3 zx4 L V W hL hd hw hst u5 e5 p5
        obtain rfl : u5 = _ := p5
        refine ob_c rfl ?_ hst rfl
        go_simp
        try with_reducible rfl
      · -- 7: t44 := Op.move (t43)
        intro zx1 zx2 zx3 zx4 L V W hL hd hw hst u6 e6 p6
        obtain rfl : u6 = _ := p6
        refine ob_c rfl ?_ hst rfl
        go_simp
        try with_reducible rfl
      · -- 8: t45 := Op.load 45 (t1)
        intro zx1 zx2 zx3 zx4 L V W hL hd hw hst u7 e7 p7
        obtain rfl : u7 = _ := p7
        exact ob_v _ (by first | rfl | (simp [wantE, dstOf, zx1]; done)) (run_load_own rfl rfl (hst.find (g := g1) (o := .cells #[.slice b 1 q, .slice none 0 0, .slice none 0 0, .slice none 0 0] 45 (0, 0)) (by simp [osC])) Try.underlying45 rfl cat_info) hst rfl rfl
      · -- 9: t46 := Op.load 57 (t2)
        intro zx1 zx2 zx3 zx4 L V W hL hd hw hst u7 e7 p7
        obtain rfl : u7 = _ := p7
        exact ob_v _ (by first | rfl | (simp [wantE, dstOf, zx1]; done)) (run_load_own rfl rfl (hst.find (g := g2) (o := .cells #[.int .i64 2, .int .i64 3, .string ⟨#[]⟩] 57 (0, 0)) (by simp [osC])) Try.underlying57 rfl val_infoC) hst rfl rfl
      · -- 10: t47 := Op.load 57 (t4)
        intro zx1 zx2 zx3 zx4 L V W hL hd hw hst u7 e7 p7
        obtain rfl : u7 = _ := p7
        exact ob_v _ (by first | rfl | (simp [wantE, dstOf, zx1]; done)) (run_load_own rfl rfl (hst.find (g := g4) (o := .cells #[.int .i64 5, .int .i64 0, .string ⟨#[115]⟩] 57 (0, 0)) (by simp [osC])) Try.underlying57 rfl val_infoC) hst rfl rfl
      · -- 11: t48 := Op.buildSlice 25 2 #[(0, t46), (1, t47)]
        intro zx1 zx2 zx3 zx4 L V W hL hd hw hst u9 e9 p9 u10 e10 p10 u7 e7 p7
        obtain rfl : u9 = _ := p9
        obtain rfl : u10 = _ := p10
        obtain rfl : u7 = _ := p7
        refine ob_run (n := .value (.slice (some ⟨W.heap.size, 0, none⟩) 2 2)) (W' := W.alloc (.cells #[.int .i64 2, .int .i64 3, .string ⟨#[]⟩, .int .i64 5, .int .i64 0, .string ⟨#[115]⟩] 57)) (by first | rfl | (simp [wantE, dstOf, zx1]; done)) ?_ ?_
        · go_simp
          try rfl
        · exact St.newVals hst [v3, v5] (by decide) _ rfl 57
      · -- 12: t49 := Op.call { callee := value (func 35), args := #[const (int IntKind.i64 5), const (string { data := #[112, 97, 121, 109, 101, 110, 116, 115] }), t48], argTypes := #[3, 9, 25] }
        intro zx1 zx2 zx3 zx4 L V W hL hd hw hst u11 e11 p11 u7 e7 p7
        obtain ⟨bs, qs, rfl, hv⟩ := p11
        obtain rfl : u7 = _ := p7
        refine ob_call (by first | rfl | (simp [wantE, dstOf, zx1]; done)) ?_ ((assert_any W 5 ⟨#[112, 97, 121, 109, 101, 110, 116, 115]⟩ bs 2 qs).mono ?_)
        · go_simp
          try rfl
        · rintro e w' ⟨rfl, hb⟩
          exact ⟨_, rfl, St.assertP hst (exF 5 ⟨#[112, 97, 121, 109, 101, 110, 116, 115]⟩ [v3, v5]) bs qs hv rfl hb⟩
      · -- 13: t50 := Op.call { callee := value (func 21), args := #[t45, t49], argTypes := #[45, 27] }
        intro zx1 zx2 zx3 zx4 L V W hL hd hw hst u8 e8 p8 u12 e12 p12 u7 e7 p7
        obtain rfl : u8 = _ := p8
        obtain ⟨bf, qf, rfl, hf⟩ := p12
        obtain rfl : u7 = _ := p7
        refine ob_call (by first | rfl | (simp [wantE, dstOf, zx1]; done)) ?_ (Calls.pV hst (check_at hst hm b q (.slice none 0 0) (.slice none 0 0) (.slice none 0 0) ((hst.base 0 rfl).sub rdTb_up (mask_is _ _)) (exF 5 ⟨#[112, 97, 121, 109, 101, 110, 116, 115]⟩ [v3, v5]) bf qf (hf.sub rdVal_up (mask_is _ _)) 4 ex5))
        · go_simp
          try rfl
      · -- 14: t51 := Op.binOp BinOp.eql 31 (t50) (const (int IntKind.i64 4)) 31
        intro zx1 zx2 zx3 zx4 L V W hL hd hw hst u13 e13 p13 u7 e7 p7
        obtain rfl : u13 = _ := p13
        obtain rfl : u7 = _ := p7
        refine ob_c (by first | rfl | (simp [wantE, dstOf, zx1]; done)) ?_ hst rfl
        go_simp
        try with_reducible rfl
      · -- 15: t52 := Op.pick (t44) (t51) (const (bool false))
        intro zx1 zx2 zx3 zx4 L V W hL hd hw hst u7 e7 p7 u14 e14 p14
        obtain rfl : u7 = _ := p7
        obtain rfl : u14 = _ := p14
        refine ob_c rfl ?_ hst rfl
        go_simp
        try with_reducible rfl
      · -- 16: t53 := Op.move (t52)
        intro zx1 zx2 zx3 zx4 L V W hL hd hw hst u15 e15 p15
        obtain rfl : u15 = _ := p15
        refine ob_c rfl ?_ hst rfl
        go_simp
        try with_reducible rfl
      · -- 17: t54 := Op.load 45 (t1)
        intro zx1 zx2 zx3 zx4 L V W hL hd hw hst u16 e16 p16
        obtain rfl : u16 = _ := p16
        exact ob_v _ (by first | rfl | (simp [wantE, dstOf, zx1]; done)) (run_load_own rfl rfl (hst.find (g := g1) (o := .cells #[.slice b 1 q, .slice none 0 0, .slice none 0 0, .slice none 0 0] 45 (0, 0)) (by simp [osC])) Try.underlying45 rfl cat_info) hst rfl rfl
      · -- 18: t55 := Op.load 57 (t2)
        intro zx1 zx2 zx3 zx4 L V W hL hd hw hst u16 e16 p16
        obtain rfl : u16 = _ := p16
        exact ob_v _ (by first | rfl | (simp [wantE, dstOf, zx1]; done)) (run_load_own rfl rfl (hst.find (g := g2) (o := .cells #[.int .i64 2, .int .i64 3, .string ⟨#[]⟩] 57 (0, 0)) (by simp [osC])) Try.underlying57 rfl val_infoC) hst rfl rfl
      · -- 19: t56 := Op.load 57 (t4)
        intro zx1 zx2 zx3 zx4 L V W hL hd hw hst u16 e16 p16
        obtain rfl : u16 = _ := p16
        exact ob_v _ (by first | rfl | (simp [wantE, dstOf, zx1]; done)) (run_load_own rfl rfl (hst.find (g := g4) (o := .cells #[.int .i64 5, .int .i64 0, .string ⟨#[115]⟩] 57 (0, 0)) (by simp [osC])) Try.underlying57 rfl val_infoC) hst rfl rfl
      · -- 20: t57 := Op.buildSlice 25 2 #[(0, t55), (1, t56)]
        intro zx1 zx2 zx3 zx4 L V W hL hd hw hst u18 e18 p18 u19 e19 p19 u16 e16 p16
        obtain rfl : u18 = _ := p18
        obtain rfl : u19 = _ := p19
        obtain rfl : u16 = _ := p16
        refine ob_run (n := .value (.slice (some ⟨W.heap.size, 0, none⟩) 2 2)) (W' := W.alloc (.cells #[.int .i64 2, .int .i64 3, .string ⟨#[]⟩, .int .i64 5, .int .i64 0, .string ⟨#[115]⟩] 57)) (by first | rfl | (simp [wantE, dstOf, zx1]; done)) ?_ ?_
        · go_simp
          try rfl
        · exact St.newVals hst [v3, v5] (by decide) _ rfl 57
      · -- 21: t58 := Op.call { callee := value (func 35), args := #[const (int IntKind.i64 0), const (string { data := #[111, 114, 100, 101, 114, 115] }), t57], argTypes := #[3, 9, 25] }
        intro zx1 zx2 zx3 zx4 L V W hL hd hw hst u20 e20 p20 u16 e16 p16
        obtain ⟨bs, qs, rfl, hv⟩ := p20
        obtain rfl : u16 = _ := p16
        refine ob_call (by first | rfl | (simp [wantE, dstOf, zx1]; done)) ?_ ((assert_any W 0 sOrders bs 2 qs).mono ?_)
        · go_simp
          try rfl
        · rintro e w' ⟨rfl, hb⟩
          exact ⟨_, rfl, St.assertP hst (exF 0 sOrders [v3, v5]) bs qs hv rfl hb⟩
      · -- 22: t59 := Op.call { callee := value (func 21), args := #[t54, t58], argTypes := #[45, 27] }
        intro zx1 zx2 zx3 zx4 L V W hL hd hw hst u17 e17 p17 u21 e21 p21 u16 e16 p16
        obtain rfl : u17 = _ := p17
        obtain ⟨bf, qf, rfl, hf⟩ := p21
        obtain rfl : u16 = _ := p16
        refine ob_call (by first | rfl | (simp [wantE, dstOf, zx1]; done)) ?_ (Calls.pV hst (check_at hst hm b q (.slice none 0 0) (.slice none 0 0) (.slice none 0 0) ((hst.base 0 rfl).sub rdTb_up (mask_is _ _)) (exF 0 sOrders [v3, v5]) bf qf (hf.sub rdVal_up (mask_is _ _)) 1 ex6))
        · go_simp
          try rfl
      · -- 23: t60 := Op.binOp BinOp.eql 31 (t59) (const (int IntKind.i64 1)) 31
        intro zx1 zx2 zx3 zx4 L V W hL hd hw hst u22 e22 p22 u16 e16 p16
        obtain rfl : u22 = _ := p22
        obtain rfl : u16 = _ := p16
        refine ob_c (by first | rfl | (simp [wantE, dstOf, zx1]; done)) ?_ hst rfl
        go_simp
        try with_reducible rfl
      · -- 24: t61 := Op.pick (t53) (t60) (const (bool false))
        intro zx1 zx2 zx3 zx4 L V W hL hd hw hst u16 e16 p16 u23 e23 p23
        obtain rfl : u16 = _ := p16
        obtain rfl : u23 = _ := p23
        refine ob_c rfl ?_ hst rfl
        go_simp
        try with_reducible rfl
      · -- 25: t6 := Op.assign (t61)
        intro zx1 zx2 zx3 zx4 L V W hL hd hw hst u24 e24 p24
        obtain rfl : u24 = _ := p24
        refine ob_c rfl ?_ hst rfl
        go_simp
        try with_reducible rfl
    case en =>
      intro V W hst u0 e0 p0 u1 e1 p1 u2 e2 p2 u3 e3 p3 u4 e4 p4 u5 e5 p5 u6 e6 p6 u7 e7 p7 u8 e8 p8 u9 e9 p9 u10 e10 p10 u11 e11 p11 u12 e12 p12 u13 e13 p13 u14 e14 p14 u15 e15 p15 u16 e16 p16 u17 e17 p17 u18 e18 p18 u19 e19 p19 u20 e20 p20 u21 e21 p21 u22 e22 p22 u23 e23 p23 u24 e24 p24 u25 e25 p25
      obtain rfl : u0 = _ := p0
      obtain rfl : u1 = _ := p1
      obtain rfl : u2 = _ := p2
      obtain ⟨bs, qs, rfl, hv⟩ := p3
      obtain ⟨bf, qf, rfl, hf⟩ := p4
      obtain rfl : u5 = _ := p5
      obtain rfl : u6 = _ := p6
      obtain rfl : u7 = _ := p7
      obtain rfl : u8 = _ := p8
      obtain rfl : u9 = _ := p9
      obtain rfl : u10 = _ := p10
      obtain ⟨bs, qs, rfl, hv⟩ := p11
      obtain ⟨bf, qf, rfl, hf⟩ := p12
      obtain rfl : u13 = _ := p13
      obtain rfl : u14 = _ := p14
      obtain rfl : u15 = _ := p15
      obtain rfl : u16 = _ := p16
      obtain rfl : u17 = _ := p17
      obtain rfl : u18 = _ := p18
      obtain rfl : u19 = _ := p19
      obtain ⟨bs, qs, rfl, hv⟩ := p20
      obtain ⟨bf, qf, rfl, hf⟩ := p21
      obtain rfl : u22 = _ := p22
      obtain rfl : u23 = _ := p23
      obtain rfl : u24 = _ := p24
      obtain rfl : u25 = _ := p25
      simp only [EndAll, Act.put, List.getElem_toArray, List.getElem_cons_succ, List.getElem_cons_zero, List.setIfInBounds_toArray, List.set_cons_zero, List.set_cons_succ]
      rw [show osC [(g4, .cells #[.int .i64 5, .int .i64 0, .string ⟨#[115]⟩] 57 (0, 0)), (g3, .cells #[.int .i64 3, .int .i64 3000000, .string ⟨#[]⟩] 57 (0, 0)), (g2, .cells #[.int .i64 2, .int .i64 3, .string ⟨#[]⟩] 57 (0, 0)), (g1, .cells #[.slice b 1 q, .slice none 0 0, .slice none 0 0, .slice none 0 0] 45 (0, 0))] (fun _ => true) V = [(g4, .cells #[.int .i64 5, .int .i64 0, .string ⟨#[115]⟩] 57 (0, 0)), (g3, .cells #[.int .i64 3, .int .i64 3000000, .string ⟨#[]⟩] 57 (0, 0)), (g2, .cells #[.int .i64 2, .int .i64 3, .string ⟨#[]⟩] 57 (0, 0)), (g1, .cells #[.slice b 1 q, .slice none 0 0, .slice none 0 0, .slice none 0 0] 45 (0, 0))] from rfl] at hst
      clear e0 e1 e2 e3 e4 e5 e6 e7 e8 e9 e10 e11 e12 e13 e14 e15 e16 e17 e18 e19 e20 e21 e22 e23 e24 e25 h4
      have h5 := hst
      clear hst
      go_upto_region 8 with fail
      have h6 := (h5.alloc (.cells #[.string ⟨#[97, 112, 112]⟩, .int .i64 6, .int .i64 3, .int .i64 1, .string ⟨#[]⟩, .string ⟨#[]⟩, .int .i64 0, .slice none 0 0] 27)).alloc (.cells #[.string ⟨#[97, 112, 112]⟩, .int .i64 6, .int .i64 3, .int .i64 6, .string ⟨#[]⟩, .string ⟨#[]⟩, .int .i64 0, .slice none 0 0] 27)
      simp only [al_size] at h6
      clear h5
      generalize hg7 : W.heap.size = g7 at *
      generalize hg8 : g7 + 1 = g8 at *
      generalize World.alloc (World.alloc _ _) _ = W5 at h6 ⊢
      obtain ⟨c0, c1, c2, c3, c4, c5, c6, c7⟩ := cells8 (h6.at_ 1 rfl)
      obtain ⟨d0, d1, d2, d3⟩ := cells4' (h6.at_ 5 rfl)
      go_wp2_with fail
      refine (Calls.sV h6 (check_at h6 hm b q (.slice none 0 0) (.slice none 0 0) (.slice none 0 0) (h6.is 0 rfl) exBack none 0 (IsSeq.nil _ _ _) 0 ex7)).mono ?_
      rintro e w6 ⟨rfl, h7⟩
      clear h6 c0 c1 c2 c3 c4 c5 c6 c7 d0 d1 d2 d3
      obtain ⟨c0, c1, c2, c3, c4, c5, c6, c7⟩ := cells8 (h7.at_ 1 rfl)
      go_wp2_with fail
      refine (Calls.sV h7 (base_any _ exBack (.slice none 0 0))).mono ?_
      rintro e w7 ⟨rfl, h8⟩
      clear h7 c0 c1 c2 c3 c4 c5 c6 c7
      rw [show exBack.base = (⟨#[97, 112, 112]⟩, 1) from rfl]
      obtain ⟨c0, c1, c2, c3, c4, c5, c6, c7⟩ := cells8 (h8.at_ 0 rfl)
      obtain ⟨d0, d1, d2, d3⟩ := cells4' (h8.at_ 5 rfl)
      go_wp2_with fail
      refine (Calls.sV h8 (check_at h8 hm b q (.slice none 0 0) (.slice none 0 0) (.slice none 0 0) (h8.is 0 rfl) exSelf none 0 (IsSeq.nil _ _ _) 1 ex8)).mono ?_
      rintro e w8 ⟨rfl, h9⟩
      clear c0 c1 c2 c3 c4 c5 c6 c7 d0 d1 d2 d3 h8
      go_wp2_with fail
      go_ret
      exact ⟨rfl, h9.below⟩
end Go.Proofs.Ytfpkibfofainaaa
