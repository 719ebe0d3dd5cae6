/- WireFrames: the plain law, and the walk. -/
import Derived.Test.YtblfpkhgnfjbbaaWAp
import Derived.Test.YtblfpkhgnfjbbaaWBeg
import Derived.Test.YtblfpkhgnfjbbaaRegS
set_option linter.unusedVariables false
namespace Go.Proofs.Ytblfpkhgnfjbbaa
open Go.RowKit

def encFs (ll : List (List UInt8)) : List UInt8 := ll.flatMap Wire.encF
theorem encFs_take (ll : List (List UInt8)) (j : Nat) (h : j < ll.length) : encFs (ll.take (j + 1)) = encFs (ll.take j) ++ Wire.encF ll[j] := by
  unfold encFs
  rw [List.take_succ_eq_append_getElem h, List.flatMap_append]
  simp
theorem encFs_all (ll : List (List UInt8)) (j : Nat) (h : j < ll.length) : encFs ll = encFs (ll.take j) ++ Wire.encF ll[j] ++ encFs (ll.drop (j + 1)) := by
  rw [← encFs_take ll j h]
  unfold encFs
  rw [← List.flatMap_append, List.take_append_drop]
theorem encFs_le (ll : List (List UInt8)) (hb : ∀ l ∈ ll, l.length ≤ 1048576) : ∀ j, j ≤ ll.length → (encFs (ll.take j)).length ≤ j * 1048590 := by
  intro j
  induction j with
  | zero => intro _; simp [encFs]
  | succ j ih =>
    intro hj
    rw [encFs_take ll j (by omega), List.length_append, encF_length]
    have := ih (by omega)
    have h1 := hb ll[j] (List.getElem_mem _)
    have h2 := Wire.encU_len10 (n := ll[j].length) (by omega)
    omega
theorem encF_last (p : List UInt8) (q : Nat) (hq : q < 4) : (Wire.encF p)[(Wire.encF p).length - 4 + q]? = (sum4 (Wire.sumOf p))[q]? := by
  have h4 : (sum4 (Wire.sumOf p)).length = 4 := rfl
  have : (Wire.encF p).length = (Wire.encU p.length ++ p).length + 4 := by unfold Wire.encF; rw [List.length_append, h4]
  rw [this, Nat.add_sub_cancel]
  unfold Wire.encF
  rw [List.getElem?_append_right (by omega), Nat.add_sub_cancel_left]
theorem encFs_last (ll : List (List UInt8)) (j : Nat) (h : j < ll.length) (q : Nat) (hq : q < 4) : (encFs ll)[(encFs (ll.take (j + 1))).length - 4 + q]? = (sum4 (Wire.sumOf ll[j]))[q]? := by
  rw [← encF_last ll[j] q hq, encFs_all ll j h, encFs_take ll j h, List.length_append]
  have := encF_length ll[j]
  rw [List.getElem?_append_left (by rw [List.length_append]; omega), List.getElem?_append_right (by omega)]
  congr 1
  omega

theorem str_is {W : World} {v : Value} {l : List UInt8} {X : ByteArray} (he : (⟨l.toArray⟩ : ByteArray) = X) (h : IsBytes W v l) : (convert 22 9 v).run Try.prog W = .ok (.string X) W := by
  rw [str_of h, he]
theorem Mono.cell (a : Addr) (v : Value) : Mono (fun x => x.cell? a = some v) := fun _ _ h p => h _ _ p
theorem bytes_at {w : World} {base : Option Addr} {n cap : Nat} {l : List UInt8} (h : IsBytes w (.slice base n cap) l) (p : Nat) (hp : p < l.length) : ∃ b off, base = some ⟨b, off, none⟩ ∧ ∀ (q : Nat) (y : UInt8), l[p + q]? = some y → w.cell? ⟨b, off + (p + q), none⟩ = some (.int .u8 (y.toNat : Int)) := by
  obtain ⟨_, _, e, -, -, -, hat⟩ := h.out
  cases e
  obtain ⟨b, off, rfl, -⟩ := hat p hp
  refine ⟨b, off, rfl, fun q y hy => ?_⟩
  obtain ⟨h1, h2⟩ := List.getElem?_eq_some_iff.1 hy
  obtain ⟨_, _, e, hc⟩ := hat (p + q) h1
  cases e
  rw [hc, h2]
theorem IsLists.at_ {w : World} {base : Option Addr} {n cap : Nat} {ll : List (List UInt8)} (h : IsLists w (.slice base n cap) ll) (i : Nat) (hi : i < ll.length) : ∃ b off u, base = some ⟨b, off, none⟩ ∧ w.cell? ⟨b, off + i, none⟩ = some u ∧ IsBytes w u ll[i] := by
  obtain ⟨_, _, e, -, -, -, hat⟩ := h.out
  cases e
  exact hat i hi

set_option maxRecDepth 20000 in
set_option maxHeartbeats 8000000 in
theorem frames_walk (w : World) (lv : Value) (ll : List (List UInt8)) (hl : IsLists w lv ll) (hn : ll.length ≤ 1048576) (hb : ∀ l ∈ ll, l.length ≤ 1048576) :
    Calls Try.prog 4 #[lv] w fun e w' => e = .returned (.bool true) ∧ Below w.heap.size w w' := by
  obtain ⟨lb, lc, rfl, hlc, hlm, -⟩ := hl.out
  obtain ⟨n, hnn⟩ : ∃ n, ll.length = n := ⟨_, rfl⟩
  have h0 := (St.start w).putOld (P := (IsLists · (.slice lb ll.length lc) ll)) (Mono.lists _ _) hl
  rw [hnn] at h0 hlc hn ⊢
  have HN := Lib.hid (And.intro hnn (encFs_le ll hb))
  clear hl hnn
  go_enter Try.func4, Try.ntmps4
  go_wp2_with fail
  refine (Calls.sV h0 (example_any _)).mono ?_
  rintro e w1 ⟨rfl, h1⟩
  clear h0
  go_wp2_with fail
  go_loopw [4, 5] (fun bv iv wr => ∃ (j m : Nat) (bb : Option Addr) (bc : Nat), j ≤ n ∧ iv = .int .i64 j ∧ bv = .slice bb m bc ∧ (encFs (ll.take j)).length = m ∧ St w wr [] [(IsBytes · (.slice bb m bc) (encFs (ll.take j))), (IsLists · (.slice lb n lc) ll)]) (fun _ iv _ => n - (intOf iv).toNat)
  case atStart => exact ⟨0, 0, none, 0, by omega, rfl, rfl, rfl, h1.put (Mono.bytes _ _) (by simpa [encFs] using IsBytes.none _)⟩
  case round =>
    clear h1
    obtain ⟨j, m, bb, bc, hj, rfl, rfl, hm, hst⟩ := hrel
    have hmle := HN.out.2 j (by rw [HN.out.1]; exact hj)
    rw [hm] at hmle
    by_cases hlt : j < n
    · obtain ⟨lg, lo, el, rfl, hce, hel⟩ := (hst.is 1 rfl : IsLists _ _ _).at_ j (by rw [HN.out.1]; exact hlt)
      have hlj := hb (ll[j]'(by rw [HN.out.1]; exact hlt)) (List.getElem_mem _)
      have hsn := encFs_take ll j (by rw [HN.out.1]; exact hlt)
      go_wp2_with fail
      obtain ⟨m', hm'⟩ : ∃ m', (encFs (ll.take (j + 1))).length = m' := ⟨_, rfl⟩
      refine (Calls.sS hst (m := m') (x := encFs (ll.take (j + 1))) hm' (by rw [hsn]; exact appendFrame_any _ _ _ _ _ (hst.is 0 rfl) hel (by rw [hm]; omega))).mono ?_
      rintro e w2 ⟨b2, c2, rfl, -, h2⟩
      have h2' := h2.facts (fs' := [(IsBytes · (.slice b2 m' c2) (encFs (ll.take (j + 1)))), (IsLists · (.slice (some ⟨lg, lo, none⟩) n lc) ll)]) (fun P hP => by simp only [List.mem_cons, List.not_mem_nil, or_false] at hP ⊢; rcases hP with rfl | rfl <;> simp)
      clear hst h2 hel hce
      go_wp2_with fail
      go_roundw
      case rel => exact ⟨j + 1, m', b2, c2, by omega, by go_num, rfl, hm', h2'⟩
      case measure => simp [intOf]; omega
    · obtain rfl : j = n := by omega
      have hB : encFs (ll.take j) = encFs ll := by rw [← HN.out.1, List.take_length]
      rw [hB] at hm hst
      clear hB
      have HM := Lib.hid hm
      go_wp2_with fail
      go_loopw [6, 7] (fun av iv wr => ∃ (i a : Nat), i ≤ j ∧ iv = .int .i64 i ∧ av = .int .i64 a ∧ (encFs (ll.take i)).length = a ∧ St w wr [] [(IsBytes · (.slice bb m bc) (encFs ll)), (IsLists · (.slice lb j lc) ll)]) (fun _ iv _ => j - (intOf iv).toNat)
      case atStart => exact ⟨0, 0, by omega, rfl, rfl, rfl, hst⟩
      case round =>
        clear hst
        obtain ⟨i, a, hi, rfl, rfl, ha, hst⟩ := hrel
        by_cases hlt : i < j
        · have hil : i < ll.length := by rw [HN.out.1]; exact hlt
          obtain ⟨lg, lo, el, rfl, hce, hel⟩ := (hst.is 1 rfl : IsLists _ _ _).at_ i hil
          have hli := hb ll[i] (List.getElem_mem _)
          obtain ⟨eb, ec, rfl, -⟩ := hel.out
          obtain ⟨x, hx⟩ : ∃ x, ll[i] = x := ⟨_, rfl⟩
          obtain ⟨a', ha'⟩ : ∃ a', (encFs (ll.take (i + 1))).length = a' := ⟨_, rfl⟩
          have hRF := readF_at (s := x) (by rw [← hx]; omega) (encFs (ll.take i)) (encFs (ll.drop (i + 1))) (encFs ll) (by rw [← hx]; exact encFs_all ll i hil) (a : Int) (by rw [ha])
          have haa := congrArg List.length (encFs_take ll i hil)
          rw [List.length_append, encF_length, ha, ha', hx] at haa
          rw [← hx, ← encFs_take ll i hil, hx, ha'] at hRF
          rw [hx] at hce hel hli
          have ham : a' ≤ m := by
            have := congrArg List.length (encFs_all ll i hil)
            rw [hm, List.length_append, ← encFs_take ll i hil, ha'] at this
            omega
          have hst1 := (hst.put (Mono.bytes (.slice eb x.length ec) x) (hel.sub (mask_nil _)))
          obtain ⟨xl, hxl⟩ : ∃ xl, x.length = xl := ⟨_, rfl⟩
          rw [hxl] at hce hli haa hRF hst1
          have HX := Lib.hid (And.intro hx (And.intro hxl (And.intro ha (And.intro ha' haa))))
          have hst2 := hst1.put (P := fun w => w.cell? ⟨lg, lo + i, none⟩ = some (.slice eb xl ec)) (fun _ _ h p => h _ _ p) (mask_nil _ _ _ hce)
          clear hst hst1 hel hx hxl ha' ha haa
          go_wp2_with fail
          refine (readFrame_any _ _ _ _ (hst2.is 2 rfl)).mono ?_
          rintro e w3 ⟨pv, rfl, hpv, hb3⟩
          rw [hRF] at hpv ⊢
          clear hRF
          have h4 := hst2.call hb3
          have hce4 : w3.cell? ⟨lg, lo + i, none⟩ = some (.slice eb xl ec) := h4.is 0 rfl
          clear hst2 hb3 hce
          by_cases hbig : 8192 < xl
          · rw [if_pos hbig]
            have hbigi : (8192 : Int) < (xl : Int) := by omega
            go_wp2_with fail
            go_ret
            exact ⟨rfl, h4.below⟩
          · rw [if_neg hbig] at hpv ⊢
            have hbigi : ¬ (8192 : Int) < (xl : Int) := by omega
            have h9 := h4.put (Mono.bytes pv x) (hpv.sub (mask_nil _))
            clear h4 hpv
            obtain ⟨X, hX⟩ : ∃ X : ByteArray, ⟨x.toArray⟩ = X := ⟨_, rfl⟩
            have HSX := Lib.hid hX
            clear hX
            obtain ⟨P, hP, haP⟩ : ∃ P : Nat, P + 4 = a' ∧ a ≤ P := ⟨a' - 4, by have := HX.out.2.2.2.2; omega, by have := HX.out.2.2.2.2; omega⟩
            obtain ⟨P1, hP1⟩ : ∃ k, k = P + 1 := ⟨_, rfl⟩
            obtain ⟨P2, hP2⟩ : ∃ k, k = P + 2 := ⟨_, rfl⟩
            obtain ⟨P3, hP3⟩ : ∃ k, k = P + 3 := ⟨_, rfl⟩
            have hwP : IntKind.i64.wrap (P : Int) = (P : Int) := wrap_small _ (by omega) (by omega)
            have hwP1 : IntKind.i64.wrap (P1 : Int) = (P1 : Int) := wrap_small _ (by omega) (by omega)
            have hwP2 : IntKind.i64.wrap (P2 : Int) = (P2 : Int) := wrap_small _ (by omega) (by omega)
            have hwP3 : IntKind.i64.wrap (P3 : Int) = (P3 : Int) := wrap_small _ (by omega) (by omega)
            have q0 : (a' : Int) - 4 = (P : Int) := by omega
            have q1 : (a' : Int) - 3 = (P1 : Int) := by omega
            have q2 : (a' : Int) - 2 = (P2 : Int) := by omega
            have q3 : (a' : Int) - 1 = (P3 : Int) := by omega
            have q4 : ¬ (P : Int) < (a : Int) := by omega
            have q5 : ¬ (m : Int) < (a' : Int) := by omega
            have q6 : (P : Int) < (m : Int) := by omega
            have q7 : (P1 : Int) < (m : Int) := by omega
            have q8 : (P2 : Int) < (m : Int) := by omega
            have q9 : (P3 : Int) < (m : Int) := by omega
            have HPS := Lib.hid (And.intro hP1 (And.intro hP2 (And.intro hP3 hP)))
            clear hP1 hP2 hP3 hP
            go_upto_region 14 with fail
            refine wp_region_st [pVal ?c14_0, pVal (.bool false), pVal (.bool false), pVal ?c14_3, pVal (.string X), pVal ?c14_5, pVal ?c14_6, pVal ?c14_7, pVal (.slice eb xl ec), pVal (.string X), pVal (.bool false), pVal (.bool false), pVal (.bool false), pVal ?c14_13, pVal (.int .i64 P), pVal ?c14_15, pVal (.bool false), pVal (.bool false), pVal (.bool false), pVal ?c14_19, pVal ?c14_20, pVal ?c14_21, pVal (.bool false), pVal (.bool false)] (osC []) 118 [0, 1, 3, 7, 15, 7, 7, 103, 231, 487, 1023, 2047, 4095, 8191, 16383, 8191, 65535, 131071, 262143, 524287, 524287, 1572863, 4194303, 8388607] [[], [(0, 49)], [(1, 50)], [(2, 51)], [(2, 51), (3, 52)], [(2, 51)], [(2, 51)], [(2, 51), (6, 55), (5, 54)], [(2, 51), (7, 56)], [(2, 51), (8, 57)], [(2, 51), (9, 58), (4, 53)], [(10, 59), (2, 51)], [(11, 60)], [(12, 61)], [(12, 61), (13, 62)], [(12, 61)], [(12, 61), (15, 64), (14, 63)], [(16, 65), (12, 61)], [(17, 66)], [(18, 67)], [(18, 67)], [(18, 67), (20, 69)], [(18, 67), (21, 70), (19, 68)], [(22, 71), (18, 67)]] [(0, 49), (1, 50), (2, 51), (3, 52), (4, 53), (5, 54), (6, 55), (7, 56), (8, 57), (9, 58), (10, 59), (11, 60), (12, 61), (13, 62), (14, 63), (15, 64), (16, 65), (17, 66), (18, 67), (19, 68), (20, 69), (21, 70), (22, 71), (23, 72)] (by kernel_rfl) (by kernel_rfl) rfl rfl h9 osC0 osC1 ?ob ?en
            case ob =>
              refine ⟨?_, ?_, ?_, ?_, ?_, ?_, ?_, ?_, ?_, ?_, ?_, ?_, ?_, ?_, ?_, ?_, ?_, ?_, ?_, ?_, ?_, ?_, ?_, ?_, trivial⟩
              · -- 0: t49 := Op.move (t10)
                intro zx1 zx2 zx3 zx4 L V W hL hd hw hst 
                refine ob_c rfl ?_ hst rfl
                go_simp
                try with_reducible rfl
              · -- 1: t50 := Op.binOp BinOp.neq 36 (t49) (const (int IntKind.i64 0)) 36
                intro zx1 zx2 zx3 zx4 L V W hL hd hw hst u0 e0 p0
                obtain rfl : u0 = _ := p0
                refine ob_c rfl ?_ hst rfl
                go_simp
              · -- 2: t51 := Op.move (t50)
                intro zx1 zx2 zx3 zx4 L V W hL hd hw hst u1 e1 p1
                obtain rfl : u1 = _ := p1
                refine ob_c rfl ?_ hst rfl
                go_simp
              · -- 3: t52 := Op.move (t8)
                intro zx1 zx2 zx3 zx4 L V W hL hd hw hst u2 e2 p2
                obtain rfl : u2 = _ := p2
                refine ob_c (by first | rfl | (simp [wantE, dstOf, zx1]; done)) ?_ hst rfl
                go_simp
                try with_reducible rfl
              · -- 4: t53 := Op.convert 22 9 (t52)
                intro zx1 zx2 zx3 zx4 L V W hL hd hw hst u3 e3 p3 u2 e2 p2
                obtain rfl : u3 = _ := p3
                obtain rfl : u2 = _ := p2
                refine ob_c (by first | rfl | (simp [wantE, dstOf, zx1]; done)) ?_ hst rfl
                exact run_conv rfl (by simp [zx1]) (str_is HSX.out ((hst.base 0 rfl : IsBytes _ _ _).sub (mask_is _ _)))
              · -- 5: t54 := Op.move (t0)
                intro zx1 zx2 zx3 zx4 L V W hL hd hw hst u2 e2 p2
                obtain rfl : u2 = _ := p2
                refine ob_c (by first | rfl | (simp [wantE, dstOf, zx1]; done)) ?_ hst rfl
                go_simp
                try with_reducible rfl
              · -- 6: t55 := Op.move (t7)
                intro zx1 zx2 zx3 zx4 L V W hL hd hw hst u2 e2 p2
                obtain rfl : u2 = _ := p2
                refine ob_c (by first | rfl | (simp [wantE, dstOf, zx1]; done)) ?_ hst rfl
                go_simp
                try with_reducible rfl
              · -- 7: t56 := Op.indexAddr 35 (t54) (t55)
                intro zx1 zx2 zx3 zx4 L V W hL hd hw hst u5 e5 p5 u6 e6 p6 u2 e2 p2
                obtain rfl : u5 = _ := p5
                obtain rfl : u6 = _ := p6
                obtain rfl : u2 = _ := p2
                refine ob_c (by first | rfl | (simp [wantE, dstOf, zx1]; done)) ?_ hst rfl
                go_simp
                try with_reducible rfl
              · -- 8: t57 := Op.load 22 (t56)
                intro zx1 zx2 zx3 zx4 L V W hL hd hw hst u7 e7 p7 u2 e2 p2
                obtain rfl : u7 = _ := p7
                obtain rfl : u2 = _ := p2
                have hce := (mask_is _ _ _ _ (hst.base 1 rfl))
                refine ob_c (by first | rfl | (simp [wantE, dstOf, zx1]; done)) ?_ hst rfl
                go_simp
                try with_reducible rfl
              · -- 9: t58 := Op.convert 22 9 (t57)
                intro zx1 zx2 zx3 zx4 L V W hL hd hw hst u8 e8 p8 u2 e2 p2
                obtain rfl : u8 = _ := p8
                obtain rfl : u2 = _ := p2
                refine ob_c (by first | rfl | (simp [wantE, dstOf, zx1]; done)) ?_ hst rfl
                exact run_conv rfl (by simp [zx1]) (str_is HSX.out ((hst.base 2 rfl : IsBytes _ _ _).sub (mask_is _ _)))
              · -- 10: t59 := Op.binOp BinOp.neq 9 (t53) (t58) 9
                intro zx1 zx2 zx3 zx4 L V W hL hd hw hst u4 e4 p4 u9 e9 p9 u2 e2 p2
                obtain rfl : u4 = _ := p4
                obtain rfl : u9 = _ := p9
                obtain rfl : u2 = _ := p2
                refine ob_c (by first | rfl | (simp [wantE, dstOf, zx1]; done)) ?_ hst rfl
                go_simp
              · -- 11: t60 := Op.pick (t51) (const (bool true)) (t59)
                intro zx1 zx2 zx3 zx4 L V W hL hd hw hst u2 e2 p2 u10 e10 p10
                obtain rfl : u2 = _ := p2
                obtain rfl : u10 = _ := p10
                refine ob_c rfl ?_ hst rfl
                go_simp
              · -- 12: t61 := Op.move (t60)
                intro zx1 zx2 zx3 zx4 L V W hL hd hw hst u11 e11 p11
                obtain rfl : u11 = _ := p11
                refine ob_c rfl ?_ hst rfl
                go_simp
              · -- 13: t62 := Op.move (t9)
                intro zx1 zx2 zx3 zx4 L V W hL hd hw hst u12 e12 p12
                obtain rfl : u12 = _ := p12
                refine ob_c (by first | rfl | (simp [wantE, dstOf, zx1]; done)) ?_ hst rfl
                go_simp
                try with_reducible rfl
              · -- 14: t63 := Op.binOp BinOp.sub 3 (t62) (const (int IntKind.i64 4)) 3
                intro zx1 zx2 zx3 zx4 L V W hL hd hw hst u13 e13 p13 u12 e12 p12
                obtain rfl : u13 = _ := p13
                obtain rfl : u12 = _ := p12
                refine ob_c (by first | rfl | (simp [wantE, dstOf, zx1]; done)) ?_ hst rfl
                go_simp
                try rw [hwP]
              · -- 15: t64 := Op.move (t6)
                intro zx1 zx2 zx3 zx4 L V W hL hd hw hst u12 e12 p12
                obtain rfl : u12 = _ := p12
                refine ob_c (by first | rfl | (simp [wantE, dstOf, zx1]; done)) ?_ hst rfl
                go_simp
                try with_reducible rfl
              · -- 16: t65 := Op.binOp BinOp.lss 3 (t63) (t64) 3
                intro zx1 zx2 zx3 zx4 L V W hL hd hw hst u14 e14 p14 u15 e15 p15 u12 e12 p12
                obtain rfl : u14 = _ := p14
                obtain rfl : u15 = _ := p15
                obtain rfl : u12 = _ := p12
                refine ob_c (by first | rfl | (simp [wantE, dstOf, zx1]; done)) ?_ hst rfl
                go_simp
              · -- 17: t66 := Op.pick (t61) (const (bool true)) (t65)
                intro zx1 zx2 zx3 zx4 L V W hL hd hw hst u12 e12 p12 u16 e16 p16
                obtain rfl : u12 = _ := p12
                obtain rfl : u16 = _ := p16
                refine ob_c rfl ?_ hst rfl
                go_simp
              · -- 18: t67 := Op.move (t66)
                intro zx1 zx2 zx3 zx4 L V W hL hd hw hst u17 e17 p17
                obtain rfl : u17 = _ := p17
                refine ob_c rfl ?_ hst rfl
                go_simp
              · -- 19: t68 := Op.move (t9)
                intro zx1 zx2 zx3 zx4 L V W hL hd hw hst u18 e18 p18
                obtain rfl : u18 = _ := p18
                refine ob_c (by first | rfl | (simp [wantE, dstOf, zx1]; done)) ?_ hst rfl
                go_simp
                try with_reducible rfl
              · -- 20: t69 := Op.move (t4)
                intro zx1 zx2 zx3 zx4 L V W hL hd hw hst u18 e18 p18
                obtain rfl : u18 = _ := p18
                refine ob_c (by first | rfl | (simp [wantE, dstOf, zx1]; done)) ?_ hst rfl
                go_simp
                try with_reducible rfl
              · -- 21: t70 := Op.call { callee := builtin Builtin.len, args := #[t69], argTypes := #[22] }
                intro zx1 zx2 zx3 zx4 L V W hL hd hw hst u20 e20 p20 u18 e18 p18
                obtain rfl : u20 = _ := p20
                obtain rfl : u18 = _ := p18
                refine ob_c (by first | rfl | (simp [wantE, dstOf, zx1]; done)) ?_ hst rfl
                go_simp
                try with_reducible rfl
              · -- 22: t71 := Op.binOp BinOp.gtr 3 (t68) (t70) 3
                intro zx1 zx2 zx3 zx4 L V W hL hd hw hst u19 e19 p19 u21 e21 p21 u18 e18 p18
                obtain rfl : u19 = _ := p19
                obtain rfl : u21 = _ := p21
                obtain rfl : u18 = _ := p18
                refine ob_c (by first | rfl | (simp [wantE, dstOf, zx1]; done)) ?_ hst rfl
                go_simp
              · -- 23: t72 := Op.pick (t67) (const (bool true)) (t71)
                intro zx1 zx2 zx3 zx4 L V W hL hd hw hst u18 e18 p18 u22 e22 p22
                obtain rfl : u18 = _ := p18
                obtain rfl : u22 = _ := p22
                refine ob_c rfl ?_ hst rfl
                go_simp
            case en =>
              intro V W hst u0 e0 p0 u1 e1 p1 u2 e2 p2 u3 e3 p3 u4 e4 p4 u5 e5 p5 u6 e6 p6 u7 e7 p7 u8 e8 p8 u9 e9 p9 u10 e10 p10 u11 e11 p11 u12 e12 p12 u13 e13 p13 u14 e14 p14 u15 e15 p15 u16 e16 p16 u17 e17 p17 u18 e18 p18 u19 e19 p19 u20 e20 p20 u21 e21 p21 u22 e22 p22 u23 e23 p23
              obtain rfl : u0 = _ := p0
              obtain rfl : u1 = _ := p1
              obtain rfl : u2 = _ := p2
              obtain rfl : u3 = _ := p3
              obtain rfl : u4 = _ := p4
              obtain rfl : u5 = _ := p5
              obtain rfl : u6 = _ := p6
              obtain rfl : u7 = _ := p7
              obtain rfl : u8 = _ := p8
              obtain rfl : u9 = _ := p9
              obtain rfl : u10 = _ := p10
              obtain rfl : u11 = _ := p11
              obtain rfl : u12 = _ := p12
              obtain rfl : u13 = _ := p13
              obtain rfl : u14 = _ := p14
              obtain rfl : u15 = _ := p15
              obtain rfl : u16 = _ := p16
              obtain rfl : u17 = _ := p17
              obtain rfl : u18 = _ := p18
              obtain rfl : u19 = _ := p19
              obtain rfl : u20 = _ := p20
              obtain rfl : u21 = _ := p21
              obtain rfl : u22 = _ := p22
              obtain rfl : u23 = _ := p23
              simp only [EndAll, Act.put, List.getElem_toArray, List.getElem_cons_succ, List.getElem_cons_zero, List.setIfInBounds_toArray, List.set_cons_zero, List.set_cons_succ]
              rw [show osC [] (fun _ => true) V = [] from rfl] at hst
              clear e0 e1 e2 e3 e4 e5 e6 e7 e8 e9 e10 e11 e12 e13 e14 e15 e16 e17 e18 e19 e20 e21 e22 e23
              have hBy : IsBytes W (.slice bb m bc) (encFs ll) := hst.is 3 rfl
              have hBl : (encFs ll).length = m := HM.out
              obtain ⟨y0, y1, y2, y3, hy, z0, z1, z2, z3⟩ := sum4_bytes (Wire.sumOf x)
              have hlast := encFs_last ll i hil
              rw [HX.out.1, HX.out.2.2.2.1, hy, show a' - 4 = P by have := HPS.out.2.2.2; omega] at hlast
              obtain ⟨bg, bo, rfl, hyc⟩ := bytes_at hBy P (by omega)
              have c0 := hyc 0 y0 (hlast 0 (by omega))
              have c1 := hyc 1 y1 (hlast 1 (by omega))
              have c2 := hyc 2 y2 (hlast 2 (by omega))
              have c3 := hyc 3 y3 (hlast 3 (by omega))
              rw [Nat.add_zero] at c0
              rw [← HPS.out.1] at c1
              rw [← HPS.out.2.1] at c2
              rw [← HPS.out.2.2.1] at c3
              have h10 := (((hst.put (Mono.cell _ _) (mask_nil _ _ _ c3)).put (Mono.cell _ _) (mask_nil _ _ _ c2)).put (Mono.cell _ _) (mask_nil _ _ _ c1)).put (Mono.cell _ _) (mask_nil _ _ _ c0)
              clear hyc hlast hBy hBl hst
              go_upto_region 16 with fail
              refine wp_region_st [pVal ?c16_0, pVal ?c16_1, pVal (.int .i64 P), pVal ?c16_3, pVal (.int .u8 (y0.toNat : Int)), pVal ?c16_5, pVal ?c16_6, pVal ?c16_7, pVal (.int .i64 P1), pVal ?c16_9, pVal (.int .u8 (y1.toNat : Int)), pVal ?c16_11, pVal ?c16_12, pVal ?c16_13, pVal ?c16_14, pVal ?c16_15, pVal (.int .i64 P2), pVal ?c16_17, pVal (.int .u8 (y2.toNat : Int)), pVal ?c16_19, pVal ?c16_20, pVal ?c16_21, pVal ?c16_22, pVal ?c16_23, pVal (.int .i64 P3), pVal ?c16_25, pVal (.int .u8 (y3.toNat : Int)), pVal ?c16_27, pVal ?c16_28, pVal ?c16_29, pVal ?c16_30] (osC []) 118 [0, 0, 2, 7, 15, 31, 0, 0, 128, 448, 960, 1984, 4032, 8191, 0, 0, 32768, 114688, 245760, 507904, 1032192, 2097151, 0, 0, 8388608, 29360128, 62914560, 130023424, 264241152, 536870911, 1073741823] [[], [], [(1, 74)], [(2, 75), (0, 73)], [(3, 76)], [(4, 77)], [], [], [(7, 80)], [(8, 81), (6, 79)], [(9, 82)], [(10, 83)], [(11, 84)], [(12, 85), (5, 78)], [], [], [(15, 88)], [(16, 89), (14, 87)], [(17, 90)], [(18, 91)], [(19, 92)], [(20, 93), (13, 86)], [], [], [(23, 96)], [(24, 97), (22, 95)], [(25, 98)], [(26, 99)], [(27, 100)], [(28, 101), (21, 94)], [(29, 102)]] [(0, 73), (1, 74), (2, 75), (3, 76), (4, 77), (5, 78), (6, 79), (7, 80), (8, 81), (9, 82), (10, 83), (11, 84), (12, 85), (13, 86), (14, 87), (15, 88), (16, 89), (17, 90), (18, 91), (19, 92), (20, 93), (21, 94), (22, 95), (23, 96), (24, 97), (25, 98), (26, 99), (27, 100), (28, 101), (29, 102), (30, 11)] (by kernel_rfl) (by kernel_rfl) rfl rfl h10 osC0 osC1 ?ob ?en
              case ob =>
                refine ⟨?_, ?_, ?_, ?_, ?_, ?_, ?_, ?_, ?_, ?_, ?_, ?_, ?_, ?_, ?_, ?_, ?_, ?_, ?_, ?_, ?_, ?_, ?_, ?_, ?_, ?_, ?_, ?_, ?_, ?_, ?_, trivial⟩
                · -- 0: t73 := Op.move (t4)
                  intro zx1 zx2 zx3 zx4 L V W hL hd hw hst 
                  refine ob_c rfl ?_ hst rfl
                  go_simp
                  try with_reducible rfl
                · -- 1: t74 := Op.move (t9)
                  intro zx1 zx2 zx3 zx4 L V W hL hd hw hst 
                  refine ob_c rfl ?_ hst rfl
                  go_simp
                  try with_reducible rfl
                · -- 2: t75 := Op.binOp BinOp.sub 3 (t74) (const (int IntKind.i64 4)) 3
                  intro zx1 zx2 zx3 zx4 L V W hL hd hw hst u1 e1 p1
                  obtain rfl : u1 = _ := p1
                  refine ob_c rfl ?_ hst rfl
                  go_simp
                  try rw [hwP]
                · -- 3: t76 := Op.indexAddr 22 (t73) (t75)
                  intro zx1 zx2 zx3 zx4 L V W hL hd hw hst u0 e0 p0 u2 e2 p2
                  obtain rfl : u0 = _ := p0
                  obtain rfl : u2 = _ := p2
                  refine ob_c rfl ?_ hst rfl
                  go_simp
                  try with_reducible rfl
                · -- 4: t77 := Op.load 5 (t76)
                  intro zx1 zx2 zx3 zx4 L V W hL hd hw hst u3 e3 p3
                  obtain rfl : u3 = _ := p3
                  have hce := mask_is _ _ _ _ (hst.base 0 rfl)
                  refine ob_c rfl ?_ hst rfl
                  go_simp
                  try with_reducible rfl
                · -- 5: t78 := Op.convert 5 39 (t77)
                  intro zx1 zx2 zx3 zx4 L V W hL hd hw hst u4 e4 p4
                  obtain rfl : u4 = _ := p4
                  refine ob_c rfl ?_ hst rfl
                  go_simp
                  try with_reducible rfl
                · -- 6: t79 := Op.move (t4)
                  intro zx1 zx2 zx3 zx4 L V W hL hd hw hst 
                  refine ob_c rfl ?_ hst rfl
                  go_simp
                  try with_reducible rfl
                · -- 7: t80 := Op.move (t9)
                  intro zx1 zx2 zx3 zx4 L V W hL hd hw hst 
                  refine ob_c rfl ?_ hst rfl
                  go_simp
                  try with_reducible rfl
                · -- 8: t81 := Op.binOp BinOp.sub 3 (t80) (const (int IntKind.i64 3)) 3
                  intro zx1 zx2 zx3 zx4 L V W hL hd hw hst u7 e7 p7
                  obtain rfl : u7 = _ := p7
                  refine ob_c rfl ?_ hst rfl
                  go_simp
                  try rw [hwP1]
                · -- 9: t82 := Op.indexAddr 22 (t79) (t81)
                  intro zx1 zx2 zx3 zx4 L V W hL hd hw hst u6 e6 p6 u8 e8 p8
                  obtain rfl : u6 = _ := p6
                  obtain rfl : u8 = _ := p8
                  refine ob_c rfl ?_ hst rfl
                  go_simp
                  try with_reducible rfl
                · -- 10: t83 := Op.load 5 (t82)
                  intro zx1 zx2 zx3 zx4 L V W hL hd hw hst u9 e9 p9
                  obtain rfl : u9 = _ := p9
                  have hce := mask_is _ _ _ _ (hst.base 1 rfl)
                  refine ob_c rfl ?_ hst rfl
                  go_simp
                  try with_reducible rfl
                · -- 11: t84 := Op.convert 5 39 (t83)
                  intro zx1 zx2 zx3 zx4 L V W hL hd hw hst u10 e10 p10
                  obtain rfl : u10 = _ := p10
                  refine ob_c rfl ?_ hst rfl
                  go_simp
                  try with_reducible rfl
                · -- 12: t85 := Op.binOp BinOp.shl 39 (t84) (const (int IntKind.u64 8)) 40
                  intro zx1 zx2 zx3 zx4 L V W hL hd hw hst u11 e11 p11
                  obtain rfl : u11 = _ := p11
                  refine ob_c rfl ?_ hst rfl
                  go_simp
                  try with_reducible rfl
                · -- 13: t86 := Op.binOp BinOp.add 39 (t78) (t85) 39
                  intro zx1 zx2 zx3 zx4 L V W hL hd hw hst u5 e5 p5 u12 e12 p12
                  obtain rfl : u5 = _ := p5
                  obtain rfl : u12 = _ := p12
                  refine ob_c rfl ?_ hst rfl
                  go_simp
                  try with_reducible rfl
                · -- 14: t87 := Op.move (t4)
                  intro zx1 zx2 zx3 zx4 L V W hL hd hw hst 
                  refine ob_c rfl ?_ hst rfl
                  go_simp
                  try with_reducible rfl
                · -- 15: t88 := Op.move (t9)
                  intro zx1 zx2 zx3 zx4 L V W hL hd hw hst 
                  refine ob_c rfl ?_ hst rfl
                  go_simp
                  try with_reducible rfl
                · -- 16: t89 := Op.binOp BinOp.sub 3 (t88) (const (int IntKind.i64 2)) 3
                  intro zx1 zx2 zx3 zx4 L V W hL hd hw hst u15 e15 p15
                  obtain rfl : u15 = _ := p15
                  refine ob_c rfl ?_ hst rfl
                  go_simp
                  try rw [hwP2]
                · -- 17: t90 := Op.indexAddr 22 (t87) (t89)
                  intro zx1 zx2 zx3 zx4 L V W hL hd hw hst u14 e14 p14 u16 e16 p16
                  obtain rfl : u14 = _ := p14
                  obtain rfl : u16 = _ := p16
                  refine ob_c rfl ?_ hst rfl
                  go_simp
                  try with_reducible rfl
                · -- 18: t91 := Op.load 5 (t90)
                  intro zx1 zx2 zx3 zx4 L V W hL hd hw hst u17 e17 p17
                  obtain rfl : u17 = _ := p17
                  have hce := mask_is _ _ _ _ (hst.base 2 rfl)
                  refine ob_c rfl ?_ hst rfl
                  go_simp
                  try with_reducible rfl
                · -- 19: t92 := Op.convert 5 39 (t91)
                  intro zx1 zx2 zx3 zx4 L V W hL hd hw hst u18 e18 p18
                  obtain rfl : u18 = _ := p18
                  refine ob_c rfl ?_ hst rfl
                  go_simp
                  try with_reducible rfl
                · -- 20: t93 := Op.binOp BinOp.shl 39 (t92) (const (int IntKind.u64 16)) 40
                  intro zx1 zx2 zx3 zx4 L V W hL hd hw hst u19 e19 p19
                  obtain rfl : u19 = _ := p19
                  refine ob_c rfl ?_ hst rfl
                  go_simp
                  try with_reducible rfl
                · -- 21: t94 := Op.binOp BinOp.add 39 (t86) (t93) 39
                  intro zx1 zx2 zx3 zx4 L V W hL hd hw hst u13 e13 p13 u20 e20 p20
                  obtain rfl : u13 = _ := p13
                  obtain rfl : u20 = _ := p20
                  refine ob_c rfl ?_ hst rfl
                  go_simp
                  try with_reducible rfl
                · -- 22: t95 := Op.move (t4)
                  intro zx1 zx2 zx3 zx4 L V W hL hd hw hst 
                  refine ob_c rfl ?_ hst rfl
                  go_simp
                  try with_reducible rfl
                · -- 23: t96 := Op.move (t9)
                  intro zx1 zx2 zx3 zx4 L V W hL hd hw hst 
                  refine ob_c rfl ?_ hst rfl
                  go_simp
                  try with_reducible rfl
                · -- 24: t97 := Op.binOp BinOp.sub 3 (t96) (const (int IntKind.i64 1)) 3
                  intro zx1 zx2 zx3 zx4 L V W hL hd hw hst u23 e23 p23
                  obtain rfl : u23 = _ := p23
                  refine ob_c rfl ?_ hst rfl
                  go_simp
                  try rw [hwP3]
                · -- 25: t98 := Op.indexAddr 22 (t95) (t97)
                  intro zx1 zx2 zx3 zx4 L V W hL hd hw hst u22 e22 p22 u24 e24 p24
                  obtain rfl : u22 = _ := p22
                  obtain rfl : u24 = _ := p24
                  refine ob_c rfl ?_ hst rfl
                  go_simp
                  try with_reducible rfl
                · -- 26: t99 := Op.load 5 (t98)
                  intro zx1 zx2 zx3 zx4 L V W hL hd hw hst u25 e25 p25
                  obtain rfl : u25 = _ := p25
                  have hce := mask_is _ _ _ _ (hst.base 3 rfl)
                  refine ob_c rfl ?_ hst rfl
                  go_simp
                  try with_reducible rfl
                · -- 27: t100 := Op.convert 5 39 (t99)
                  intro zx1 zx2 zx3 zx4 L V W hL hd hw hst u26 e26 p26
                  obtain rfl : u26 = _ := p26
                  refine ob_c rfl ?_ hst rfl
                  go_simp
                  try with_reducible rfl
                · -- 28: t101 := Op.binOp BinOp.shl 39 (t100) (const (int IntKind.u64 24)) 40
                  intro zx1 zx2 zx3 zx4 L V W hL hd hw hst u27 e27 p27
                  obtain rfl : u27 = _ := p27
                  refine ob_c rfl ?_ hst rfl
                  go_simp
                  try with_reducible rfl
                · -- 29: t102 := Op.binOp BinOp.add 39 (t94) (t101) 39
                  intro zx1 zx2 zx3 zx4 L V W hL hd hw hst u21 e21 p21 u28 e28 p28
                  obtain rfl : u21 = _ := p21
                  obtain rfl : u28 = _ := p28
                  refine ob_c rfl ?_ hst rfl
                  go_simp
                  try with_reducible rfl
                · -- 30: t11 := Op.assign (t102)
                  intro zx1 zx2 zx3 zx4 L V W hL hd hw hst u29 e29 p29
                  obtain rfl : u29 = _ := p29
                  refine ob_c rfl ?_ hst rfl
                  go_simp
                  try with_reducible rfl
              case en =>
                intro V W hst u0 e0 p0 u1 e1 p1 u2 e2 p2 u3 e3 p3 u4 e4 p4 u5 e5 p5 u6 e6 p6 u7 e7 p7 u8 e8 p8 u9 e9 p9 u10 e10 p10 u11 e11 p11 u12 e12 p12 u13 e13 p13 u14 e14 p14 u15 e15 p15 u16 e16 p16 u17 e17 p17 u18 e18 p18 u19 e19 p19 u20 e20 p20 u21 e21 p21 u22 e22 p22 u23 e23 p23 u24 e24 p24 u25 e25 p25 u26 e26 p26 u27 e27 p27 u28 e28 p28 u29 e29 p29 u30 e30 p30
                obtain rfl : u0 = _ := p0
                obtain rfl : u1 = _ := p1
                obtain rfl : u2 = _ := p2
                obtain rfl : u3 = _ := p3
                obtain rfl : u4 = _ := p4
                obtain rfl : u5 = _ := p5
                obtain rfl : u6 = _ := p6
                obtain rfl : u7 = _ := p7
                obtain rfl : u8 = _ := p8
                obtain rfl : u9 = _ := p9
                obtain rfl : u10 = _ := p10
                obtain rfl : u11 = _ := p11
                obtain rfl : u12 = _ := p12
                obtain rfl : u13 = _ := p13
                obtain rfl : u14 = _ := p14
                obtain rfl : u15 = _ := p15
                obtain rfl : u16 = _ := p16
                obtain rfl : u17 = _ := p17
                obtain rfl : u18 = _ := p18
                obtain rfl : u19 = _ := p19
                obtain rfl : u20 = _ := p20
                obtain rfl : u21 = _ := p21
                obtain rfl : u22 = _ := p22
                obtain rfl : u23 = _ := p23
                obtain rfl : u24 = _ := p24
                obtain rfl : u25 = _ := p25
                obtain rfl : u26 = _ := p26
                obtain rfl : u27 = _ := p27
                obtain rfl : u28 = _ := p28
                obtain rfl : u29 = _ := p29
                obtain rfl : u30 = _ := p30
                simp only [EndAll, Act.put, List.getElem_toArray, List.getElem_cons_succ, List.getElem_cons_zero, List.setIfInBounds_toArray, List.set_cons_zero, List.set_cons_succ]
                rw [show osC [] (fun _ => true) V = [] from rfl] at hst
                clear e0 e1 e2 e3 e4 e5 e6 e7 e8 e9 e10 e11 e12 e13 e14 e15 e16 e17 e18 e19 e20 e21 e22 e23 e24 e25 e26 e27 e28 e29 e30
                obtain ⟨r, hr⟩ : ∃ r, Wire.sumOf x = r := ⟨_, rfl⟩
                rw [hr] at z0 z1 z2 z3
                have hW : ∀ z : Int, IntKind.u32.wrap z = z % 4294967296 := fun z => rfl
                have hrl := r.isLt
                have l0 := y0.toNat_lt
                have l1 := y1.toNat_lt
                have l2 := y2.toNat_lt
                have l3 := y3.toNat_lt
                have eS : IntKind.u32.wrap (IntKind.u32.wrap (IntKind.u32.wrap (IntKind.u32.wrap ↑y0.toNat + IntKind.u32.wrap (IntKind.u32.wrap ↑y1.toNat * 256)) + IntKind.u32.wrap (IntKind.u32.wrap ↑y2.toNat * 65536)) + IntKind.u32.wrap (IntKind.u32.wrap ↑y3.toNat * 16777216)) = (r.toNat : Int) := by
                  simp only [hW]
                  omega
                rw [eS]
                have hce5 : W.cell? ⟨lg, lo + i, none⟩ = some (.slice eb xl ec) := hst.is 5 rfl
                clear eS hW l0 l1 l2 l3 z0 z1 z2 z3 c0 c1 c2 c3 h10 h9 hce4
                go_wp2_with fail
                refine (Calls.sV hst (sum32_any _ x _ (hst.is 6 rfl))).mono ?_
                rintro e w9 ⟨rfl, h11⟩
                rw [show Crc.ext 0#32 x = r from hr]
                have h12 := h11.facts (fs' := [(IsBytes · (.slice (some ⟨bg, bo, none⟩) m bc) (encFs ll)), (IsLists · (.slice (some ⟨lg, lo, none⟩) j lc) ll)]) (fun P hP => by simp only [List.mem_cons, List.not_mem_nil, or_false] at hP ⊢; rcases hP with rfl | rfl <;> simp)
                clear hst h11 hce5 hr
                go_wp2_with fail
                go_roundw
                case rel => exact ⟨i + 1, a', by omega, by go_num, rfl, HX.out.2.2.2.1, h12⟩
                case measure => simp [intOf]; omega
        · obtain rfl : i = j := by omega
          have haj : a = m := by rw [← hm, ← ha, ← HN.out.1, List.take_length]
          subst haj
          go_wp2_with fail
          go_ret
          exact ⟨rfl, hst.below⟩
end Go.Proofs.Ytblfpkhgnfjbbaa
