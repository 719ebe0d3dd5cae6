/- The walk over count. -/
import Derived.Test.YtihohhjaomoemaaLw40
set_option linter.unusedVariables false
set_option linter.unusedSimpArgs false
namespace Go.Proofs.Ytihohhjaomoemaa
open Go Go.RowKit

/-- How often a packet stands in a list. -/
def cntR (l : List Pk) (p : Pk) : Nat := l.countP fun x => decide (x = p)
theorem cntR_succ {l : List Pk} {p : Pk} {k : Nat} (h : k < l.length) : cntR (l.take (k + 1)) p = cntR (l.take k) p + if l[k] = p then 1 else 0 := by
  unfold cntR
  rw [← List.take_append_getElem h, List.countP_append]
  by_cases e : l[k] = p <;> simp [e]
theorem cntR_le (l : List Pk) (p : Pk) : cntR l p ≤ l.length := List.countP_le_length

set_option maxRecDepth 8000 in
set_option maxHeartbeats 8000000 in
theorem count_any (w : World) (l : List Pk) (lb : Option Addr) (lq : Nat) (hl : IsPks w (.slice lb l.length lq) l) (p : Pk) (vb : Option Addr) (vq : Nat) (hp : IsVals w (.slice vb p.fact.fields.length vq) p.fact.fields) (hln : l.length ≤ 4611686018427387904) :
    Calls Try.prog 23 #[.slice lb l.length lq, p.val (.slice vb p.fact.fields.length vq)] w fun e w' => e = .returned (.int .i64 (cntR l p : Int)) ∧ Below w.heap.size w w' := by
  obtain ⟨N, hN⟩ : ∃ N, l.length = N := ⟨_, rfl⟩
  obtain ⟨C, hC⟩ : ∃ N, cntR l p = N := ⟨_, rfl⟩
  rw [hC]
  have HC := Lib.hid hC
  have HP := Lib.hid (rfl : p = p)
  obtain ⟨cf, hcf⟩ : ∃ f : Nat → Nat, f = fun k => cntR (l.take k) p := ⟨_, rfl⟩
  have hcs : ∀ k (h : k < l.length), cf (k + 1) = cf k + if l[k] = p then 1 else 0 := fun k h => by rw [hcf]; exact cntR_succ h
  have hc0 : cf 0 = 0 := by rw [hcf]; rfl
  have hcN : cf N = C := by rw [hcf, ← hC, ← hN]; simp
  have hcl : ∀ k, k ≤ N → cf k ≤ k := fun k h => by rw [hcf]; exact Nat.le_trans (cntR_le _ _) (by rw [List.length_take]; omega)
  clear hC hcf HP HC
  obtain ⟨a1, a2, a3, f1, f2, f3, f4, f5, f6, f7, f8⟩ := p
  simp only [Pk.val, Pk.cellsA] at hp ⊢
  obtain ⟨m, hmm⟩ : ∃ m, f8.length = m := ⟨_, rfl⟩
  rw [hmm] at hp ⊢
  rw [hN] at hl hln ⊢
  have HN := Lib.hid hN
  have HMM := Lib.hid hmm
  have HCF := Lib.hid (And.intro hcs (And.intro hc0 (And.intro hcN hcl)))
  have h0 := (((St.start w).putOld (P := (IsPks · (.slice lb N lq) l)) (Mono.seq rdPk_up _ _) hl).putOld (P := (IsVals · (.slice vb m vq) f8)) (Mono.seq rdVal_up _ _) hp).boxC #[.string a1, .bool a2, .int .i64 a3, .string f1, .int .i64 f2, .int .i64 f3, .int .i64 f4, .string f5, .string f6, .int .i64 f7, .slice vb m vq] 31
  clear hl hp hN hmm hcs hc0 hcN hcl
  go_enter Try.func23, Try.ntmps23
  go_wp2_with fail
  go_loopw [5, 6] (fun nv iv wr => ∃ k : Nat, k ≤ N ∧ iv = .int .i64 k ∧ nv = .int .i64 (cf k : Int) ∧ St w wr [] [IsCells w.heap.size #[.string a1, .bool a2, .int .i64 a3, .string f1, .int .i64 f2, .int .i64 f3, .int .i64 f4, .string f5, .string f6, .int .i64 f7, .slice vb m vq], (IsVals · (.slice vb m vq) f8), (IsPks · (.slice lb N lq) l)]) (fun _ iv _ => N - (intOf iv).toNat)
  case atStart => exact ⟨0, by omega, rfl, by rw [HCF.out.2.1]; rfl, h0⟩
  case round =>
    clear h0
    obtain ⟨k, hk, rfl, rfl, hst⟩ := hrel
    by_cases hlt : k < N
    · obtain ⟨gc, oc, vc, qc, rfl, hvc, hrc⟩ := (hst.is 2 rfl : IsPks _ _ _).pks k (by rw [HN.out]; exact hlt)
      obtain ⟨x, hx⟩ : ∃ x, l[k]'(by rw [HN.out]; exact hlt) = x := ⟨_, rfl⟩
      have hcs := HCF.out.1 k (by rw [HN.out]; exact hlt)
      have hcl := HCF.out.2.2.2 k hk
      rw [hx] at hvc hrc hcs
      clear hx
      obtain ⟨x1, x2, x3, z1, z2, z3, z4, z5, z6, z7, z8⟩ := x
      simp only [Pk.cellsA] at hvc hrc
      obtain ⟨kx, hkx⟩ : ∃ m, z8.length = m := ⟨_, rfl⟩
      rw [hkx] at hvc hrc
      have HKX := Lib.hid hkx
      obtain ⟨q, hq⟩ : ∃ q, decide ((⟨x1, x2, x3, ⟨z1, z2, z3, z4, z5, z6, z7, z8⟩⟩ : Pk) = (⟨a1, a2, a3, ⟨f1, f2, f3, f4, f5, f6, f7, f8⟩⟩ : Pk)) = q := ⟨_, rfl⟩
      have HQ := Lib.hid hq
      have hcs2 : cf (k + 1) = cf k + if q = true then 1 else 0 := by rw [hcs, ← hq]; simp only [decide_eq_true_eq]
      have HCS := Lib.hid hcs2
      have h1 := (hst.keep (Mono.seq rdVal_up _ _) hvc).keep (Mono.range _ _ _) hrc
      clear hst hvc hrc hkx hcs hcs2 hq
      go_upto_region 5 with fail
      refine wp_region_st [pVal ?c5_0, pVal ?c5_1, pVal (.pointer (some ⟨gc, oc + k * 11, none⟩)), pVal (.agg #[.string x1, .bool x2, .int .i64 x3, .string z1, .int .i64 z2, .int .i64 z3, .int .i64 z4, .string z5, .string z6, .int .i64 z7, .slice vc kx qc]), pVal (.agg #[.string a1, .bool a2, .int .i64 a3, .string f1, .int .i64 f2, .int .i64 f3, .int .i64 f4, .string f5, .string f6, .int .i64 f7, .slice vb m vq]), pVal (.bool q)] (osC []) 22 [0, 0, 3, 7, 0, 31] [[], [], [(1, 14), (0, 13)], [(2, 15)], [], [(4, 17), (3, 16)]] [(0, 13), (1, 14), (2, 15), (3, 16), (4, 17), (5, 18)] (by kernel_rfl) (by kernel_rfl) rfl rfl h1 osC0 osC1 ?ob ?en
      case ob =>
        refine ⟨?_, ?_, ?_, ?_, ?_, ?_, trivial⟩
        · -- 0: t13 := Op.move (t0)
          intro zx1 zx2 zx3 zx4 L V W hL hd hw hst 
          refine ob_c rfl ?_ hst rfl
          go_simp
          try with_reducible rfl
        · -- 1: t14 := Op.move (t6)
          intro zx1 zx2 zx3 zx4 L V W hL hd hw hst 
          refine ob_c rfl ?_ hst rfl
          go_simp
          try with_reducible rfl
        · -- 2: t15 := Op.indexAddr 22 (t13) (t14)
          intro zx1 zx2 zx3 zx4 L V W hL hd hw hst u0 e0 p0 u1 e1 p1
          obtain rfl : u0 = _ := p0
          obtain rfl : u1 = _ := p1
          refine ob_c (by first | rfl | (simp [wantE, dstOf, zx1]; done)) ?_ hst rfl
          go_simp
          all_goals (first | done | exact fun h => absurd h (by omega))
        · -- 3: t16 := Op.load 31 (t15)
          intro zx1 zx2 zx3 zx4 L V W hL hd hw hst u2 e2 p2
          obtain rfl : u2 = _ := p2
          exact ob_c (by first | rfl | (simp [wantE, dstOf, zx1]; done)) (run_load_mid rfl rfl ((hst.base 0 rfl : World.rangeAt _ _ _ _) |> Mono.range _ _ _ _ _ (mask_is _ _)) Try.underlying31 rfl rfl) hst rfl
        · -- 4: t17 := Op.load 31 (t3)
          intro zx1 zx2 zx3 zx4 L V W hL hd hw hst 
          exact ob_c (by first | rfl | (simp [wantE, dstOf, zx1]; done)) (run_load_mid rfl rfl ((hst.base 2 rfl : IsCells _ _ _) |> Mono.cells _ _ _ _ (mask_is _ _) |>.range) Try.underlying31 rfl rfl) hst rfl
        · -- 5: t18 := Op.call { callee := value (func 13), args := #[t16, t17], argTypes := #[31, 31] }
          intro zx1 zx2 zx3 zx4 L V W hL hd hw hst u3 e3 p3 u4 e4 p4
          obtain rfl : u3 = _ := p3
          obtain rfl : u4 = _ := p4
          refine ob_call (by first | rfl | (simp [wantE, dstOf, zx1]; done)) ?_ (samePk_p hst (⟨x1, x2, x3, ⟨z1, z2, z3, z4, z5, z6, z7, z8⟩⟩ : Pk) (⟨a1, a2, a3, ⟨f1, f2, f3, f4, f5, f6, f7, f8⟩⟩ : Pk) ((hst.base 1 rfl : IsVals _ _ _).sub rdVal_up (mask_is _ _)) HKX.out ((hst.base 3 rfl : IsVals _ _ _).sub rdVal_up (mask_is _ _)) HMM.out HQ.out)
          go_simp
          try rfl
      case en =>
        intro V W hst u0 e0 p0 u1 e1 p1 u2 e2 p2 u3 e3 p3 u4 e4 p4 u5 e5 p5
        obtain rfl : u0 = _ := p0
        obtain rfl : u1 = _ := p1
        obtain rfl : u2 = _ := p2
        obtain rfl : u3 = _ := p3
        obtain rfl : u4 = _ := p4
        obtain rfl : u5 = _ := p5
        simp only [EndAll, Act.put, List.getElem_toArray, List.getElem_cons_succ, List.getElem_cons_zero, List.setIfInBounds_toArray, List.set_cons_zero, List.set_cons_succ]
        rw [show osC [] (fun _ => true) V = [] from rfl] at hst
        have h2 := hst.facts (fs' := [IsCells w.heap.size #[.string a1, .bool a2, .int .i64 a3, .string f1, .int .i64 f2, .int .i64 f3, .int .i64 f4, .string f5, .string f6, .int .i64 f7, .slice vb m vq], (IsVals · (.slice vb m vq) f8), (IsPks · (.slice (some ⟨gc, oc, none⟩) N lq) l)]) (fun P hP => by simp only [List.mem_cons, List.not_mem_nil, or_false] at hP ⊢; rcases hP with rfl | rfl | rfl <;> simp)
        clear hst h1 e0 e1 e2 e3 e4 e5
        have hw : IntKind.i64.wrap ((cf k : Int) + 1) = (cf k : Int) + 1 := by rw [IntKind.wrap_i64]; omega
        have hs := HCS.out
        cases q
        all_goals
          simp only [if_true, if_false, Bool.false_eq_true] at hs
          have HS := Lib.hid hs
          clear hs
          go_wp2_with fail
          go_roundw
          case rel => exact ⟨k + 1, by omega, by go_num, by rw [HS.out]; go_num, h2⟩
          case measure => simp [intOf]; omega
    · obtain rfl : N = k := by omega
      go_wp2_with fail
      go_ret
      exact ⟨by rw [HCF.out.2.2.1]; rfl, hst.below⟩
end Go.Proofs.Ytihohhjaomoemaa
