/- The walk over ChannelAnyOrder. -/
import Derived.Test.YtihohhjaomoemaaIs40
import Derived.Test.YtihohhjaomoemaaLk40
import Derived.Test.YtihohhjaomoemaaMk
import Derived.Test.YtihohhjaomoemaaRegL
import Derived.Deep.CutRange
set_option linter.unusedVariables false
set_option linter.unusedSimpArgs false
namespace Go.Proofs.Ytihohhjaomoemaa
open Go Go.RowKit

/-- A block that is no longer looked after stays as it is. -/
theorem St.shut {w0 W : World} {g : Nat} {cs : Array Value} {t : TypeId} {os : List (Nat × Obj)} {fs : List (World → Prop)} (h : St w0 W ((g, .cells cs t (0, 0)) :: os) fs) : St w0 W os (IsCells g cs :: fs) := by
  have hn : g ∉ keys os := (List.nodup_cons.1 h.nodup).1
  refine (h.loose (os1 := [])).put (Mono.cells _ _) (isCells_of (t := t) ?_)
  exact (mask_block _ _ _ (by simp [inL, hn])).trans (h.at_ 0 rfl)
theorem pIs_rows {w : World} {v : Value} {n : Nat} {xs : List Value} {l : List Int} (h : IsRow 1 w v n xs) (hx : xs = l.map (Value.int .i64)) (hn : l.length = n) : (pIs l).p v w := by
  subst hx hn
  have h1 := isIs_of h rfl
  obtain ⟨b, q, rfl, -⟩ := h1.shape
  exact ⟨b, q, rfl, h1⟩
def fillI (N k : Nat) : List Value := (List.range k).map (fun i : Nat => Value.int .i64 (i : Int)) ++ List.replicate (N - k) (.int .i64 0)
theorem fillI_set {N k : Nat} (h : k < N) : (fillI N k).toArray.setIfInBounds k (.int .i64 (k : Int)) = (fillI N (k + 1)).toArray := by
  rw [List.setIfInBounds_toArray]
  congr 1
  unfold fillI
  obtain ⟨r, hr⟩ : ∃ r, N - k = r + 1 := ⟨N - k - 1, by omega⟩
  rw [hr, show N - (k + 1) = r by omega, List.set_append_right _ _ (by simp), List.range_succ, List.map_append, List.append_assoc, List.replicate_succ]
  simp
theorem fillI_len {N k : Nat} (h : k ≤ N) : (fillI N k).length = N := by
  unfold fillI
  rw [List.length_append, List.length_map, List.length_range, List.length_replicate]
  omega
theorem fillI_at {N k : Nat} (h : k < N) : (fillI N k).toArray[k]? = some (.int .i64 0) := by
  unfold fillI
  obtain ⟨r, hr⟩ : ∃ r, N - k = r + 1 := ⟨N - k - 1, by omega⟩
  rw [List.getElem?_toArray, List.getElem?_append_right (by simp), hr]
  simp
theorem fillI_all (N : Nat) : fillI N N = ((List.range N).map fun i : Nat => (i : Int)).map (Value.int .i64) := by
  unfold fillI
  rw [Nat.sub_self, List.replicate_zero, List.append_nil, List.map_map]
  rfl
theorem fillI_zero (N : Nat) : madeCells #[Value.int .i64 0] N = (fillI N 0).toArray := by
  have e : (madeCells #[Value.int .i64 0] N).toList = List.replicate N (.int .i64 0) := by
    exact toList_madeCells_one _ N
  rw [← Array.toList_inj, e]
  simp [fillI]
theorem int_info : (Try.prog.info? 3).map (fun i => (i.zero, i.size, i.bytes)) = some (some (.int .i64 0), 1, 8) := by kernel_rfl

theorem range_get {l : List Pk} {N : Nat} (h : l.length = N) : (List.range N).map (fun j => l.getD j Pk.zero) = l := by
  subst h
  apply List.ext_getElem (by simp)
  intro i h1 h2
  simp [h2]
theorem tmod_bd (x : Int) {M : Nat} (h : 0 < M) : -(M : Int) < x.tmod M ∧ x.tmod M < M := by
  have hM : (0 : Int) < M := by omega
  by_cases hx : 0 ≤ x
  · have h1 := Int.tmod_nonneg (M : Int) hx
    have h2 := Int.tmod_lt_of_pos x hM
    omega
  · have h1 := Int.tmod_nonneg (M : Int) (show 0 ≤ -x by omega)
    have h2 := Int.tmod_lt_of_pos (-x) hM
    rw [Int.neg_tmod] at h1 h2
    omega

set_option maxRecDepth 8000 in
set_option maxHeartbeats 16000000 in
theorem order_walk (w : World) (hm : HasMax w) (l : List Pk) (lb : Option Addr) (lq : Nat) (hl : IsPks w (.slice lb l.length lq) l) (pk : List Int) (xb : Option Addr) (xq : Nat) (hp : IsIs w (.slice xb pk.length xq) pk) :
    Calls Try.prog 4 #[.agg #[.slice lb l.length lq], .slice xb pk.length xq] w fun e w' => e = .returned (.bool true) ∧ Below w.heap.size w w' := by
  obtain ⟨N, hN⟩ : ∃ N, l.length = N := ⟨_, rfl⟩
  obtain ⟨K, hK⟩ : ∃ N, pk.length = N := ⟨_, rfl⟩
  rw [hN] at hl ⊢
  rw [hK] at hp ⊢
  have HN := Lib.hid hN
  have HK := Lib.hid hK
  have hk63 : K ≤ 9223372036854775807 := by obtain ⟨_, _, e, q1, q2, -⟩ := hp.shape; unfold maxLen at q2; omega
  have h0 := ((((St.start w).putOld hasMax_mono hm).putOld (P := (IsPks · (.slice lb N lq) l)) (Mono.seq rdPk_up _ _) hl).putOld (P := (IsIs · (.slice xb K xq) pk)) (Mono.seq rdI_up _ _) hp).boxC #[.slice lb N lq] 24
  clear hl hp hN hK
  go_enter Try.func4, Try.ntmps4
  go_wp2_with fail
  refine (Calls.sV h0 (example_any _ (h0.is 3 rfl))).mono ?_
  rintro e w1 ⟨rfl, h1⟩
  clear h0
  obtain ⟨ck, hck⟩ : ∃ c, chCheck l = c := ⟨_, rfl⟩
  have HCK := Lib.hid hck
  clear hck
  have c0 := (h1.is 0 rfl : IsCells _ _ _).c1
  go_wp2_with fail
  refine (refChCheck_c h1 (h1.is 2 rfl) HN.out HCK.out).mono ?_
  rintro e w3 ⟨rfl, h3⟩
  clear h1 c0
  by_cases hk : ck = 0
  case neg =>
    have hk' := bne_of hk
    clear HCK
    have c0 := (h3.is 0 rfl : IsCells _ _ _).c1
    go_wp2_with fail
    go_ret
    exact ⟨rfl, h3.below⟩
  subst hk
  clear HCK
  have c0 := (h3.is 0 rfl : IsCells _ _ _).c1
  by_cases h60 : 60 < N
  · go_wp2_with fail
    go_ret
    exact ⟨rfl, h3.below⟩
  have hN60 : N ≤ 60 := by omega
  go_upto_region 5 with (refine wpList_make_rows _ rfl (.tmp 27) (.tmp 27) 43 rfl 3 (.int .i64 0) 1 8 Try.underlying43 int_info .i64 .i64 N rfl rfl (by omega) (by omega) ?_; intro w5 hw5; have h5 := h3.alloc (.cells (madeCells #[.int .i64 0] (N * 1)) 3); rw [← show w5 = w3.alloc (.cells (madeCells #[.int .i64 0] (N * 1)) 3) from hw5, Nat.mul_one, fillI_zero] at h5; clear hw5)
  clear h3 c0 h60
  generalize w3.heap.size = g6 at h5 ⊢
  go_wp2_with fail
  go_loopw [7] (fun c wr => ∃ k : Nat, k ≤ N ∧ c = .int .i64 k ∧ St w wr [(g6, .cells (fillI N k).toArray 3 (0, 0))] [IsCells w.heap.size #[.slice lb N lq], (IsIs · (.slice xb K xq) pk), (IsPks · (.slice lb N lq) l)]) (fun c _ => N - (intOf c).toNat)
  case atStart => exact ⟨0, by omega, rfl, h5.facts (fun P hP => by simp only [List.mem_cons, List.not_mem_nil, or_false] at hP ⊢; rcases hP with rfl | rfl | rfl <;> simp)⟩
  case round =>
    clear h5
    obtain ⟨k, hk, rfl, hst⟩ := hrel
    by_cases hlt : k < N
    · have hc : wr.cell? ⟨g6, k, none⟩ = some (.int .i64 0) := by rw [cell_of_row _ _ _ _ _ _ (hst.at_ 0 rfl)]; exact fillI_at hlt
      have f0 := frozen_of_row _ _ k _ _ (hst.at_ 0 rfl)
      have h6 := hst.setCell (os1 := []) (i := k) (v := .int .i64 (k : Int))
      rw [fillI_set hlt] at h6
      go_wp2_with fail
      go_roundw
      case rel => exact ⟨k + 1, by omega, by go_num, h6⟩
      case measure => simp [intOf]; omega
    · obtain rfl : N = k := by omega
      have h6 : St w wr [] [(IsIs · (.slice (some ⟨g6, 0, none⟩) N N) ((List.range N).map fun i : Nat => (i : Int))), IsCells w.heap.size #[.slice lb N lq], (IsIs · (.slice xb K xq) pk), (IsPks · (.slice lb N lq) l)] := (hst.loose (os1 := [])).keep (Mono.seq rdI_up _ _) (isIs_of (IsRow.block (by rw [← fillI_all]; exact hst.at_ 0 rfl) (by simp) (by unfold maxLen; omega)) (by simp))
      clear hst
      have c0 := (h6.is 1 rfl : IsCells _ _ _).c1
      go_upto_region 10 with fail
      have h7 := h6.alloc (.cells #[.slice lb N lq] 24)
      clear h6 c0
      generalize World.alloc _ _ = W7 at h7 ⊢
      generalize wr.heap.size = g8 at h7 ⊢
      go_wp2_with fail
      have hmap : (List.range N).map (fun j => l.getD j Pk.zero) = l := range_get HN.out
      go_loopw [6, 9] (fun pv iv wr => ∃ (k M : Nat) (pl : List Nat) (yb rb : Option Addr) (yq rq : Nat), k + M = N ∧ iv = .int .i64 k ∧ pv = .slice yb M yq ∧ pl.length = M ∧ (∀ j ∈ pl, j < N) ∧ St w wr [(g8, .cells #[.slice rb M rq] 24 (0, 0))] [(IsIs · (.slice yb M yq) (pl.map fun i : Nat => (i : Int))), (IsPks · (.slice rb M rq) (pl.map fun j => l.getD j Pk.zero)), IsCells w.heap.size #[.slice lb N lq], (IsIs · (.slice xb K xq) pk), (IsPks · (.slice lb N lq) l)]) (fun _ iv _ => N - (intOf iv).toNat)
      case atStart =>
        refine ⟨0, N, List.range N, _, lb, N, lq, by omega, rfl, rfl, by simp, fun j hj => List.mem_range.1 hj, ?_⟩
        rw [hmap]
        exact h7.facts (fun P hP => by simp only [List.mem_cons, List.not_mem_nil, or_false] at hP ⊢; rcases hP with rfl | rfl | rfl | rfl | rfl <;> simp)
      case round =>
        clear h7 hmap
        obtain ⟨k, M, pl, yb, rb, yq, rq, hkM, rfl, rfl, hpl, hpN, hst⟩ := hrel
        have c0 := (hst.is 2 rfl : IsCells _ _ _).c1
        have HPL := Lib.hid (And.intro hpl hpN)
        clear hpl hpN
        by_cases hlt : k < N
        · have hM0 : 0 < M := by omega
          go_upto_if 50 with fail
          clear c0
          go_cut [10] from 50 to 63 (fun c wr => (∃ n : Nat, n < M ∧ c = .int .i64 n) ∧ St w wr [(g8, .cells #[.slice rb M rq] 24 (0, 0))] [(IsIs · (.slice yb M yq) (pl.map fun i : Nat => (i : Int))), (IsPks · (.slice rb M rq) (pl.map fun j => l.getD j Pk.zero)), IsCells w.heap.size #[.slice lb N lq], (IsIs · (.slice xb K xq) pk), (IsPks · (.slice lb N lq) l)])
          case first =>
            by_cases hkK : k < K
            · obtain ⟨gx, ox, rfl, hcell⟩ := (hst.is 3 rfl : IsIs _ _ _).int_at k (by rw [HK.out]; exact hkK)
              obtain ⟨x, hx⟩ : ∃ x, pk[k]'(by rw [HK.out]; exact hkK) = x := ⟨_, rfl⟩
              rw [hx] at hcell
              clear hx
              obtain ⟨hr1, hr2⟩ := tmod_bd x hM0
              go_upto_if 59 with fail
              generalize x.tmod (M : Int) = z at hr1 hr2 ⊢
              clear hcell
              by_cases hz : z < 0
              · have hw : IntKind.i64.wrap (z + M) = z + M := by rw [IntKind.wrap_i64]; omega
                go_wp2_with fail
                go_meet
                case rel => exact ⟨⟨(z + M).toNat, by omega, by congr 1; omega⟩, hst⟩
              · go_wp2_with fail
                go_meet
                case rel => exact ⟨⟨z.toNat, by omega, by congr 1; omega⟩, hst⟩
            · go_wp2_with fail
              go_meet
              case rel => exact ⟨⟨0, hM0, rfl⟩, hst⟩
          case rest =>
          obtain ⟨⟨n, hnM, rfl⟩, h8⟩ := hcut
          clear hst
          obtain ⟨R, hR⟩ : ∃ R, (pl.map fun j => l.getD j Pk.zero) = R := ⟨_, rfl⟩
          have hRl : R.length = M := by rw [← hR, List.length_map]; exact HPL.out.1
          have hRn : n < R.length := by rw [hRl]; exact hnM
          have hpn' : n < pl.length := by rw [HPL.out.1]; exact hnM
          obtain ⟨Q, hQ⟩ : ∃ q, R[n]'hRn = q := ⟨_, rfl⟩
          obtain ⟨pn, hpn⟩ : ∃ j, pl[n]'hpn' = j := ⟨_, rfl⟩
          have hpN : pn < N := by rw [← hpn]; exact HPL.out.2 _ (List.getElem_mem _)
          have hpl : pn < l.length := by rw [HN.out]; exact hpN
          have hQl : l[pn]'hpl = Q := by subst hR hpn hQ; simp [hpl]
          have hd : delR R (n : Int) = (R.eraseIdx n, Q, 0) := by rw [delR_in hRn, hQ]
          obtain ⟨M2, rfl⟩ : ∃ M2, M = M2 + 1 := ⟨M - 1, by omega⟩
          have hl2 : (R.eraseIdx n).length = M2 := by rw [List.length_eraseIdx_of_lt hRn, hRl]; rfl
          have he : R.eraseIdx n = (pl.eraseIdx n).map fun j => l.getD j Pk.zero := by rw [← hR, List.eraseIdx_eq_take_drop_succ, List.eraseIdx_eq_take_drop_succ, List.map_append, List.map_take, List.map_drop]
          rw [hR] at h8
          have HD := Lib.hid hd
          have HRL := Lib.hid hRl
          have HL2 := Lib.hid hl2
          have HE := Lib.hid he
          have HQL := Lib.hid hQl
          have HPN := Lib.hid hpn
          clear hR hRl hRn hQ hpn hd hl2 he hQl
          obtain ⟨b1, b2, b3, g1, g2, g3, g4, g5, g6, g7, g8'⟩ := Q
          obtain ⟨kq, hkq⟩ : ∃ m, g8'.length = m := ⟨_, rfl⟩
          have HKQ := Lib.hid hkq
          clear hkq
          have hle2 : M2 + 1 ≤ 1048576 := by omega
          have c8 := cell_at (h8.at_ 0 rfl)
          go_wp2_with fail
          refine (deliver_s h8 n (h8.get 1 rfl) HRL.out hle2 HD.out HL2.out HKQ.out).mono ?_
          rintro e w14 ⟨r4, q4, ub, pb, rfl, h14⟩
          clear h8 c8
          simp only [Pk.val, Pk.cellsA] at h14 ⊢
          have h15 := (h14.alloc (.cells #[.slice none 0 0] 24)).alloc (.cells #[.string ⟨#[]⟩, .bool false, .int .i64 0, .string ⟨#[]⟩, .int .i64 0, .int .i64 0, .int .i64 0, .string ⟨#[]⟩, .string ⟨#[]⟩, .int .i64 0, .slice none 0 0] 31)
          simp only [al_size] at h15
          have h16 := h15.setRow (os1 := [_]) (cs' := #[.slice r4 M2 q4])
          have h17 := h16.setRow (os1 := []) (cs' := #[.string b1, .bool b2, .int .i64 b3, .string g1, .int .i64 g2, .int .i64 g3, .int .i64 g4, .string g5, .string g6, .int .i64 g7, .slice ub kq pb])
          go_upto_region 19 with (first
            | (refine wpList_store_row rfl 24 (.tmp 11) (.tmp 68) rfl w14.heap.size #[.slice r4 M2 q4] rfl rfl 24 _ (h15.at_ 1 rfl) ch_info rfl (ch_one _ _ _) ?_)
            | (refine wpList_store_row rfl 31 (.tmp 12) (.tmp 69) rfl (w14.heap.size + 1) #[.string b1, .bool b2, .int .i64 b3, .string g1, .int .i64 g2, .int .i64 g3, .int .i64 g4, .string g5, .string g6, .int .i64 g7, .slice ub kq pb] rfl rfl 31 _ (h16.at_ 0 rfl) pk_size rfl (pk_one _ _ _ _ _ _ _ _ _ _ _ _ _) ?_))
          have h18 := h17.shut.shut
          clear h14 h15 h16 h17
          generalize World.setRow _ _ _ = W18 at h18 ⊢
          generalize w14.heap.size = g13 at h18 ⊢
          obtain ⟨gy, oy, rfl, hcy⟩ := (h18.get 4 rfl : IsIs _ _ _).int_at n (by rw [List.length_map]; exact hpn')
          rw [List.getElem_map, HPN.out] at hcy
          obtain ⟨gc, oc, vc, qc, rfl, hvc, hrc⟩ := (h18.get 8 rfl : IsPks _ _ _).pks pn hpl
          rw [HQL.out] at hvc hrc
          simp only [Pk.cellsA] at hvc hrc
          rw [HKQ.out] at hvc hrc
          have h19 := ((h18.put (Mono.seq rdVal_up _ _) hvc).put (Mono.range _ _ _) hrc).put (Mono.cell _ _) hcy
          clear h18 hvc hrc hcy
          refine wp_region_st [pVal ?c19_0, pVal (.bool false), pVal (.bool false), pVal (.agg #[.string b1, .bool b2, .int .i64 b3, .string g1, .int .i64 g2, .int .i64 g3, .int .i64 g4, .string g5, .string g6, .int .i64 g7, .slice ub kq pb]), pVal ?c19_4, pVal (.slice (some ⟨gc, oc, none⟩) N lq), pVal ?c19_6, pVal ?c19_7, pVal (.pointer (some ⟨gy, oy + n, none⟩)), pVal (.int .i64 (pn : Int)), pVal (.pointer (some ⟨gc, oc + pn * 11, none⟩)), pVal (.agg #[.string b1, .bool b2, .int .i64 b3, .string g1, .int .i64 g2, .int .i64 g3, .int .i64 g4, .string g5, .string g6, .int .i64 g7, .slice vc kq qc]), pVal (.bool true), pVal (.bool false), pVal (.bool false)] (osC [(g8, .cells #[.slice rb (M2 + 1) rq] 24 (0, 0))]) 104 [0, 1, 3, 7, 7, 23, 7, 7, 199, 455, 1015, 2039, 4095, 8191, 16383] [[], [(0, 71)], [(1, 72)], [(2, 73)], [(2, 73)], [(2, 73), (4, 75)], [(2, 73)], [(2, 73)], [(2, 73), (7, 78), (6, 77)], [(2, 73), (8, 79)], [(2, 73), (9, 80), (5, 76)], [(2, 73), (10, 81)], [(2, 73), (11, 82), (3, 74)], [(2, 73), (12, 83)], [(13, 84), (2, 73)]] [(0, 71), (1, 72), (2, 73), (3, 74), (4, 75), (5, 76), (6, 77), (7, 78), (8, 79), (9, 80), (10, 81), (11, 82), (12, 83), (13, 84), (14, 85)] (by kernel_rfl) (by kernel_rfl) rfl rfl h19 osC0 osC1 ?ob ?en
          case ob =>
            refine ⟨?_, ?_, ?_, ?_, ?_, ?_, ?_, ?_, ?_, ?_, ?_, ?_, ?_, ?_, ?_, trivial⟩
            · -- 0: t71 := Op.move (t13)
              intro zx1 zx2 zx3 zx4 L V W hL hd hw hst 
              refine ob_c rfl ?_ hst rfl
              go_simp
              try with_reducible rfl
            · -- 1: t72 := Op.binOp BinOp.neq 33 (t71) (const (int IntKind.i64 0)) 33
              intro zx1 zx2 zx3 zx4 L V W hL hd hw hst u0 e0 p0
              obtain rfl : u0 = _ := p0
              refine ob_c (by first | rfl | (simp [wantE, dstOf, zx1]; done)) ?_ hst rfl
              go_simp
              all_goals (first | done | omega | (simp; omega) | (simp; done))
            · -- 2: t73 := Op.move (t72)
              intro zx1 zx2 zx3 zx4 L V W hL hd hw hst u1 e1 p1
              obtain rfl : u1 = _ := p1
              refine ob_c (by first | rfl | (simp [wantE, dstOf, zx1]; done)) ?_ hst rfl
              go_simp
              all_goals (first | done | omega | (simp; omega) | (simp; done))
            · -- 3: t74 := Op.load 31 (t12)
              intro zx1 zx2 zx3 zx4 L V W hL hd hw hst u2 e2 p2
              obtain rfl : u2 = _ := p2
              exact ob_c (by first | rfl | (simp [wantE, dstOf, zx1]; done)) (run_load_mid rfl rfl ((hst.base 4 rfl : IsCells _ _ _) |> Mono.cells _ _ _ _ (mask_is _ _) |>.range) Try.underlying31 rfl rfl) hst rfl
            · -- 4: t75 := Op.fieldAddr 24 (t2) 0
              intro zx1 zx2 zx3 zx4 L V W hL hd hw hst u2 e2 p2
              obtain rfl : u2 = _ := p2
              refine ob_c (by first | rfl | (simp [wantE, dstOf, zx1]; done)) ?_ hst rfl
              go_simp
              try with_reducible rfl
            · -- 5: t76 := Op.load 22 (t75)
              intro zx1 zx2 zx3 zx4 L V W hL hd hw hst u4 e4 p4 u2 e2 p2
              obtain rfl : u4 = _ := p4
              obtain rfl : u2 = _ := p2
              have hz := mask_is _ _ _ _ ((hst.base 9 rfl : IsCells _ _ _) 0 _ rfl)
              refine ob_c (by first | rfl | (simp [wantE, dstOf, zx1]; done)) ?_ hst rfl
              go_simp
              try with_reducible rfl
            · -- 6: t77 := Op.move (t6)
              intro zx1 zx2 zx3 zx4 L V W hL hd hw hst u2 e2 p2
              obtain rfl : u2 = _ := p2
              refine ob_c (by first | rfl | (simp [wantE, dstOf, zx1]; done)) ?_ hst rfl
              go_simp
              try with_reducible rfl
            · -- 7: t78 := Op.move (t10)
              intro zx1 zx2 zx3 zx4 L V W hL hd hw hst u2 e2 p2
              obtain rfl : u2 = _ := p2
              refine ob_c (by first | rfl | (simp [wantE, dstOf, zx1]; done)) ?_ hst rfl
              go_simp
              try with_reducible rfl
            · -- 8: t79 := Op.indexAddr 43 (t77) (t78)
              intro zx1 zx2 zx3 zx4 L V W hL hd hw hst u6 e6 p6 u7 e7 p7 u2 e2 p2
              obtain rfl : u6 = _ := p6
              obtain rfl : u7 = _ := p7
              obtain rfl : u2 = _ := p2
              refine ob_c (by first | rfl | (simp [wantE, dstOf, zx1]; done)) ?_ hst rfl
              go_simp
              all_goals (first | done | exact fun h => absurd h (by omega))
            · -- 9: t80 := Op.load 3 (t79)
              intro zx1 zx2 zx3 zx4 L V W hL hd hw hst u8 e8 p8 u2 e2 p2
              obtain rfl : u8 = _ := p8
              obtain rfl : u2 = _ := p2
              have hz := mask_is _ _ _ _ (hst.base 0 rfl : World.cell? _ _ = _)
              refine ob_c (by first | rfl | (simp [wantE, dstOf, zx1]; done)) ?_ hst rfl
              go_simp
              try with_reducible rfl
            · -- 10: t81 := Op.indexAddr 22 (t76) (t80)
              intro zx1 zx2 zx3 zx4 L V W hL hd hw hst u5 e5 p5 u9 e9 p9 u2 e2 p2
              obtain rfl : u5 = _ := p5
              obtain rfl : u9 = _ := p9
              obtain rfl : u2 = _ := p2
              refine ob_c (by first | rfl | (simp [wantE, dstOf, zx1]; done)) ?_ hst rfl
              go_simp
              all_goals (first | done | exact fun h => absurd h (by omega))
            · -- 11: t82 := Op.load 31 (t81)
              intro zx1 zx2 zx3 zx4 L V W hL hd hw hst u10 e10 p10 u2 e2 p2
              obtain rfl : u10 = _ := p10
              obtain rfl : u2 = _ := p2
              exact ob_c (by first | rfl | (simp [wantE, dstOf, zx1]; done)) (run_load_mid rfl rfl ((hst.base 1 rfl : World.rangeAt _ _ _ _) |> Mono.range _ _ _ _ _ (mask_is _ _)) Try.underlying31 rfl rfl) hst rfl
            · -- 12: t83 := Op.call { callee := value (func 13), args := #[t74, t82], argTypes := #[31, 31] }
              intro zx1 zx2 zx3 zx4 L V W hL hd hw hst u3 e3 p3 u11 e11 p11 u2 e2 p2
              obtain rfl : u3 = _ := p3
              obtain rfl : u11 = _ := p11
              obtain rfl : u2 = _ := p2
              refine ob_call (by first | rfl | (simp [wantE, dstOf, zx1]; done)) ?_ (samePk_p hst (⟨b1, b2, b3, ⟨g1, g2, g3, g4, g5, g6, g7, g8'⟩⟩ : Pk) (⟨b1, b2, b3, ⟨g1, g2, g3, g4, g5, g6, g7, g8'⟩⟩ : Pk) ((hst.base 5 rfl : IsVals _ _ _).sub rdVal_up (mask_is _ _)) HKQ.out ((hst.base 2 rfl : IsVals _ _ _).sub rdVal_up (mask_is _ _)) HKQ.out (decide_eq_true rfl))
              go_simp
              try rfl
            · -- 13: t84 := Op.unOp UnOp.not 4 (t83)
              intro zx1 zx2 zx3 zx4 L V W hL hd hw hst u12 e12 p12 u2 e2 p2
              obtain rfl : u12 = _ := p12
              obtain rfl : u2 = _ := p2
              refine ob_c (by first | rfl | (simp [wantE, dstOf, zx1]; done)) ?_ hst rfl
              go_simp
              all_goals (first | done | omega | (simp; omega) | (simp; done))
            · -- 14: t85 := Op.pick (t73) (const (bool true)) (t84)
              intro zx1 zx2 zx3 zx4 L V W hL hd hw hst u2 e2 p2 u13 e13 p13
              obtain rfl : u2 = _ := p2
              obtain rfl : u13 = _ := p13
              refine ob_c (by first | rfl | (simp [wantE, dstOf, zx1]; done)) ?_ hst rfl
              go_simp
              all_goals (first | done | omega | (simp; omega) | (simp; done))
          case en =>
            intro V W hst u0 e0 p0 u1 e1 p1 u2 e2 p2 u3 e3 p3 u4 e4 p4 u5 e5 p5 u6 e6 p6 u7 e7 p7 u8 e8 p8 u9 e9 p9 u10 e10 p10 u11 e11 p11 u12 e12 p12 u13 e13 p13 u14 e14 p14
            obtain rfl : u0 = _ := p0
            obtain rfl : u1 = _ := p1
            obtain rfl : u2 = _ := p2
            obtain rfl : u3 = _ := p3
            obtain rfl : u4 = _ := p4
            obtain rfl : u5 = _ := p5
            obtain rfl : u6 = _ := p6
            obtain rfl : u7 = _ := p7
            obtain rfl : u8 = _ := p8
            obtain rfl : u9 = _ := p9
            obtain rfl : u10 = _ := p10
            obtain rfl : u11 = _ := p11
            obtain rfl : u12 = _ := p12
            obtain rfl : u13 = _ := p13
            obtain rfl : u14 = _ := p14
            simp only [EndAll, Act.put, List.getElem_toArray, List.getElem_cons_succ, List.getElem_cons_zero, List.setIfInBounds_toArray, List.set_cons_zero, List.set_cons_succ]
            rw [show osC [(g8, .cells #[.slice rb (M2 + 1) rq] 24 (0, 0))] (fun _ => true) V = [(g8, .cells #[.slice rb (M2 + 1) rq] 24 (0, 0))] from rfl] at hst
            have h20 := hst.facts (fs' := [IsCells g13 #[.slice r4 M2 q4], (IsPks · (.slice r4 M2 q4) (R.eraseIdx n)), (IsIs · (.slice (some ⟨gy, oy, none⟩) (M2 + 1) yq) (pl.map fun i : Nat => (i : Int))), IsCells w.heap.size #[.slice (some ⟨gc, oc, none⟩) N lq], (IsIs · (.slice xb K xq) pk), (IsPks · (.slice (some ⟨gc, oc, none⟩) N lq) l)]) (fun P hP => by simp only [List.mem_cons, List.not_mem_nil, or_false] at hP ⊢; rcases hP with rfl | rfl | rfl | rfl | rfl | rfl <;> simp)
            clear hst h19 e0 e1 e2 e3 e4 e5 e6 e7 e8 e9 e10 e11 e12 e13 e14
            go_upto_region 21 with fail
            have hrow := (h20.get 2 rfl : IsIs _ _ _).ints
            rw [List.length_map, HPL.out.1] at hrow
            obtain ⟨_, _, erow, hcap, hmx, -⟩ := (h20.is 2 rfl : IsIs _ _ _).shape
            rw [List.length_map, HPL.out.1] at erow hcap
            cases erow
            unfold maxLen at hmx
            obtain ⟨yb, hyb⟩ : ∃ y, (some ⟨gy, oy, none⟩ : Option Addr) = y := ⟨_, rfl⟩
            rw [hyb] at h20 hrow ⊢
            clear hyb
            rw [HE.out] at h20
            obtain ⟨M, hM⟩ : ∃ M, M2 + 1 = M := ⟨_, rfl⟩
            rw [hM] at h20 hrow hcap ⊢
            have hiM : n < M := by omega
            have hm2 : M2 = n + (M - (n + 1)) := by omega
            have hkM' : k + M = N := by omega
            have hM60 : M ≤ 60 := by omega
            have hkk : k + 1 + M2 = N := by omega
            have HKK := Lib.hid hkk
            clear hkk
            have hr1 := hrow.part 0 n yq (by omega) (by omega) (by omega) (Nat.le_refl _)
            have hr2 := hrow.part (n + 1) M yq (by omega) (Nat.le_refl _) hcap (Nat.le_refl _)
            have e1 : yb.map (fun x => x.add 0) = yb := by cases yb <;> simp [Addr.add]
            rw [Nat.zero_mul, e1, ite_self, List.drop_zero, Nat.sub_zero, Nat.sub_zero] at hr1
            rw [List.take_of_length_le (by rw [List.length_map, List.length_map, HPL.out.1]; omega)] at hr2
            simp only [Nat.mul_one] at hr1 hr2
            obtain ⟨p2, hp2⟩ : ∃ p, pl.eraseIdx n = p := ⟨_, rfl⟩
            have hpm : ∀ j ∈ p2, j < N := fun j hj => HPL.out.2 j ((List.eraseIdx_sublist pl n).subset (hp2 ▸ hj))
            have hpl2 : p2.length = M2 := by rw [← hp2, List.length_eraseIdx_of_lt hpn', HPL.out.1]; rfl
            have hxs : ((pl.map fun i : Nat => (i : Int)).map (Value.int .i64)).take n ++ ((pl.map fun i : Nat => (i : Int)).map (Value.int .i64)).drop (n + 1) = (p2.map fun i : Nat => (i : Int)).map (Value.int .i64) := by
              rw [← hp2, List.eraseIdx_eq_take_drop_succ, List.map_append, List.map_append, List.map_take, List.map_take, List.map_drop, List.map_drop]
            rw [hp2] at h20
            have hone : ∀ u ∈ ((pl.map fun i : Nat => (i : Int)).map (Value.int .i64)), u.oneCell' = true := fun u hu => by
              obtain ⟨z, -, rfl⟩ := List.mem_map.1 hu
              rfl
            have hone1 := fun u (hu : u ∈ ((pl.map fun i : Nat => (i : Int)).map (Value.int .i64)).take n) => hone u (List.mem_of_mem_take hu)
            have hone2 := fun u (hu : u ∈ ((pl.map fun i : Nat => (i : Int)).map (Value.int .i64)).drop (n + 1)) => hone u (List.mem_of_mem_drop hu)
            have h21 := (h20.put (Mono.row 1 _ _ _) hr2).put (Mono.row 1 _ _ _) hr1
            generalize ((pl.map fun i : Nat => (i : Int)).map (Value.int .i64)).take n = y1 at *
            generalize ((pl.map fun i : Nat => (i : Int)).map (Value.int .i64)).drop (n + 1) = y2 at *
            have HONE1 := Lib.hid hone1
            have HONE2 := Lib.hid hone2
            have HXS := Lib.hid hxs
            have HP2 := Lib.hid (And.intro hpl2 hpm)
            have hln : (p2.map fun i : Nat => (i : Int)).length = n + (M - (n + 1)) := by rw [List.length_map, hpl2]; exact hm2
            have HLN := Lib.hid hln
            have hwr : IntKind.i64.wrap ((n : Int) + 1) = (n : Int) + 1 := by rw [IntKind.wrap_i64]; omega
            have HWR := Lib.hid hwr
            have hiq : n ≤ yq := by omega
            clear h20 hrow hr1 hr2 e1 hp2 hpm hpl2 hxs hone hone1 hone2 hln hwr hm2 hM hkM hnM
            have hilo : ¬ (n : Int) < 0 := by omega
            have hihi : ¬ (M : Int) ≤ (n : Int) := by omega
            refine wp_region_sto [pAny, pVal ?c21_1, pVal ?c21_2, pVal (.slice yb n yq), pAny, pVal ?c21_5, pVal ?c21_6, pVal (.int .i64 ((n : Int) + 1)), pVal (.slice (if yq = n + 1 then yb else yb.map (·.add (n + 1))) (M - (n + 1)) (yq - (n + 1))), pIs (p2.map fun i : Nat => (i : Int)), pIs (p2.map fun i : Nat => (i : Int))] (fun oo => osC ([(g8, .cells #[.slice rb M rq] 24 (0, 0))] ++ oo)) (owR 0 4 9 3 1 n y1) 104 [0, 0, 0, 6, 15, 0, 0, 64, 224, 511, 1023] [[], [], [], [(2, 88), (1, 87)], [(3, 89), (0, 86)], [], [], [(6, 92)], [(7, 93), (5, 91)], [(8, 94), (4, 90)], [(9, 95)]] [(0, 86), (1, 87), (2, 88), (3, 89), (4, 90), (5, 91), (6, 92), (7, 93), (8, 94), (9, 95), (10, 6)] (by kernel_rfl) (by kernel_rfl) rfl rfl h21 owR_none (fun _ _ _ => List.append_nil _) (owR_all (by decide)) osC1 ?ob ?en
            case ob =>
              refine ⟨?_, ?_, ?_, ?_, ?_, ?_, ?_, ?_, ?_, ?_, ?_, trivial⟩
              · -- 0: t86 := Op.buildSlice 43 0 #[]
                intro zx1 zx2 zx3 zx4 L V W hL hd hw oo hoo hst 
                exact obR_build rfl (by decide) (by decide) osC_perm (fun _ _ => rfl) rfl rfl Try.underlying43 (by kernel_rfl) hL (hw 4 rfl (by decide)) (hw 9 rfl (by decide)) hoo hst
              · -- 1: t87 := Op.move (t6)
                intro zx1 zx2 zx3 zx4 L V W hL hd hw oo hoo hst 
                refine opW_mono ?_ fun v W' h => ⟨oo, hoo, h⟩
                refine ob_c rfl ?_ hst rfl
                go_simp
                try with_reducible rfl
              · -- 2: t88 := Op.move (t10)
                intro zx1 zx2 zx3 zx4 L V W hL hd hw oo hoo hst 
                refine opW_mono ?_ fun v W' h => ⟨oo, hoo, h⟩
                refine ob_c rfl ?_ hst rfl
                go_simp
                try with_reducible rfl
              · -- 3: t89 := Op.slice 43 (t87) none (some (t88)) none
                intro zx1 zx2 zx3 zx4 L V W hL hd hw oo hoo hst u1 e1 p1 u2 e2 p2
                obtain rfl : u1 = _ := p1
                obtain rfl : u2 = _ := p2
                refine opW_mono ?_ fun v W' h => ⟨oo, hoo, h⟩
                refine ob_c (by first | rfl | (simp [wantE, dstOf, zx1]; done)) ?_ hst rfl
                go_simp
                all_goals (exact fun h => absurd h (by omega))
              · -- 4: t90 := Op.call { callee := builtin Builtin.append, args := #[t86, t89], argTypes := #[43, 43] }
                intro zx1 zx2 zx3 zx4 L V W hL hd hw oo hoo hst u0 e0 p0 u3 e3 p3
                obtain rfl : u3 = _ := p3
                exact obR_app1 rfl (by decide) (by decide) osC_perm (fun _ _ => rfl) rfl rfl Try.underlying43 Try.underlying43 int_info rfl (by rw [e0]; rfl) rfl (hst.base 0 rfl) HONE1.out (by omega) (by unfold maxLen; omega) (hd 0 rfl) hL (hw 9 rfl (by decide)) hoo hst
              · -- 5: t91 := Op.move (t6)
                intro zx1 zx2 zx3 zx4 L V W hL hd hw oo hoo hst 
                refine opW_mono ?_ fun v W' h => ⟨oo, hoo, h⟩
                refine ob_c rfl ?_ hst rfl
                go_simp
                try with_reducible rfl
              · -- 6: t92 := Op.move (t10)
                intro zx1 zx2 zx3 zx4 L V W hL hd hw oo hoo hst 
                refine opW_mono ?_ fun v W' h => ⟨oo, hoo, h⟩
                refine ob_c rfl ?_ hst rfl
                go_simp
                try with_reducible rfl
              · -- 7: t93 := Op.binOp BinOp.add 3 (t92) (const (int IntKind.i64 1)) 3
                intro zx1 zx2 zx3 zx4 L V W hL hd hw oo hoo hst u6 e6 p6
                obtain rfl : u6 = _ := p6
                refine opW_mono ?_ fun v W' h => ⟨oo, hoo, h⟩
                refine ob_c (by first | rfl | (simp [wantE, dstOf, zx1]; done)) ?_ hst rfl
                go_simp
                all_goals (rw [HWR.out])
              · -- 8: t94 := Op.slice 43 (t91) (some (t93)) none none
                intro zx1 zx2 zx3 zx4 L V W hL hd hw oo hoo hst u5 e5 p5 u7 e7 p7
                obtain rfl : u5 = _ := p5
                obtain rfl : u7 = _ := p7
                refine opW_mono ?_ fun v W' h => ⟨oo, hoo, h⟩
                refine ob_c (by first | rfl | (simp [wantE, dstOf, zx1]; done)) ?_ hst rfl
                go_simp
                all_goals (exact fun h => absurd (h (by omega)) (by omega))
              · -- 9: t95 := Op.call { callee := builtin Builtin.append, args := #[t90, t94], argTypes := #[43, 43] }
                intro zx1 zx2 zx3 zx4 L V W hL hd hw oo hoo hst u4 e4 p4 u8 e8 p8
                obtain rfl : u8 = _ := p8
                exact obR_app2 rfl (by decide) (by decide) osC_perm (fun _ _ => rfl) rfl rfl Try.underlying43 Try.underlying43 int_info rfl (by rw [e4]; rfl) rfl (hst.base 1 rfl) HONE2.out (by omega) (by unfold maxLen; omega) (hd 0 rfl) (hd 4 rfl) hL hoo hst (pIs (p2.map fun i : Nat => (i : Int))) (fun v' w' hr => pIs_rows hr HXS.out HLN.out)
              · -- 10: t6 := Op.assign (t95)
                intro zx1 zx2 zx3 zx4 L V W hL hd hw oo hoo hst u9 e9 p9
                refine opW_mono ?_ fun v W' h => ⟨oo, hoo, h⟩
                refine ob_v u9 rfl ?_ hst rfl p9
                go_simp
            case en =>
              intro V W hst u0 e0 p0 u1 e1 p1 u2 e2 p2 u3 e3 p3 u4 e4 p4 u5 e5 p5 u6 e6 p6 u7 e7 p7 u8 e8 p8 u9 e9 p9 u10 e10 p10
              obtain rfl : u1 = _ := p1
              obtain rfl : u2 = _ := p2
              obtain rfl : u3 = _ := p3
              obtain rfl : u5 = _ := p5
              obtain rfl : u6 = _ := p6
              obtain rfl : u7 = _ := p7
              obtain rfl : u8 = _ := p8
              obtain ⟨b9, q9, rfl, hk9⟩ := p9
              obtain ⟨b10, q10, rfl, hk10⟩ := p10
              simp only [EndAll, Act.put, List.getElem_toArray, List.getElem_cons_succ, List.getElem_cons_zero, List.setIfInBounds_toArray, List.set_cons_zero, List.set_cons_succ]
              have h22 := hst.put (Mono.seq rdI_up _ _) hk10
              rw [show osC ([(g8, .cells #[.slice rb M rq] 24 (0, 0))] ++ []) (fun _ => true) V = [(g8, .cells #[.slice rb M rq] 24 (0, 0))] from rfl] at h22
              rw [List.length_map, HP2.out.1] at h22 ⊢
              have h23 := h22.facts (fs' := [IsCells g13 #[.slice r4 M2 q4], (IsIs · (.slice b10 M2 q10) (p2.map fun i : Nat => (i : Int))), (IsPks · (.slice r4 M2 q4) (p2.map fun j => l.getD j Pk.zero)), IsCells w.heap.size #[.slice (some ⟨gc, oc, none⟩) N lq], (IsIs · (.slice xb K xq) pk), (IsPks · (.slice (some ⟨gc, oc, none⟩) N lq) l)]) (fun P hP => by simp only [List.mem_cons, List.not_mem_nil, or_false] at hP ⊢; rcases hP with rfl | rfl | rfl | rfl | rfl | rfl <;> simp)
              clear hst h22 hk9 hk10 h21
              have c13 := (h23.is 0 rfl : IsCells _ _ _).c1
              have h24 := (h23.setRow (os1 := []) (cs' := #[.slice r4 M2 q4])).pop
              go_wp2_with (refine wpList_store_row rfl 24 (.tmp 8) (.tmp 96) rfl g8 #[.slice r4 M2 q4] rfl rfl 24 _ (h23.at_ 0 rfl) ch_info rfl (ch_one _ _ _) ?_)
              go_roundw
              case rel => exact ⟨k + 1, M2, p2, b10, r4, q10, q4, HKK.out, by go_num, rfl, HP2.out.1, HP2.out.2, h24⟩
              case measure => simp [intOf]; omega
        · obtain rfl : M = 0 := by omega
          have c8 := cell_at (hst.at_ 0 rfl)
          go_wp2_with fail
          go_ret
          exact ⟨rfl, hst.below⟩
end Go.Proofs.Ytihohhjaomoemaa
