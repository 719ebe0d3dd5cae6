/- The walks over the reference's Send and Drop of channels. -/
import Derived.Test.YtihohhjaomoemaaDl
set_option linter.unusedVariables false
set_option linter.unusedSimpArgs false
namespace Go.Proofs.Ytihohhjaomoemaa
open Go Go.RowKit

def pRow1 (cs : List Value) : Pd := ⟨fun v w => ∃ g, v = .slice (some ⟨g, 0, none⟩) 1 1 ∧ IsRow 11 w v 1 cs, fun _ _ _ h ⟨g, e, k⟩ => ⟨g, e, k.sub h⟩⟩
theorem St.newRow1 {w0 W : World} {os : List (Nat × Obj)} {F : List (World → Prop)} (h : St w0 W os F) (cs : Array Value) (hc : cs.size = 11) (T : TypeId) :
    St w0 (W.alloc (.cells cs T)) os ((pRow1 cs.toList).p (.slice (some ⟨W.heap.size, 0, none⟩) 1 1) :: F) := by
  have h1 := h.alloc (.cells cs T)
  have hr : IsRow 11 (W.alloc (.cells cs T)) (.slice (some ⟨W.heap.size, 0, none⟩) 1 1) 1 cs.toList := IsRow.block (t := T) (by rw [Array.toArray_toList]; exact heap_alloc_new _ _) (by simp [hc]) (by unfold maxLen; omega)
  have hr2 := mask_row (S := inL (keys os)) hr (fun k hk => by
    have : W.heap.size = k := by cases hk; rfl
    subst this
    exact inL_no.2 fun hm => Nat.lt_irrefl _ (h.lt _ hm))
  exact (St.loose (os1 := []) h1).put ((pRow1 cs.toList).mono _) ⟨_, rfl, hr2⟩
/-- What is appended reads off S. -/
theorem pPks_rows {w0 w' : World} {os : List (Nat × Obj)} {F : List (World → Prop)} {S : Nat → Bool} {v : Value} {n : Nat} {xs : List Value} {l : List Pk} (hS : ∀ k, S k = true → k < w0.heap.size) (hs : St w0 w' os F) (ho : ∀ k, v.ownBlock = some k → w0.heap.size ≤ k) (hr : IsRow 11 (sm os w') v n xs) (hel : Elems 11 rdPk (mask S (sm os w')) xs l) (hn : l.length = n) : (pOff S (pPks l)).p v (sm os w') := by
  subst hn
  obtain ⟨b, q, rfl, -⟩ := id hr
  exact ⟨b, q, rfl, IsSeq.of (mask_row hr fun k hk => off_new hS (ho k hk)) hel rfl⟩

set_option maxRecDepth 8000 in
set_option maxHeartbeats 4000000 in
theorem refSend_any (w : World) (S : Nat → Bool) (hS : ∀ k, S k = true → k < w.heap.size) (lb : Option Addr) (lq : Nat) (l : List Pk) (x : Pk) (vb : Option Addr) (vq : Nat) (hl : IsPks (mask S w) (.slice lb l.length lq) l) (hx : IsVals (mask S w) (.slice vb x.fact.fields.length vq) x.fact.fields) :
    Calls Try.prog 19 #[.agg #[.slice lb l.length lq], x.val (.slice vb x.fact.fields.length vq)] w fun e w' => ∃ v', e = .returned (.tuple #[.agg #[v'], .int .i64 (sendR l x).2]) ∧ (pPks (sendR l x).1).p v' (mask S w') ∧ Below w.heap.size w w' := by
  obtain ⟨R, hR⟩ : ∃ R, sendR l x = R := ⟨_, rfl⟩
  rw [hR]
  have hfm := fun w hv => refFormed_any w x vb vq hv
  obtain ⟨xs, hrow, hel⟩ := hl.elems
  have hone := hel.ones
  obtain ⟨fm, hfmd⟩ : ∃ b, x.formed = b := ⟨_, rfl⟩
  rw [hfmd] at hfm
  have hr : R = if fm = false then ([], 1) else if 1024 ≤ l.length then ([], 2) else (l ++ [x], 0) := by rw [← hR, ← hfmd]; rfl
  obtain ⟨n, hnn⟩ : ∃ n, l.length = n := ⟨_, rfl⟩
  rw [hnn] at hl hrow hr ⊢
  obtain ⟨a1, a2, a3, f1, f2, f3, f4, f5, f6, f7, f8⟩ := x
  simp only [Pk.val, Pk.cellsA] at *
  obtain ⟨m, hmm⟩ : ∃ m, f8.length = m := ⟨_, rfl⟩
  rw [hmm] at hx hfm ⊢
  have hn63 : n ≤ 9223372036854775807 := by obtain ⟨_, _, e, q1, q2, -⟩ := hl.shape; unfold maxLen at q2; omega
  have h0 := ((((((St.start w).putOld (Mono.off S (Mono.seq rdVal_up _ _)) hx).putOld (Mono.off S (Mono.elems rdPk_up _ _)) hel).putOld (Mono.off S (Mono.row 11 _ _ _)) hrow).boxC #[.slice lb n lq] 24).boxC #[.string a1, .bool a2, .int .i64 a3, .string f1, .int .i64 f2, .int .i64 f3, .int .i64 f4, .string f5, .string f6, .int .i64 f7, .slice vb m vq] 31).alloc (.cells #[.slice none 0 0] 24)
  simp only [al_size] at h0
  have HFM := Lib.hid hfm
  have HONE := Lib.hid hone
  have HMM := Lib.hid (And.intro hmm hnn)
  have HR := Lib.hid hr
  clear hfm hr hR hfmd hx hl hmm hnn hrow hel hone
  go_enter Try.func19, Try.ntmps19
  go_wp2_with (refine wpList_load_mid rfl 31 (.tmp 3) rfl (w.heap.size + 1) 0 rfl [.string a1, .bool a2, .int .i64 a3, .string f1, .int .i64 f2, .int .i64 f3, .int .i64 f4, .string f5, .string f6, .int .i64 f7, .slice vb m vq] _ (h0.is 0 rfl : IsCells _ _ _).range Try.underlying31 rfl rfl ?_)
  refine (Calls.sV h0 (HFM.out _ (h0.offIs (Mono.seq rdVal_up _ _) 4 rfl))).mono ?_
  rintro e w1 ⟨rfl, h1⟩
  clear h0
  cases fm with
  | false =>
    have hr : R = ([], 1) := by rw [HR.out]; rfl
    subst hr
    go_wp2_with (refine wpList_store_row rfl 24 (.tmp 4) (.tmp 10) rfl (w.heap.size + 1 + 1) #[.slice none 0 0] rfl rfl 24 _ (h1.at_ 0 rfl) ch_info rfl (ch_one _ _ _) ?_)
    have h2 := h1.setRow (os1 := []) (cs' := #[.slice none 0 0])
    exact bodyPost_ret (results_cell1 rfl _ _ (w.heap.size + 1 + 1) 24 #[.slice none 0 0] (0, 0) _ rfl (h2.at_ 0 rfl) Try.underlying24 rfl ch_info) rfl ⟨_, rfl, pPks_nil _, h2.below⟩
  | true =>
    have c0 := (h1.is 1 rfl : IsCells _ _ _).c1
    have hr := HR.out
    simp only [Bool.true_eq_false, if_false] at hr
    by_cases hlim : 1024 ≤ n
    · rw [if_pos hlim] at hr
      subst hr
      have hge : (1024 : Int) ≤ (n : Int) := by omega
      clear HR
      go_wp2_with (refine wpList_store_row rfl 24 (.tmp 4) (.tmp 15) rfl (w.heap.size + 1 + 1) #[.slice none 0 0] rfl rfl 24 _ (h1.at_ 0 rfl) ch_info rfl (ch_one _ _ _) ?_)
      have h2 := h1.setRow (os1 := []) (cs' := #[.slice none 0 0])
      exact bodyPost_ret (results_cell1 rfl _ _ (w.heap.size + 1 + 1) 24 #[.slice none 0 0] (0, 0) _ rfl (h2.at_ 0 rfl) Try.underlying24 rfl ch_info) rfl ⟨_, rfl, pPks_nil _, h2.below⟩
    · rw [if_neg hlim] at hr
      subst hr
      have hlt : ¬ (1024 : Int) ≤ (n : Int) := by omega
      clear HR
      go_upto_region 6 with fail
      clear c0
      refine wp_region_sto [pVal ?c6_0, pVal ?c6_1, pVal (.slice lb n lq), pAny, pVal (.agg #[.string a1, .bool a2, .int .i64 a3, .string f1, .int .i64 f2, .int .i64 f3, .int .i64 f4, .string f5, .string f6, .int .i64 f7, .slice vb m vq]), pRow1 [.string a1, .bool a2, .int .i64 a3, .string f1, .int .i64 f2, .int .i64 f3, .int .i64 f4, .string f5, .string f6, .int .i64 f7, .slice vb m vq], pOff S (pPks (l ++ [(⟨a1, a2, a3, ⟨f1, f2, f3, f4, f5, f6, f7, f8⟩⟩ : Pk)])), pOff S (pPks (l ++ [(⟨a1, a2, a3, ⟨f1, f2, f3, f4, f5, f6, f7, f8⟩⟩ : Pk)]))] (fun oo => osC ([((w.heap.size + 1 + 1), .cells #[.slice none 0 0] 24 (0, 0))] ++ oo)) (ow2 3 6 31 11 n xs) 25 [0, 0, 2, 7, 0, 16, 63, 127] [[], [], [(1, 17)], [(2, 18), (0, 16)], [], [(4, 20)], [(5, 21), (3, 19)], [(6, 22)]] [(0, 16), (1, 17), (2, 18), (3, 19), (4, 20), (5, 21), (6, 22), (7, 6)] (by kernel_rfl) (by kernel_rfl) rfl rfl h1 ow2_none (fun _ _ _ => List.append_nil _) (ow2_all (by decide)) osC1 ?ob ?en
      case ob =>
        refine ⟨?_, ?_, ?_, ?_, ?_, ?_, ?_, ?_, trivial⟩
        · -- 0: t16 := Op.move (t6)
          intro zx1 zx2 zx3 zx4 L V W hL hd hw oo hoo hst 
          refine opW_mono ?_ fun v W' h => ⟨oo, hoo, h⟩
          refine ob_c rfl ?_ hst rfl
          go_simp
          try with_reducible rfl
        · -- 1: t17 := Op.fieldAddr 24 (t2) 0
          intro zx1 zx2 zx3 zx4 L V W hL hd hw oo hoo hst 
          refine opW_mono ?_ fun v W' h => ⟨oo, hoo, h⟩
          refine ob_c rfl ?_ hst rfl
          go_simp
          try with_reducible rfl
        · -- 2: t18 := Op.load 22 (t17)
          intro zx1 zx2 zx3 zx4 L V W hL hd hw oo hoo hst u1 e1 p1
          obtain rfl : u1 = _ := p1
          refine opW_mono ?_ fun v W' h => ⟨oo, hoo, h⟩
          have hz := mask_is _ _ _ _ ((hst.base 1 rfl : IsCells _ _ _) 0 _ rfl)
          refine ob_c rfl ?_ hst rfl
          go_simp
          try with_reducible rfl
        · -- 3: t19 := Op.call { callee := builtin Builtin.append, args := #[t16, t18], argTypes := #[22, 22] }
          intro zx1 zx2 zx3 zx4 L V W hL hd hw oo hoo hst u0 e0 p0 u2 e2 p2
          obtain rfl : u0 = _ := p0
          obtain rfl : u2 = _ := p2
          exact ob2_app1 rfl (by decide) osC_perm (fun _ _ => rfl) rfl rfl Try.underlying22 Try.underlying22 pk_info rfl rfl rfl (IsRow.sub (hst.base 2 rfl) (mask_is _ _)) HONE.out (by omega) (by unfold maxLen; omega) hL (hw 6 rfl (by decide)) hoo hst
        · -- 4: t20 := Op.load 31 (t3)
          intro zx1 zx2 zx3 zx4 L V W hL hd hw oo hoo hst 
          refine opW_mono ?_ fun v W' h => ⟨oo, hoo, h⟩
          exact ob_c rfl (run_load_mid rfl rfl ((hst.base 0 rfl : IsCells _ _ _) |> Mono.cells _ _ _ _ (mask_is _ _) |>.range) Try.underlying31 rfl rfl) hst rfl
        · -- 5: t21 := Op.buildSlice 22 1 #[(0, t20)]
          intro zx1 zx2 zx3 zx4 L V W hL hd hw oo hoo hst u4 e4 p4
          obtain rfl : u4 = _ := p4
          refine opW_mono ?_ fun v W' h => ⟨oo, hoo, h⟩
          refine ob_run (n := .value (.slice (some ⟨W.heap.size, 0, none⟩) 1 1)) (W' := W.alloc (.cells #[.string a1, .bool a2, .int .i64 a3, .string f1, .int .i64 f2, .int .i64 f3, .int .i64 f4, .string f5, .string f6, .int .i64 f7, .slice vb m vq] 31)) rfl ?_ ?_
          · go_simp
            try rfl
          · exact St.newRow1 hst #[.string a1, .bool a2, .int .i64 a3, .string f1, .int .i64 f2, .int .i64 f3, .int .i64 f4, .string f5, .string f6, .int .i64 f7, .slice vb m vq] rfl 31
        · -- 6: t22 := Op.call { callee := builtin Builtin.append, args := #[t19, t21], argTypes := #[22, 22] }
          intro zx1 zx2 zx3 zx4 L V W hL hd hw oo hoo hst u3 e3 p3 u5 e5 p5
          obtain ⟨g5, rfl, hk5⟩ := p5
          exact ob2_app2 rfl (by decide) osC_perm (fun _ _ => rfl) rfl rfl Try.underlying22 Try.underlying22 pk_info rfl (by rw [e3]; rfl) rfl hk5 (fun u hu => (Array.all_eq_true_iff_forall_mem.1 (pk_one a1 a2 a3 f1 f2 f3 f4 f5 f6 f7 vb m vq)) u (by simpa using hu)) (by omega) (by unfold maxLen; omega) (hd 3 rfl) hL hoo hst (pOff S (pPks (l ++ [(⟨a1, a2, a3, ⟨f1, f2, f3, f4, f5, f6, f7, f8⟩⟩ : Pk)]))) (fun v' w' hs ho hr => pPks_rows hS hs ho hr ((show Elems 11 rdPk (mask S (sm _ w')) xs l from hs.base 3 rfl).append (Elems.one (cs := [.string a1, .bool a2, .int .i64 a3, .string f1, .int .i64 f2, .int .i64 f3, .int .i64 f4, .string f5, .string f6, .int .i64 f7, .slice vb m vq]) rfl ⟨vb, vq, by simp only [HMM.out.1], by simp only [HMM.out.1]; exact hs.base 4 rfl⟩)) (by rw [List.length_append, HMM.out.2]; rfl))
        · -- 7: t6 := Op.assign (t22)
          intro zx1 zx2 zx3 zx4 L V W hL hd hw oo hoo hst u6 e6 p6
          refine opW_mono ?_ fun v W' h => ⟨oo, hoo, h⟩
          refine ob_v u6 rfl ?_ hst rfl p6
          go_simp
      case en =>
        intro V W hst u0 e0 p0 u1 e1 p1 u2 e2 p2 u3 e3 p3 u4 e4 p4 u5 e5 p5 u6 e6 p6 u7 e7 p7
        obtain rfl : u0 = _ := p0
        obtain rfl : u1 = _ := p1
        obtain rfl : u2 = _ := p2
        obtain rfl : u4 = _ := p4
        obtain ⟨g5, rfl, hk5⟩ := p5
        obtain ⟨b6, q6, rfl, hk6⟩ := p6
        obtain ⟨b7, q7, rfl, hk7⟩ := p7
        simp only [EndAll, Act.put, List.getElem_toArray, List.getElem_cons_succ, List.getElem_cons_zero, List.setIfInBounds_toArray, List.set_cons_zero, List.set_cons_succ]
        have h4 := hst.put (Mono.off S (Mono.seq rdPk_up _ _)) hk7
        rw [show osC ([((w.heap.size + 1 + 1), .cells #[.slice none 0 0] 24 (0, 0))] ++ []) (fun _ => true) V = [((w.heap.size + 1 + 1), .cells #[.slice none 0 0] 24 (0, 0))] from rfl] at h4
        clear hst hk6 hk7 hk5 e0 e1 e2 e3 e4 e5 e6 e7 h1
        obtain ⟨rn, hrn⟩ : ∃ k, (l ++ [(⟨a1, a2, a3, ⟨f1, f2, f3, f4, f5, f6, f7, f8⟩⟩ : Pk)]).length = k := ⟨_, rfl⟩
        rw [hrn] at h4 ⊢
        go_wp2_with (refine wpList_store_row rfl 24 (.tmp 4) (.tmp 24) rfl (w.heap.size + 1 + 1) #[.slice b7 rn q7] rfl rfl 24 _ (h4.at_ 0 rfl) ch_info rfl (ch_one _ _ _) ?_)
        have h5 := h4.setRow (os1 := []) (cs' := #[.slice b7 rn q7])
        have h6 := h5.loose (os1 := [])
        have k1 : IsPks (mask S _) (.slice b7 rn q7) (l ++ [(⟨a1, a2, a3, ⟨f1, f2, f3, f4, f5, f6, f7, f8⟩⟩ : Pk)]) := h6.is 0 rfl
        exact bodyPost_ret (results_cell1 rfl _ _ (w.heap.size + 1 + 1) 24 #[.slice b7 rn q7] (0, 0) _ rfl (h5.at_ 0 rfl) Try.underlying24 rfl ch_info) rfl ⟨_, rfl, ⟨b7, q7, by rw [‹(l ++ [(⟨a1, a2, a3, ⟨f1, f2, f3, f4, f5, f6, f7, f8⟩⟩ : Pk)]).length = rn›], k1⟩, h5.below⟩
set_option maxRecDepth 8000 in
set_option maxHeartbeats 4000000 in
theorem refDrop_any (w : World) (S : Nat → Bool) (hS : ∀ k, S k = true → k < w.heap.size) (lb : Option Addr) (lq : Nat) (l : List Pk) (n : Int) (hl : IsPks (mask S w) (.slice lb l.length lq) l) (hln : l.length ≤ 1048576) :
    Calls Try.prog 21 #[.agg #[.slice lb l.length lq], .int .i64 n] w fun e w' => ∃ v1, e = .returned (.tuple #[.agg #[v1], .int .i64 (dropR l n).2]) ∧ (pPks (dropR l n).1).p v1 (mask S w') ∧ Below w.heap.size w w' := by
  obtain ⟨R, hR⟩ : ∃ R, dropR l n = R := ⟨_, rfl⟩
  rw [hR]
  obtain ⟨N, hN⟩ : ∃ N, l.length = N := ⟨_, rfl⟩
  have hr : R = if 0 ≤ n ∧ n < N then (l.eraseIdx n.toNat, 0) else ([], 4) := by
    rw [← hR, ← hN]
    unfold dropR delR
    by_cases h : 0 ≤ n ∧ n < l.length
    · rw [if_pos h, if_pos h]
    · rw [if_neg h, if_neg h]
  obtain ⟨_, _, erow, hcap, hmx, -⟩ := id hl.shape
  cases erow
  rw [hN] at hl hln hcap ⊢
  have hn63 : N ≤ 9223372036854775807 := by omega
  unfold maxLen at hmx
  have h0 := (((St.start w).putOld (Mono.off S (Mono.seq rdPk_up _ _)) hl).boxC #[.slice lb N lq] 24).alloc (.cells #[.slice none 0 0] 24)
  simp only [al_size] at h0
  have HR := Lib.hid hr
  have HN := Lib.hid hN
  clear hr hR hl hN
  go_enter Try.func21, Try.ntmps21
  have c0 := (h0.is 0 rfl : IsCells _ _ _).c1
  by_cases hin : 0 ≤ n ∧ n < N
  case neg =>
    have hr := HR.out
    rw [if_neg hin] at hr
    subst hr
    clear HR
    by_cases hlo : n < 0
    case' neg => have hhi : (N : Int) ≤ n := by omega
    all_goals
      go_wp2_with (refine wpList_store_row rfl 24 (.tmp 4) (.tmp 16) rfl (w.heap.size + 1) #[.slice none 0 0] rfl rfl 24 _ (h0.at_ 0 rfl) ch_info rfl (ch_one _ _ _) ?_)
      have h2 := h0.setRow (os1 := []) (cs' := #[.slice none 0 0])
      exact bodyPost_ret (results_cell1 rfl _ _ (w.heap.size + 1) 24 #[.slice none 0 0] (0, 0) _ rfl (h2.at_ 0 rfl) Try.underlying24 rfl ch_info) rfl ⟨_, rfl, pPks_nil _, h2.below⟩
  obtain ⟨i, rfl, hi⟩ : ∃ i : Nat, n = (i : Int) ∧ i < N := ⟨n.toNat, by omega, by omega⟩
  have hil : i < l.length := by rw [HN.out]; exact hi
  have hr := HR.out
  rw [if_pos hin, Int.toNat_natCast] at hr
  subst hr
  obtain ⟨xs, hrow, hel⟩ := (show IsPks (mask S (sm _ _)) (.slice lb N lq) l from h0.get 1 rfl).elems
  have hxs := hel.1
  have hall := (hel.take i (by omega)).append (hel.drop (i + 1) (by omega))
  rw [← List.eraseIdx_eq_take_drop_succ] at hall
  have hone1 : ∀ u ∈ xs.take (i * 11), u.oneCell' = true := fun u hu => hel.ones u (List.mem_of_mem_take hu)
  have hone2 : ∀ u ∈ xs.drop ((i + 1) * 11), u.oneCell' = true := fun u hu => hel.ones u (List.mem_of_mem_drop hu)
  have hlen : (l.eraseIdx i).length = i + (N - (i + 1)) := by rw [List.length_eraseIdx_of_lt hil, HN.out]; omega
  rw [HN.out] at hrow hxs
  have hr1 := hrow.part 0 i lq (by omega) (by omega) (by omega) (Nat.le_refl _)
  have hr2 := hrow.part (i + 1) N lq (by omega) (Nat.le_refl _) hcap (Nat.le_refl _)
  have e1 : lb.map (fun x => x.add 0) = lb := by cases lb <;> simp [Addr.add]
  rw [Nat.zero_mul, e1, ite_self, List.drop_zero, Nat.sub_zero, Nat.sub_zero] at hr1
  rw [List.take_of_length_le (by omega)] at hr2
  have h1 := ((h0.put (Mono.off S (Mono.elems rdPk_up _ _)) hall).put (Mono.off S (Mono.row 11 _ _ _)) hr2).put (Mono.off S (Mono.row 11 _ _ _)) hr1
  clear h0 hrow hel hall hr1 hr2 hxs e1 HR hin
  obtain ⟨l2, hl2⟩ : ∃ l2, l.eraseIdx i = l2 := ⟨_, rfl⟩
  rw [hl2] at h1 hlen ⊢
  generalize xs.take (i * 11) = y1 at *
  generalize xs.drop ((i + 1) * 11) = y2 at *
  have HONE1 := Lib.hid hone1
  have HONE2 := Lib.hid hone2
  have HLEN := Lib.hid hlen
  have hwr : IntKind.i64.wrap ((i : Int) + 1) = (i : Int) + 1 := by rw [IntKind.wrap_i64]; omega
  have HWR := Lib.hid hwr
  have hiq : i ≤ lq := by omega
  clear hone1 hone2 hlen hwr hl2
  have hilo : ¬ (i : Int) < 0 := by omega
  have hihi : ¬ (N : Int) ≤ (i : Int) := by omega
  go_upto_region 4 with fail
  clear c0
  refine wp_region_sto [pVal ?c4_0, pVal ?c4_1, pVal (.slice lb N lq), pVal ?c4_3, pVal (.slice lb i lq), pAny, pVal ?c4_6, pVal (.slice lb N lq), pVal ?c4_8, pVal (.int .i64 ((i : Int) + 1)), pVal (.slice (if lq = i + 1 then lb else lb.map (·.add ((i + 1) * 11))) (N - (i + 1)) (lq - (i + 1))), pOff S (pPks l2), pOff S (pPks l2)] (fun oo => osC ([((w.heap.size + 1), .cells #[.slice none 0 0] 24 (0, 0))] ++ oo)) (ow2 5 11 31 11 i y1) 31 [0, 0, 2, 0, 14, 31, 0, 64, 0, 256, 960, 2047, 4095] [[], [], [(1, 18)], [], [(3, 20), (2, 19)], [(4, 21), (0, 17)], [], [(6, 23)], [], [(8, 25)], [(9, 26), (7, 24)], [(10, 27), (5, 22)], [(11, 28)]] [(0, 17), (1, 18), (2, 19), (3, 20), (4, 21), (5, 22), (6, 23), (7, 24), (8, 25), (9, 26), (10, 27), (11, 28), (12, 6)] (by kernel_rfl) (by kernel_rfl) rfl rfl h1 ow2_none (fun _ _ _ => List.append_nil _) (ow2_all (by decide)) osC1 ?ob ?en
  case ob =>
    refine ⟨?_, ?_, ?_, ?_, ?_, ?_, ?_, ?_, ?_, ?_, ?_, ?_, ?_, trivial⟩
    · -- 0: t17 := Op.move (t6)
      intro zx1 zx2 zx3 zx4 L V W hL hd hw oo hoo hst 
      refine opW_mono ?_ fun v W' h => ⟨oo, hoo, h⟩
      refine ob_c rfl ?_ hst rfl
      go_simp
      try with_reducible rfl
    · -- 1: t18 := Op.fieldAddr 24 (t2) 0
      intro zx1 zx2 zx3 zx4 L V W hL hd hw oo hoo hst 
      refine opW_mono ?_ fun v W' h => ⟨oo, hoo, h⟩
      refine ob_c rfl ?_ hst rfl
      go_simp
      try with_reducible rfl
    · -- 2: t19 := Op.load 22 (t18)
      intro zx1 zx2 zx3 zx4 L V W hL hd hw oo hoo hst u1 e1 p1
      obtain rfl : u1 = _ := p1
      refine opW_mono ?_ fun v W' h => ⟨oo, hoo, h⟩
      have hz := mask_is _ _ _ _ ((hst.base 3 rfl : IsCells _ _ _) 0 _ rfl)
      refine ob_c rfl ?_ hst rfl
      go_simp
      try with_reducible rfl
    · -- 3: t20 := Op.move (t1)
      intro zx1 zx2 zx3 zx4 L V W hL hd hw oo hoo hst 
      refine opW_mono ?_ fun v W' h => ⟨oo, hoo, h⟩
      refine ob_c rfl ?_ hst rfl
      go_simp
      try with_reducible rfl
    · -- 4: t21 := Op.slice 22 (t19) none (some (t20)) none
      intro zx1 zx2 zx3 zx4 L V W hL hd hw oo hoo hst u2 e2 p2 u3 e3 p3
      obtain rfl : u2 = _ := p2
      obtain rfl : u3 = _ := p3
      refine opW_mono ?_ fun v W' h => ⟨oo, hoo, h⟩
      refine ob_c rfl ?_ hst rfl
      go_simp
      all_goals exact fun h => absurd h (by omega)
    · -- 5: t22 := Op.call { callee := builtin Builtin.append, args := #[t17, t21], argTypes := #[22, 22] }
      intro zx1 zx2 zx3 zx4 L V W hL hd hw oo hoo hst u0 e0 p0 u4 e4 p4
      obtain rfl : u0 = _ := p0
      obtain rfl : u4 = _ := p4
      exact ob2_app1 rfl (by decide) osC_perm (fun _ _ => rfl) rfl rfl Try.underlying22 Try.underlying22 pk_info rfl rfl rfl (IsRow.sub (hst.base 0 rfl) (mask_is _ _)) HONE1.out (by omega) (by unfold maxLen; omega) hL (hw 11 rfl (by decide)) hoo hst
    · -- 6: t23 := Op.fieldAddr 24 (t2) 0
      intro zx1 zx2 zx3 zx4 L V W hL hd hw oo hoo hst 
      refine opW_mono ?_ fun v W' h => ⟨oo, hoo, h⟩
      refine ob_c rfl ?_ hst rfl
      go_simp
      try with_reducible rfl
    · -- 7: t24 := Op.load 22 (t23)
      intro zx1 zx2 zx3 zx4 L V W hL hd hw oo hoo hst u6 e6 p6
      obtain rfl : u6 = _ := p6
      refine opW_mono ?_ fun v W' h => ⟨oo, hoo, h⟩
      have hz := mask_is _ _ _ _ ((hst.base 3 rfl : IsCells _ _ _) 0 _ rfl)
      refine ob_c rfl ?_ hst rfl
      go_simp
      try with_reducible rfl
    · -- 8: t25 := Op.move (t1)
      intro zx1 zx2 zx3 zx4 L V W hL hd hw oo hoo hst 
      refine opW_mono ?_ fun v W' h => ⟨oo, hoo, h⟩
      refine ob_c rfl ?_ hst rfl
      go_simp
      try with_reducible rfl
    · -- 9: t26 := Op.binOp BinOp.add 3 (t25) (const (int IntKind.i64 1)) 3
      intro zx1 zx2 zx3 zx4 L V W hL hd hw oo hoo hst u8 e8 p8
      obtain rfl : u8 = _ := p8
      refine opW_mono ?_ fun v W' h => ⟨oo, hoo, h⟩
      refine ob_c rfl ?_ hst rfl
      go_simp
      all_goals rw [HWR.out]
    · -- 10: t27 := Op.slice 22 (t24) (some (t26)) none none
      intro zx1 zx2 zx3 zx4 L V W hL hd hw oo hoo hst u7 e7 p7 u9 e9 p9
      obtain rfl : u7 = _ := p7
      obtain rfl : u9 = _ := p9
      refine opW_mono ?_ fun v W' h => ⟨oo, hoo, h⟩
      refine ob_c rfl ?_ hst rfl
      go_simp
      all_goals exact fun h => absurd (h (by omega)) (by omega)
    · -- 11: t28 := Op.call { callee := builtin Builtin.append, args := #[t22, t27], argTypes := #[22, 22] }
      intro zx1 zx2 zx3 zx4 L V W hL hd hw oo hoo hst u5 e5 p5 u10 e10 p10
      obtain rfl : u10 = _ := p10
      exact ob2_app2 rfl (by decide) osC_perm (fun _ _ => rfl) rfl rfl Try.underlying22 Try.underlying22 pk_info rfl (by rw [e5]; rfl) rfl (IsRow.sub (hst.base 1 rfl) (mask_is _ _)) HONE2.out (by omega) (by unfold maxLen; omega) (hd 5 rfl) hL hoo hst (pOff S (pPks l2)) (fun v' w' hs ho hr => pPks_rows hS hs ho hr (show Elems 11 rdPk (mask S (sm _ w')) (y1 ++ y2) l2 from hs.base 2 rfl) HLEN.out)
    · -- 12: t6 := Op.assign (t28)
      intro zx1 zx2 zx3 zx4 L V W hL hd hw oo hoo hst u11 e11 p11
      refine opW_mono ?_ fun v W' h => ⟨oo, hoo, h⟩
      refine ob_v u11 rfl ?_ hst rfl p11
      go_simp
  case en =>
    intro V W hst u0 e0 p0 u1 e1 p1 u2 e2 p2 u3 e3 p3 u4 e4 p4 u5 e5 p5 u6 e6 p6 u7 e7 p7 u8 e8 p8 u9 e9 p9 u10 e10 p10 u11 e11 p11 u12 e12 p12
    obtain rfl : u0 = _ := p0
    obtain rfl : u1 = _ := p1
    obtain rfl : u2 = _ := p2
    obtain rfl : u3 = _ := p3
    obtain rfl : u4 = _ := p4
    obtain rfl : u6 = _ := p6
    obtain rfl : u7 = _ := p7
    obtain rfl : u8 = _ := p8
    obtain rfl : u9 = _ := p9
    obtain rfl : u10 = _ := p10
    obtain ⟨b11, q11, rfl, hk11⟩ := p11
    obtain ⟨b12, q12, rfl, hk12⟩ := p12
    simp only [EndAll, Act.put, List.getElem_toArray, List.getElem_cons_succ, List.getElem_cons_zero, List.setIfInBounds_toArray, List.set_cons_zero, List.set_cons_succ]
    have h4 := hst.put (Mono.off S (Mono.seq rdPk_up _ _)) hk12
    rw [show osC ([((w.heap.size + 1), .cells #[.slice none 0 0] 24 (0, 0))] ++ []) (fun _ => true) V = [((w.heap.size + 1), .cells #[.slice none 0 0] 24 (0, 0))] from rfl] at h4
    clear hst hk11 hk12 e0 e1 e2 e3 e4 e5 e6 e7 e8 e9 e10 e11 e12 h1
    obtain ⟨rn, hrn⟩ : ∃ k, l2.length = k := ⟨_, rfl⟩
    rw [hrn] at h4 ⊢
    generalize (if lq = i + 1 then lb else lb.map (·.add ((i + 1) * 11))) = z2
    go_wp2_with (refine wpList_store_row rfl 24 (.tmp 4) (.tmp 30) rfl (w.heap.size + 1) #[.slice b12 rn q12] rfl rfl 24 _ (h4.at_ 0 rfl) ch_info rfl (ch_one _ _ _) ?_)
    have h5 := h4.setRow (os1 := []) (cs' := #[.slice b12 rn q12])
    have h6 := h5.loose (os1 := [])
    have k1 : IsPks (mask S _) (.slice b12 rn q12) l2 := h6.is 0 rfl
    exact bodyPost_ret (results_cell1 rfl _ _ (w.heap.size + 1) 24 #[.slice b12 rn q12] (0, 0) _ rfl (h5.at_ 0 rfl) Try.underlying24 rfl ch_info) rfl ⟨_, rfl, ⟨b12, q12, by rw [hrn], k1⟩, h5.below⟩
end Go.Proofs.Ytihohhjaomoemaa
