/- The walks over channel.Check and Send. -/
import Derived.Test.YtihohhjaomoemaaCh
set_option linter.unusedVariables false
set_option linter.unusedSimpArgs false
namespace Go.Proofs.Ytihohhjaomoemaa
open Go Go.RowKit

def orS (S T : Nat → Bool) : Nat → Bool := fun k => S k || T k
theorem mask_or1 {S T : Nat → Bool} {w : World} : Sub (mask S (mask T w)) (mask (orS S T) w) := fun a v h => by
  have h1 := mask_none S _ a v h
  have h2 := mask_is S _ a v h
  have h3 := mask_none T w a v h2
  rw [World.cell?_of_block (w := w) (mask_block _ w _ (by simp [orS, h1, h3]))]
  exact mask_is T w a v h2
theorem mask_or2 {S T : Nat → Bool} {w : World} : Sub (mask (orS S T) w) (mask S (mask T w)) := fun a v h => by
  have h1 := mask_none _ w a v h
  simp only [orS, Bool.or_eq_false_iff] at h1
  rw [World.cell?_of_block (w := mask T w) (mask_block S _ _ h1.1), World.cell?_of_block (w := w) (mask_block T w _ h1.2)]
  exact mask_is _ w a v h
theorem St.callOff {w0 W w' : World} {os : List (Nat × Obj)} {fs : List (World → Prop)} {S : Nat → Bool} (h : St w0 W os fs) (hb : Below W.heap.size W w') {P : World → Prop} (hm : Mono P) (hP : P (mask (orS S (inL (keys os))) w')) : St w0 w' os ((fun x => P (mask S x)) :: fs) :=
  (h.call hb).put (Mono.off S hm) (hm _ _ mask_or2 hP)
theorem St.off {w0 W : World} {os : List (Nat × Obj)} {fs : List (World → Prop)} {S : Nat → Bool} {P : World → Prop} (h : St w0 W os fs) (hm : Mono P) (i : Nat) (hi : fs[i]? = some (fun x => P (mask S x))) : P (mask (orS S (inL (keys os))) W) := hm _ _ mask_or1 (h.get i hi)
theorem St.offIs {w0 W : World} {os : List (Nat × Obj)} {fs : List (World → Prop)} {S : Nat → Bool} {P : World → Prop} (h : St w0 W os fs) (hm : Mono P) (i : Nat) (hi : fs[i]? = some (fun x => P (mask S x))) : P W := hm _ _ (mask_is _ _) (h.is i hi)
theorem St.orLt {w0 W : World} {os : List (Nat × Obj)} {fs : List (World → Prop)} {S : Nat → Bool} (h : St w0 W os fs) (hS : ∀ k, S k = true → k < w0.heap.size) : ∀ k, orS S (inL (keys os)) k = true → k < W.heap.size := fun k hk => by
  unfold orS at hk
  rcases Bool.or_eq_true _ _ ▸ hk with h1 | h1
  · exact Nat.lt_of_lt_of_le (hS k h1) h.size
  · exact h.ltS k h1
theorem ch_info : (Try.prog.info? 24).map (·.size) = some 1 := by kernel_rfl
theorem ch_one (b : Option Addr) (n q : Nat) : (#[.slice b n q] : Array Value).all (·.oneCell') = true := by
  rw [Array.all_eq_true_iff_forall_mem]
  intro u hu
  simp only [List.mem_toArray, List.mem_cons, List.not_mem_nil, or_false] at hu
  rcases hu with rfl <;> rfl
theorem pPks_nil (w : World) : (pPks []).p (.slice none 0 0) w := ⟨none, 0, rfl, IsSeq.nil _ _ _⟩
def chCheck (l : List Pk) : Int := if 1024 < l.length then 1 else if l.all Pk.formed then 0 else 1
def sendR (l : List Pk) (p : Pk) : List Pk × Int := if p.formed = false then ([], 1) else if 1024 ≤ l.length then ([], 2) else (l ++ [p], 0)

set_option maxRecDepth 8000 in
set_option maxHeartbeats 4000000 in
theorem chCheck_any (w : World) (hm : HasMax w) (lb : Option Addr) (lq : Nat) (l : List Pk) (hl : IsPks w (.slice lb l.length lq) l) :
    Calls Try.prog 18 #[.agg #[.slice lb l.length lq]] w fun e w' => e = .returned (.int .i64 (chCheck l)) ∧ Below w.heap.size w w' := by
  obtain ⟨r, hr⟩ : ∃ r, chCheck l = r := ⟨_, rfl⟩
  rw [hr]
  obtain ⟨n, hnn⟩ : ∃ n, l.length = n := ⟨_, rfl⟩
  have hr : r = if 1024 < n then 1 else if l.all Pk.formed then 0 else 1 := by rw [← hr, ← hnn]; rfl
  rw [hnn] at hl ⊢
  have hn63 : n ≤ 9223372036854775807 := by obtain ⟨_, _, e, q1, q2, -⟩ := hl.shape; unfold maxLen at q2; omega
  have h0 := ((((St.start w).putOld hasMax_mono hm).putOld (Mono.seq rdPk_up _ _) hl).boxC #[.slice lb n lq] 24)
  have HR := Lib.hid hr
  have HN := Lib.hid hnn
  clear hr hl hnn
  go_enter Try.func18, Try.ntmps18
  have c0 := (h0.is 0 rfl : IsCells _ _ _).c1
  by_cases hbig : 1024 < n
  · have hr : Hid (r = 1) := Lib.hid (by rw [HR.out, if_pos hbig])
    have hbi : (1024 : Int) < (n : Int) := by omega
    clear HR hbig
    go_wp2_with fail
    go_ret
    exact ⟨by rw [hr.out]; rfl, h0.below⟩
  have hr : Hid (r = if l.all Pk.formed then 0 else 1) := Lib.hid (by rw [HR.out, if_neg hbig])
  have hbi : ¬ (1024 : Int) < (n : Int) := by omega
  clear HR hbig
  go_wp2_with fail
  clear c0
  go_loopw [12] (fun c wr => ∃ k : Nat, k ≤ n ∧ c = .int .i64 k ∧ (∀ i (h : i < l.length), i < k → (l[i]).formed = true) ∧ St w wr [] [IsCells w.heap.size #[.slice lb n lq], (IsPks · (.slice lb n lq) l), HasMax]) (fun c _ => n - (intOf c).toNat)
  case atStart => exact ⟨0, by omega, rfl, fun i _ h => absurd h (Nat.not_lt_zero _), h0⟩
  case round =>
    clear h0
    obtain ⟨k, hk, rfl, hok, hst⟩ := hrel
    have HOK := Lib.hid hok
    clear hok
    have c0 := (hst.is 0 rfl : IsCells _ _ _).c1
    by_cases hlt : k < n
    · have hkl : k < l.length := by rw [HN.out]; exact hlt
      obtain ⟨ga, oa, va, qa, rfl, hva, hra⟩ := (hst.is 1 rfl : IsPks _ _ _).pks k hkl
      obtain ⟨p, hp⟩ : ∃ p, l[k] = p := ⟨_, rfl⟩
      rw [hp] at hva hra
      have HP := Lib.hid hp
      clear hp
      have hfm := fun w hm hv => formed_any w p va qa hm hv
      obtain ⟨fm, hfmd⟩ : ∃ b, p.formed = b := ⟨_, rfl⟩
      rw [hfmd] at hfm
      have HF := Lib.hid hfmd
      clear hfmd
      obtain ⟨a1, a2, a3, f1, f2, f3, f4, f5, f6, f7, f8⟩ := p
      simp only [Pk.val, Pk.cellsA] at hva hra hfm
      obtain ⟨m, hm⟩ : ∃ m, f8.length = m := ⟨_, rfl⟩
      rw [hm] at hva hra hfm
      have HFM := Lib.hid hfm
      clear hm hfm
      have h5 := (hst.keep (Mono.seq rdVal_up _ _) hva).keep (Mono.range _ _ _) hra
      clear hva hra hst
      go_upto_region 6 with (first
        | (refine wpList_load_mid rfl 31 (.tmp 14) rfl ga (oa + k * 11) rfl [.string a1, .bool a2, .int .i64 a3, .string f1, .int .i64 f2, .int .i64 f3, .int .i64 f4, .string f5, .string f6, .int .i64 f7, .slice va m qa] _ (h5.is 0 rfl) Try.underlying31 rfl rfl ?_)
        | (refine wpList_store_row rfl 31 (.tmp 4) (.tmp 15) rfl wr.heap.size #[.string a1, .bool a2, .int .i64 a3, .string f1, .int .i64 f2, .int .i64 f3, .int .i64 f4, .string f5, .string f6, .int .i64 f7, .slice va m qa] rfl rfl 31 _ (heap_alloc_new _ _) pk_size rfl (pk_one _ _ _ _ _ _ _ _ _ _ _ _ _) ?_))
      have h5b := h5.newC #[.string ⟨#[]⟩, .bool false, .int .i64 0, .string ⟨#[]⟩, .int .i64 0, .int .i64 0, .int .i64 0, .string ⟨#[]⟩, .string ⟨#[]⟩, .int .i64 0, .slice none 0 0] #[.string a1, .bool a2, .int .i64 a3, .string f1, .int .i64 f2, .int .i64 f3, .int .i64 f4, .string f5, .string f6, .int .i64 f7, .slice va m qa] 31
      generalize World.setRow _ _ _ = W5 at h5b ⊢
      generalize wr.heap.size = g5 at h5b ⊢
      go_wp2_with (refine wpList_load_mid rfl 31 (.tmp 4) rfl g5 0 rfl [.string a1, .bool a2, .int .i64 a3, .string f1, .int .i64 f2, .int .i64 f3, .int .i64 f4, .string f5, .string f6, .int .i64 f7, .slice va m qa] _ (h5b.is 0 rfl : IsCells _ _ _).range Try.underlying31 rfl rfl ?_)
      refine (Calls.sV h5b (HFM.out _ (h5b.is 5 rfl) (h5b.is 2 rfl))).mono ?_
      rintro e w6 ⟨rfl, h6⟩
      clear h5b
      clear h5
      cases fm with
      | false =>
        have hr2 : Hid (r = 1) := Lib.hid (by
          rw [hr.out, if_neg]
          intro hall
          have := List.all_eq_true.1 hall _ (List.getElem_mem hkl)
          rw [HP.out, HF.out] at this
          cases this)
        go_wp2_with fail
        go_ret
        exact ⟨by rw [hr2.out]; rfl, h6.below⟩
      | true =>
        have h7 := h6.facts (fs' := [IsCells w.heap.size #[.slice (some ⟨ga, oa, none⟩) n lq], (IsPks · (.slice (some ⟨ga, oa, none⟩) n lq) l), HasMax]) (fun P hP => by simp only [List.mem_cons, List.not_mem_nil, or_false] at hP ⊢; rcases hP with rfl | rfl | rfl <;> simp)
        clear h6
        go_wp2_with fail
        go_roundw
        case rel =>
          refine ⟨k + 1, by omega, by go_num, fun i h1 h => ?_, h7⟩
          rcases Nat.lt_succ_iff_lt_or_eq.1 h with h | rfl
          · exact HOK.out i h1 h
          · rw [HP.out]; exact HF.out
        case measure => simp [intOf]; omega
    · obtain rfl : k = n := by omega
      have hr2 : Hid (r = 0) := Lib.hid (by
        rw [hr.out, if_pos]
        rw [List.all_eq_true]
        intro x hx
        obtain ⟨i, hi, rfl⟩ := List.getElem_of_mem hx
        exact HOK.out i hi (by rw [← HN.out]; exact hi))
      go_wp2_with fail
      go_ret
      exact ⟨by rw [hr2.out]; rfl, hst.below⟩
set_option maxRecDepth 8000 in
set_option maxHeartbeats 4000000 in
theorem refChCheck_any (w : World) (lb : Option Addr) (lq : Nat) (l : List Pk) (hl : IsPks w (.slice lb l.length lq) l) :
    Calls Try.prog 10 #[.agg #[.slice lb l.length lq]] w fun e w' => e = .returned (.int .i64 (chCheck l)) ∧ Below w.heap.size w w' := by
  obtain ⟨r, hr⟩ : ∃ r, chCheck l = r := ⟨_, rfl⟩
  rw [hr]
  obtain ⟨n, hnn⟩ : ∃ n, l.length = n := ⟨_, rfl⟩
  have hr : r = if 1024 < n then 1 else if l.all Pk.formed then 0 else 1 := by rw [← hr, ← hnn]; rfl
  rw [hnn] at hl ⊢
  have hn63 : n ≤ 9223372036854775807 := by obtain ⟨_, _, e, q1, q2, -⟩ := hl.shape; unfold maxLen at q2; omega
  have h0 := ((((St.start w)).putOld (Mono.seq rdPk_up _ _) hl).boxC #[.slice lb n lq] 24)
  have HR := Lib.hid hr
  have HN := Lib.hid hnn
  clear hr hl hnn
  go_enter Try.func10, Try.ntmps10
  have c0 := (h0.is 0 rfl : IsCells _ _ _).c1
  by_cases hbig : 1024 < n
  · have hr : Hid (r = 1) := Lib.hid (by rw [HR.out, if_pos hbig])
    have hbi : (1024 : Int) < (n : Int) := by omega
    clear HR hbig
    go_wp2_with fail
    go_ret
    exact ⟨by rw [hr.out]; rfl, h0.below⟩
  have hr : Hid (r = if l.all Pk.formed then 0 else 1) := Lib.hid (by rw [HR.out, if_neg hbig])
  have hbi : ¬ (1024 : Int) < (n : Int) := by omega
  clear HR hbig
  go_wp2_with fail
  clear c0
  go_loopw [3] (fun c wr => ∃ k : Nat, k ≤ n ∧ c = .int .i64 k ∧ (∀ i (h : i < l.length), i < k → (l[i]).formed = true) ∧ St w wr [] [IsCells w.heap.size #[.slice lb n lq], (IsPks · (.slice lb n lq) l)]) (fun c _ => n - (intOf c).toNat)
  case atStart => exact ⟨0, by omega, rfl, fun i _ h => absurd h (Nat.not_lt_zero _), h0⟩
  case round =>
    clear h0
    obtain ⟨k, hk, rfl, hok, hst⟩ := hrel
    have HOK := Lib.hid hok
    clear hok
    have c0 := (hst.is 0 rfl : IsCells _ _ _).c1
    by_cases hlt : k < n
    · have hkl : k < l.length := by rw [HN.out]; exact hlt
      obtain ⟨ga, oa, va, qa, rfl, hva, hra⟩ := (hst.is 1 rfl : IsPks _ _ _).pks k hkl
      obtain ⟨p, hp⟩ : ∃ p, l[k] = p := ⟨_, rfl⟩
      rw [hp] at hva hra
      have HP := Lib.hid hp
      clear hp
      have hfm := fun w hv => refFormed_any w p va qa hv
      obtain ⟨fm, hfmd⟩ : ∃ b, p.formed = b := ⟨_, rfl⟩
      rw [hfmd] at hfm
      have HF := Lib.hid hfmd
      clear hfmd
      obtain ⟨a1, a2, a3, f1, f2, f3, f4, f5, f6, f7, f8⟩ := p
      simp only [Pk.val, Pk.cellsA] at hva hra hfm
      obtain ⟨m, hm⟩ : ∃ m, f8.length = m := ⟨_, rfl⟩
      rw [hm] at hva hra hfm
      have HFM := Lib.hid hfm
      clear hm hfm
      have h5 := (hst.keep (Mono.seq rdVal_up _ _) hva).keep (Mono.range _ _ _) hra
      clear hva hra hst
      go_wp2_with (refine wpList_load_mid rfl 31 (.tmp 18) rfl ga (oa + k * 11) rfl [.string a1, .bool a2, .int .i64 a3, .string f1, .int .i64 f2, .int .i64 f3, .int .i64 f4, .string f5, .string f6, .int .i64 f7, .slice va m qa] _ (h5.is 0 rfl) Try.underlying31 rfl rfl ?_)
      refine (Calls.sV h5 (HFM.out _ (h5.is 1 rfl))).mono ?_
      rintro e w6 ⟨rfl, h6⟩
      clear h5
      cases fm with
      | false =>
        have hr2 : Hid (r = 1) := Lib.hid (by
          rw [hr.out, if_neg]
          intro hall
          have := List.all_eq_true.1 hall _ (List.getElem_mem hkl)
          rw [HP.out, HF.out] at this
          cases this)
        go_wp2_with fail
        go_ret
        exact ⟨by rw [hr2.out]; rfl, h6.below⟩
      | true =>
        have h7 := h6.facts (fs' := [IsCells w.heap.size #[.slice (some ⟨ga, oa, none⟩) n lq], (IsPks · (.slice (some ⟨ga, oa, none⟩) n lq) l)]) (fun P hP => by simp only [List.mem_cons, List.not_mem_nil, or_false] at hP ⊢; rcases hP with rfl | rfl <;> simp)
        clear h6
        go_wp2_with fail
        go_roundw
        case rel =>
          refine ⟨k + 1, by omega, by go_num, fun i h1 h => ?_, h7⟩
          rcases Nat.lt_succ_iff_lt_or_eq.1 h with h | rfl
          · exact HOK.out i h1 h
          · rw [HP.out]; exact HF.out
        case measure => simp [intOf]; omega
    · obtain rfl : k = n := by omega
      have hr2 : Hid (r = 0) := Lib.hid (by
        rw [hr.out, if_pos]
        rw [List.all_eq_true]
        intro x hx
        obtain ⟨i, hi, rfl⟩ := List.getElem_of_mem hx
        exact HOK.out i hi (by rw [← HN.out]; exact hi))
      go_wp2_with fail
      go_ret
      exact ⟨by rw [hr2.out]; rfl, hst.below⟩

set_option maxRecDepth 8000 in
set_option maxHeartbeats 4000000 in
theorem send_any (w : World) (hm : HasMax w) (S : Nat → Bool) (hS : ∀ k, S k = true → k < w.heap.size) (lb : Option Addr) (lq : Nat) (l : List Pk) (x : Pk) (vb : Option Addr) (vq : Nat) (hl : IsPks (mask S w) (.slice lb l.length lq) l) (hx : IsVals (mask S w) (.slice vb x.fact.fields.length vq) x.fact.fields) :
    Calls Try.prog 11 #[.agg #[.slice lb l.length lq], x.val (.slice vb x.fact.fields.length vq)] w fun e w' => ∃ v', e = .returned (.tuple #[.agg #[v'], .int .i64 (sendR l x).2]) ∧ (pPks (sendR l x).1).p v' (mask S w') ∧ Below w.heap.size w w' := by
  obtain ⟨R, hR⟩ : ∃ R, sendR l x = R := ⟨_, rfl⟩
  rw [hR]
  have hfm := fun w hm hv => formed_any w x vb vq hm hv
  have hwt := fun w S hS hl hx hn => with_any w S hS lb lq l x vb vq hl hx hn
  obtain ⟨fm, hfmd⟩ : ∃ b, x.formed = b := ⟨_, rfl⟩
  rw [hfmd] at hfm
  have hr : R = if fm = false then ([], 1) else if 1024 ≤ l.length then ([], 2) else (l ++ [x], 0) := by rw [← hR, ← hfmd]; rfl
  obtain ⟨n, hnn⟩ : ∃ n, l.length = n := ⟨_, rfl⟩
  rw [hnn] at hl hwt hr ⊢
  obtain ⟨a1, a2, a3, f1, f2, f3, f4, f5, f6, f7, f8⟩ := x
  simp only [Pk.val, Pk.cellsA] at *
  obtain ⟨m, hmm⟩ : ∃ m, f8.length = m := ⟨_, rfl⟩
  rw [hmm] at hx hfm hwt ⊢
  have hn63 : n ≤ 9223372036854775807 := by obtain ⟨_, _, e, q1, q2, -⟩ := hl.shape; unfold maxLen at q2; omega
  have h0 := ((((((St.start w).putOld hasMax_mono hm).putOld (Mono.off S (Mono.seq rdVal_up _ _)) hx).putOld (Mono.off S (Mono.seq rdPk_up _ _)) hl).boxC #[.slice lb n lq] 24).boxC #[.string a1, .bool a2, .int .i64 a3, .string f1, .int .i64 f2, .int .i64 f3, .int .i64 f4, .string f5, .string f6, .int .i64 f7, .slice vb m vq] 31).alloc (.cells #[.slice none 0 0] 24)
  simp only [al_size] at h0
  have HFM := Lib.hid hfm
  have HWT := Lib.hid hwt
  have HR := Lib.hid hr
  clear hfm hwt hr hR hfmd hx hl hmm hnn
  go_enter Try.func11, Try.ntmps11
  go_wp2_with (refine wpList_load_mid rfl 31 (.tmp 3) rfl (w.heap.size + 1) 0 rfl [.string a1, .bool a2, .int .i64 a3, .string f1, .int .i64 f2, .int .i64 f3, .int .i64 f4, .string f5, .string f6, .int .i64 f7, .slice vb m vq] _ (h0.is 0 rfl : IsCells _ _ _).range Try.underlying31 rfl rfl ?_)
  refine (Calls.sV h0 (HFM.out _ (h0.is 4 rfl) (h0.offIs (Mono.seq rdVal_up _ _) 3 rfl))).mono ?_
  rintro e w1 ⟨rfl, h1⟩
  clear h0
  cases fm with
  | false =>
    have hr : R = ([], 1) := by rw [HR.out]; rfl
    subst hr
    go_wp2_with (refine wpList_store_row rfl 24 (.tmp 4) (.tmp 9) rfl (w.heap.size + 1 + 1) #[.slice none 0 0] rfl rfl 24 _ (h1.at_ 0 rfl) ch_info rfl (ch_one _ _ _) ?_)
    have h2 := h1.setRow (os1 := []) (cs' := #[.slice none 0 0])
    exact bodyPost_ret (results_cell1 rfl _ _ (w.heap.size + 1 + 1) 24 #[.slice none 0 0] (0, 0) _ rfl (h2.at_ 0 rfl) Try.underlying24 rfl ch_info) rfl ⟨_, rfl, pPks_nil _, h2.below⟩
  | true =>
    have c0 := (h1.is 1 rfl : IsCells _ _ _).c1
    have hr := HR.out
    simp only [Bool.true_eq_false, if_false] at hr
    by_cases hlim : 1024 ≤ n
    · rw [if_pos hlim] at hr
      subst hr
      have hge : (1024 : Int) ≤ (n : Int) := by omega
      clear HR
      go_wp2_with (refine wpList_store_row rfl 24 (.tmp 4) (.tmp 14) rfl (w.heap.size + 1 + 1) #[.slice none 0 0] rfl rfl 24 _ (h1.at_ 0 rfl) ch_info rfl (ch_one _ _ _) ?_)
      have h2 := h1.setRow (os1 := []) (cs' := #[.slice none 0 0])
      exact bodyPost_ret (results_cell1 rfl _ _ (w.heap.size + 1 + 1) 24 #[.slice none 0 0] (0, 0) _ rfl (h2.at_ 0 rfl) Try.underlying24 rfl ch_info) rfl ⟨_, rfl, pPks_nil _, h2.below⟩
    · rw [if_neg hlim] at hr
      subst hr
      have hlt : ¬ (1024 : Int) ≤ (n : Int) := by omega
      clear HR
      go_wp2_with (refine wpList_load_mid rfl 31 (.tmp 3) rfl (w.heap.size + 1) 0 rfl [.string a1, .bool a2, .int .i64 a3, .string f1, .int .i64 f2, .int .i64 f3, .int .i64 f4, .string f5, .string f6, .int .i64 f7, .slice vb m vq] _ (h1.is 0 rfl : IsCells _ _ _).range Try.underlying31 rfl rfl ?_)
      refine (HWT.out _ (orS S (inL (keys _))) (h1.orLt hS) (h1.off (Mono.seq rdPk_up _ _) 2 rfl) (h1.off (Mono.seq rdVal_up _ _) 3 rfl) (by omega)).mono ?_
      rintro e w2 ⟨v', rfl, hv, hb⟩
      have h2 := h1.callOff (S := S) hb ((pPks _).mono v') hv
      clear hv hb h1 c0
      have hv2 : (pPks _).p v' (mask S w2) := h2.is 0 rfl
      obtain ⟨rb, rq, rfl, -⟩ := hv2
      obtain ⟨rn, hrn⟩ : ∃ k, (l ++ [(⟨a1, a2, a3, ⟨f1, f2, f3, f4, f5, f6, f7, f8⟩⟩ : Pk)]).length = k := ⟨_, rfl⟩
      rw [hrn] at h2 ⊢
      clear hrn
      go_wp2_with (refine wpList_store_row rfl 24 (.tmp 4) (.tmp 19) rfl (w.heap.size + 1 + 1) #[.slice rb rn rq] rfl rfl 24 _ (h2.at_ 0 rfl) ch_info rfl (ch_one _ _ _) ?_)
      have h3 := h2.setRow (os1 := []) (cs' := #[.slice rb rn rq])
      have h4 := h3.loose (os1 := [])
      exact bodyPost_ret (results_cell1 rfl _ _ (w.heap.size + 1 + 1) 24 #[.slice rb rn rq] (0, 0) _ rfl (h3.at_ 0 rfl) Try.underlying24 rfl ch_info) rfl ⟨_, rfl, h4.is 0 rfl, h3.below⟩
end Go.Proofs.Ytihohhjaomoemaa
