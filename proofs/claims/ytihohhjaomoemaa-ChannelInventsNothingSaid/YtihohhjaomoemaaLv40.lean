/- The walk over ChannelInventsNothing. -/
import Derived.Test.YtihohhjaomoemaaAl40
import Derived.Test.YtihohhjaomoemaaAc40
import Derived.Test.YtihohhjaomoemaaLw40
set_option linter.unusedVariables false
set_option linter.unusedSimpArgs false
namespace Go.Proofs.Ytihohhjaomoemaa
open Go Go.RowKit

theorem IsCells.rangeFrom {w : World} {g : Nat} {cs : Array Value} (h : IsCells g cs w) (o : Nat) : w.rangeAt g o (cs.toList.drop o) := fun j v hj => h (o + j) v (by simpa [List.getElem?_drop] using hj)
theorem St.swap {w0 W : World} {a b c : List (Nat × Obj)} {fs : List (World → Prop)} (h : St w0 W (a ++ (b ++ c)) fs) : St w0 W (b ++ (a ++ c)) fs := h.perm (List.perm_append_comm_assoc a b c)
theorem chk0_s {w0 W : World} {os : List (Nat × Obj)} {fs : List (World → Prop)} (h : St w0 W os fs) (hm : HasMax W) {ab : Option Addr} {aq n : Nat} {a : List Pk} (ha : IsPks W (.slice ab n aq) a) (han : a.length = n) (hr : chCheck a = 0) :
    Calls Try.prog 18 #[.agg #[.slice ab n aq]] W fun e w' => e = .returned (.int .i64 0) ∧ St w0 w' os fs := by
  subst han
  have := Calls.sV h (chCheck_any W hm ab aq a ha)
  rwa [hr] at this
theorem pk_elem {w : World} (p : Pk) {vb : Option Addr} {m vq : Nat} (h : IsVals w (.slice vb m vq) p.fact.fields) (hm : p.fact.fields.length = m) : Elems 11 rdPk w (p.cellsA (.slice vb m vq)).toList [p] := by
  subst hm
  exact Elems.one rfl ⟨_, _, rfl, h⟩
theorem chk_mk {l : List Pk} (h1 : l.length ≤ 1024) (h2 : ∀ p ∈ l, p.formed = true) : chCheck l = 0 := by
  unfold chCheck
  rw [if_neg (by omega), if_pos (List.all_eq_true.2 h2)]
theorem send_form {l S : List Pk} {p : Pk} (h : sendR l p = (S, 0)) : p.formed = true := by
  unfold sendR at h
  split at h
  · cases h
  · rename_i hh; simpa using hh
theorem send_err {l S : List Pk} {p : Pk} {s : Int} (h : sendR l p = (S, s)) (hs : s ≠ 0) : S = [] := by
  unfold sendR at h
  split at h
  · cases h; rfl
  · split at h
    · cases h; rfl
    · cases h; exact absurd rfl hs
theorem copy_err {l S : List Pk} {n s : Int} (h : copyR l n = (S, s)) (hs : s ≠ 0) : S = [] := by
  unfold copyR at h
  split at h
  · exact send_err h hs
  · cases h; rfl
theorem del_err {l S : List Pk} {p : Pk} {n s : Int} (h : delR l n = (S, p, s)) (hs : s ≠ 0) : S = [] := by
  unfold delR at h
  split at h
  · cases h; exact absurd rfl hs
  · cases h; rfl
theorem del_ok0 {l S : List Pk} {p : Pk} {n : Int} (h : delR l n = (S, p, 0)) : ∃ (i : Nat) (hi : i < l.length), n = (i : Int) ∧ S = l.eraseIdx i ∧ l[i] = p := by
  by_cases hin : 0 ≤ n ∧ n < l.length
  · obtain ⟨i, rfl, hi⟩ : ∃ i : Nat, n = (i : Int) ∧ i < l.length := ⟨n.toNat, by omega, by omega⟩
    rw [delR_in hi] at h
    cases h
    exact ⟨i, hi, rfl, rfl, rfl⟩
  · rw [delR_out hin] at h
    cases h
theorem drop_del {l S : List Pk} {n s : Int} (h : dropR l n = (S, s)) : ∃ p, delR l n = (S, p, s) := by
  unfold dropR at h
  cases h
  exact ⟨_, rfl⟩
theorem chk_more {l : List Pk} {p : Pk} (h : chCheck l = 0) (hp : p.formed = true) (hl : l.length < 1024) : chCheck (l ++ [p]) = 0 :=
  chk_mk (by rw [List.length_append, List.length_singleton]; omega) fun q hq => by
    rcases List.mem_append.1 hq with hq | hq
    · exact chk_all h q hq
    · rw [List.mem_singleton.1 hq]; exact hp
theorem chk_less {l : List Pk} (h : chCheck l = 0) (i : Nat) : chCheck (l.eraseIdx i) = 0 :=
  chk_mk (Nat.le_trans (List.length_eraseIdx_le ..) (chk_len h)) fun q hq => chk_all h q (List.mem_of_mem_eraseIdx hq)

theorem count_p {w0 W : World} {os : List (Nat × Obj)} {fs : List (World → Prop)} (h : St w0 W os fs) {lb : Option Addr} {lq n : Nat} {l : List Pk} (hl : IsPks W (.slice lb n lq) l) (hn : l.length = n) (hln : n ≤ 4611686018427387904) (p : Pk) {vb : Option Addr} {vq m : Nat} (hp : IsVals W (.slice vb m vq) p.fact.fields) (hm : p.fact.fields.length = m) {r : Nat} (hr : cntR l p = r) :
    Calls Try.prog 23 #[.slice lb n lq, p.val (.slice vb m vq)] W fun e w' => ∃ v, e = .returned v ∧ St w0 w' os ((pVal (.int .i64 (r : Int))).p v :: fs) := by
  subst hn hm hr
  exact Calls.pV h (count_any W l lb lq hl p vb vq hp hln)

set_option maxRecDepth 8000 in
set_option maxHeartbeats 16000000 in
theorem invents_walk (w : World) (hm : HasMax w) (al : List Ac) (ab : Option Addr) (aq : Nat) (ha : IsAcs w (.slice ab al.length aq) al) (hln : al.length * 152 ≤ 140737488351232) :
    Calls Try.prog 8 #[.slice ab al.length aq] w fun e w' => e = .returned (.bool true) ∧ Below w.heap.size w w' := by
  obtain ⟨K, hK⟩ : ∃ N, al.length = N := ⟨_, rfl⟩
  rw [hK] at ha hln ⊢
  have HK := Lib.hid hK
  have h0 := ((St.start w).putOld hasMax_mono hm).putOld (P := (IsAcs · (.slice ab K aq) al)) (Mono.seq rdAc_up _ _) ha
  clear ha hK
  go_enter Try.func8, Try.ntmps8
  go_wp2_with fail
  refine (Calls.sV h0 (example_any _ (h0.is 1 rfl))).mono ?_
  rintro e w1 ⟨rfl, h1⟩
  clear h0
  go_upto_region 3 with fail
  have h2 := h1.alloc (.cells #[.slice none 0 0] 24)
  clear h1
  generalize World.alloc _ _ = W2 at h2 ⊢
  generalize w1.heap.size = g4 at h2 ⊢
  go_wp2_with fail
  go_loopw [5, 6, 7] (fun nv ov iv wr => ∃ (k N5 N6 R : Nat) (xs5 xs6 : List Value) (oo5 oo6 : List (Nat × Obj)) (inn out c : List Pk) (rb : Option Addr) (rq : Nat), k ≤ K ∧ iv = .int .i64 k ∧ N5 + N6 ≤ k ∧ inn.length = N5 ∧ out.length = N6 ∧ c.length = R ∧ chCheck c = 0 ∧ Kept inn out c ∧ OwnP 31 11 nv N5 xs5 oo5 ∧ OwnP 31 11 ov N6 xs6 oo6 ∧ St w wr (oo5 ++ (oo6 ++ [(g4, .cells #[.slice rb R rq] 24 (0, 0))])) [(Elems 11 rdPk · xs5 inn), (Elems 11 rdPk · xs6 out), (IsPks · (.slice rb R rq) c), (IsAcs · (.slice ab K aq) al), HasMax]) (fun _ _ iv _ => K - (intOf iv).toNat)
  case atStart =>
    have e0 : Elems 11 rdPk (sm [(g4, Obj.cells #[.slice none 0 0] 24 (0, 0))] W2) [] [] := ⟨rfl, fun i h => absurd h (by simp)⟩
    exact ⟨0, 0, 0, 0, [], [], [], [], [], [], [], none, 0, by omega, rfl, by omega, rfl, rfl, rfl, rfl, Kept.nil, ⟨by simp, .inl ⟨rfl, rfl, rfl⟩⟩, ⟨by simp, .inl ⟨rfl, rfl, rfl⟩⟩, ((h2.put (P := (IsPks · (.slice none 0 0) [])) (Mono.seq rdPk_up _ _) (IsSeq.nil 11 rdPk _)).put (P := (Elems 11 rdPk · [] [])) (Mono.elems rdPk_up _ _) e0).put (P := (Elems 11 rdPk · [] [])) (Mono.elems rdPk_up _ _) e0⟩
  case round =>
    clear h2
    obtain ⟨k, N5, N6, R, xs5, xs6, oo5, oo6, inn, out, c, rb, rq, hk, rfl, h5k, hl5, hl6, hlc, hcc, hkp, ho5, ho6, hst⟩ := hrel
    have hR : R ≤ 1024 := by have := chk_len hcc; omega
    have h56 : 2 * N5 ≤ k + 1024 := by have := hkp.len; omega
    have h6k : 2 * N6 ≤ k := by have := hkp.len; omega
    have HL := Lib.hid (And.intro hl5 (And.intro hl6 (And.intro hlc (And.intro hkp hcc))))
    have HO := Lib.hid (And.intro ho5 ho6)
    clear hl5 hl6 hlc hkp hcc ho5 ho6
    have hle2 : R ≤ 1048576 := by omega
    by_cases hlt : k < K
    · have hkl : k < al.length := by rw [HK.out]; exact hlt
      obtain ⟨ga, oa, va, qa, rfl, hva, hn64, hra⟩ := (hst.get 3 rfl : IsAcs _ _ _).acs k hkl
      obtain ⟨x, hx⟩ : ∃ x, al[k]'hkl = x := ⟨_, rfl⟩
      rw [hx] at hva hn64 hra
      clear hx
      obtain ⟨dw, n, a1, a2, a3, f1, f2, f3, f4, f5, f6, f7, f8⟩ := x
      simp only [Ac.cells, Pk.cellsA] at hva hn64 hra
      obtain ⟨m, hmm⟩ : ∃ m, f8.length = m := ⟨_, rfl⟩
      rw [hmm] at hva hra
      have HMM := Lib.hid hmm
      have h3 := (hst.put (Mono.seq rdVal_up _ _) hva).put (Mono.range _ _ _) hra
      clear hst hva hra hmm
      go_upto_region 8 with (refine wpList_load_mid rfl 50 (.tmp 24) rfl ga (oa + k * 13) rfl _ _ (h3.is 0 rfl : World.rangeAt _ _ _ _) Try.underlying50 rfl rfl ?_)
      have h4 := (h3.alloc (.cells #[.int .i64 dw, .int .i64 n, .string a1, .bool a2, .int .i64 a3, .string f1, .int .i64 f2, .int .i64 f3, .int .i64 f4, .string f5, .string f6, .int .i64 f7, .slice va m qa] 50)).shut
      clear h3
      generalize World.alloc _ _ = W4 at h4 ⊢
      generalize wr.heap.size = g8 at h4 ⊢
      have c0 := (h4.is 0 rfl : IsCells _ _ _) 0 _ rfl
      have c1 := (h4.is 0 rfl : IsCells _ _ _) 1 _ rfl
      have d4 := cell_at (h4.find (g := g4) (o := .cells #[.slice rb R rq] 24 (0, 0)) (by simp))
      go_upto_region 10 with fail
      have h5 := h4.alloc (.cells #[.slice rb R rq] 24)
      clear h4 c0 c1 d4
      generalize World.alloc _ _ = W5 at h5 ⊢
      generalize W4.heap.size = g10 at h5 ⊢
      have hr8 := (h5.is 0 rfl : IsCells _ _ _).rangeFrom 2
      go_upto_region 11 with (refine wpList_load_mid rfl 31 (.tmp 29) rfl g8 2 rfl _ _ hr8 Try.underlying31 rfl rfl ?_)
      have h6 := h5.alloc (.cells #[.string a1, .bool a2, .int .i64 a3, .string f1, .int .i64 f2, .int .i64 f3, .int .i64 f4, .string f5, .string f6, .int .i64 f7, .slice va m qa] 31)
      clear h5 hr8
      generalize World.alloc _ _ = W6 at h6 ⊢
      generalize W5.heap.size = g12 at h6 ⊢
      have c0 := (h6.is 0 rfl : IsCells _ _ _) 0 _ rfl
      have d4 := cell_at (h6.find (g := g4) (o := .cells #[.slice rb R rq] 24 (0, 0)) (by simp))
      have hr12 := (isCells_of (h6.at_ 0 rfl)).range
      by_cases hd0 : dw = 0
      · subst hd0
        obtain ⟨⟨S2, s2⟩, hS⟩ : ∃ R, sendR c (⟨a1, a2, a3, ⟨f1, f2, f3, f4, f5, f6, f7, f8⟩⟩ : Pk) = R := ⟨_, rfl⟩
        obtain ⟨N2, hN2⟩ : ∃ N, S2.length = N := ⟨_, rfl⟩
        have RS := Lib.hid hS
        have L2 := Lib.hid hN2
        clear hS hN2
        go_wp2_with (refine wpList_load_mid rfl 31 (.tmp 12) rfl g12 0 rfl [.string a1, .bool a2, .int .i64 a3, .string f1, .int .i64 f2, .int .i64 f3, .int .i64 f4, .string f5, .string f6, .int .i64 f7, .slice va m qa] _ hr12 Try.underlying31 rfl rfl ?_)
        refine (send_s h6 (h6.is 7 rfl) (⟨a1, a2, a3, ⟨f1, f2, f3, f4, f5, f6, f7, f8⟩⟩ : Pk) (h6.get 5 rfl) HL.out.2.2.1 (h6.get 2 rfl) HMM.out RS.out L2.out).mono ?_
        rintro e w8 ⟨b2, q2, rfl, h8⟩
        clear h6 c0 d4 hr12
        have h9 := h8.setRow (os1 := [_]) (cs' := #[.slice b2 N2 q2])
        go_upto_region 19 with (refine wpList_store_row rfl 24 (.tmp 10) (.tmp 45) rfl g10 #[.slice b2 N2 q2] rfl rfl 24 _ (h8.at_ 1 rfl) ch_info rfl (ch_one _ _ _) ?_)
        have h9' := h9.shut.shut
        have h10 := h9'.facts (fs' := [IsCells g10 #[.slice b2 N2 q2], IsCells g12 #[.string a1, .bool a2, .int .i64 a3, .string f1, .int .i64 f2, .int .i64 f3, .int .i64 f4, .string f5, .string f6, .int .i64 f7, .slice va m qa], (IsPks · (.slice b2 N2 q2) S2), IsCells g8 #[.int .i64 0, .int .i64 n, .string a1, .bool a2, .int .i64 a3, .string f1, .int .i64 f2, .int .i64 f3, .int .i64 f4, .string f5, .string f6, .int .i64 f7, .slice va m qa], (IsVals · (.slice va m qa) f8), (Elems 11 rdPk · xs5 inn), (Elems 11 rdPk · xs6 out), (IsPks · (.slice rb R rq) c), (IsAcs · (.slice (some ⟨ga, oa, none⟩) K aq) al), HasMax]) (fun P hP => by simp only [List.mem_cons, List.not_mem_nil, or_false] at hP ⊢; rcases hP with rfl | rfl | rfl | rfl | rfl | rfl | rfl | rfl | rfl | rfl <;> simp)
        clear h8 h9 h9' 
        generalize World.setRow _ _ _ = W10 at h10 ⊢
        by_cases hs : s2 = 0
        case neg =>
          have hs' := bne_of hs
          have hS0 := send_err RS.out hs
          obtain rfl : N2 = 0 := by have := L2.out; rw [hS0] at this; exact this.symm
          clear hS0
          have c0 := (h10.is 0 rfl : IsCells _ _ _).c1
          go_wp2_with fail
          go_roundw
          case rel => exact ⟨k + 1, N5, N6, R, xs5, xs6, oo5, oo6, inn, out, c, rb, rq, by omega, by go_num, by omega, HL.out.1, HL.out.2.1, HL.out.2.2.1, HL.out.2.2.2.2, HL.out.2.2.2.1, HO.out.1, HO.out.2, h10.facts (fun P hP => by simp only [List.mem_cons, List.not_mem_nil, or_false] at hP ⊢; rcases hP with rfl | rfl | rfl | rfl | rfl <;> simp)⟩
          case measure => simp [intOf]; omega
        subst hs
        obtain ⟨rfl, hlt2⟩ := send_ok0 RS.out
        have hck2 := chk_more HL.out.2.2.2.2 (send_form RS.out) hlt2
        have hR2 : R < 1024 := by have := HL.out.2.2.1; omega
        obtain rfl : N2 = R + 1 := by rw [← L2.out, List.length_append, HL.out.2.2.1]; rfl
        have c0 := (h10.is 0 rfl : IsCells _ _ _).c1
        go_wp2_with fail
        refine (chk0_s h10 (h10.is 9 rfl) (h10.is 2 rfl) L2.out hck2).mono ?_
        rintro e w11 ⟨rfl, h11⟩
        clear h10 c0
        have c0 := (h11.is 3 rfl : IsCells _ _ _) 0 _ rfl
        have hr12 := (h11.is 1 rfl : IsCells _ _ _).range
        go_upto_region 26 with fail
        have h13 := h11.alloc (.cells #[.string a1, .bool a2, .int .i64 a3, .string f1, .int .i64 f2, .int .i64 f3, .int .i64 f4, .string f5, .string f6, .int .i64 f7, .slice va m qa] 31)
        have h14 := h13.shut
        have hone : ∀ u ∈ ([.string a1, .bool a2, .int .i64 a3, .string f1, .int .i64 f2, .int .i64 f3, .int .i64 f4, .string f5, .string f6, .int .i64 f7, .slice va m qa] : List Value), u.oneCell' = true := fun u hu => by simp only [List.mem_cons, List.not_mem_nil, or_false] at hu; rcases hu with rfl | rfl | rfl | rfl | rfl | rfl | rfl | rfl | rfl | rfl | rfl <;> rfl
        go_upto_region 33 with (first | (refine wpList_load_mid rfl 31 (.tmp 12) rfl g12 0 rfl [.string a1, .bool a2, .int .i64 a3, .string f1, .int .i64 f2, .int .i64 f3, .int .i64 f4, .string f5, .string f6, .int .i64 f7, .slice va m qa] _ hr12 Try.underlying31 rfl rfl ?_) | (at_builtin; go_loud (refine wpList_append_any' rfl (.tmp 85) (.tmp 87) 22 22 rfl w.heap.size 31 (.agg #[.string ⟨#[]⟩, .bool false, .int .i64 0, .string ⟨#[]⟩, .int .i64 0, .int .i64 0, .int .i64 0, .string ⟨#[]⟩, .string ⟨#[]⟩, .int .i64 0, .slice none 0 0]) 11 136 Try.underlying22 pk_info rfl _ N5 xs5 rfl (HO.out.1.owns h14) _ 1 [.string a1, .bool a2, .int .i64 a3, .string f1, .int .i64 f2, .int .i64 f3, .int .i64 f4, .string f5, .string f6, .int .i64 f7, .slice va m qa] rfl (Src.row Try.underlying22 (IsRow.block (n := 1) (xs := [.string a1, .bool a2, .int .i64 a3, .string f1, .int .i64 f2, .int .i64 f3, .int .i64 f4, .string f5, .string f6, .int .i64 f7, .slice va m qa]) (h13.at_ 0 rfl) rfl (by unfold maxLen; omega)) hone) (by omega) (by unfold maxLen; omega) h14.size ?_); intro v' w' r1 r2 r3))
        obtain ⟨oo', k2, h15⟩ := HO.out.1.append h14 r1 r2 r3
        have h16 := h15.put (Mono.elems rdPk_up _ _) (Elems.append (h15.get 6 rfl) (pk_elem (⟨a1, a2, a3, ⟨f1, f2, f3, f4, f5, f6, f7, f8⟩⟩ : Pk) (h15.get 5 rfl) HMM.out : Elems 11 rdPk _ [.string a1, .bool a2, .int .i64 a3, .string f1, .int .i64 f2, .int .i64 f3, .int .i64 f4, .string f5, .string f6, .int .i64 f7, .slice va m qa] [(⟨a1, a2, a3, ⟨f1, f2, f3, f4, f5, f6, f7, f8⟩⟩ : Pk)]))
        have c10 := (h16.is 2 rfl : IsCells _ _ _).c1
        clear r1 r2 r3 h15 h14 h13 h11 hone hr12 c0
        have h17 := St.setRow (os1 := oo' ++ oo6) (os2 := []) (cs' := #[.slice b2 (R + 1) q2]) (by rw [List.append_assoc]; exact h16)
        rw [List.append_assoc] at h17
        go_wp2_with (refine wpList_store_row rfl 24 (.tmp 4) (.tmp 129) rfl g4 #[.slice b2 (R + 1) q2] rfl rfl 24 _ (h16.find (g := g4) (o := .cells #[.slice rb R rq] 24 (0, 0)) (by simp)) ch_info rfl (ch_one _ _ _) ?_)
        go_roundw
        case rel => exact ⟨k + 1, N5 + 1, N6, (R + 1), (xs5 ++ [.string a1, .bool a2, .int .i64 a3, .string f1, .int .i64 f2, .int .i64 f3, .int .i64 f4, .string f5, .string f6, .int .i64 f7, .slice va m qa]), xs6, oo', oo6, (inn ++ [(⟨a1, a2, a3, ⟨f1, f2, f3, f4, f5, f6, f7, f8⟩⟩ : Pk)]), out, (c ++ [(⟨a1, a2, a3, ⟨f1, f2, f3, f4, f5, f6, f7, f8⟩⟩ : Pk)]), b2, q2, by omega, by go_num, by omega, by simp [HL.out.1], HL.out.2.1, L2.out, hck2, (HL.out.2.2.2.1.more _), k2, HO.out.2, h17.facts (fun P hP => by simp only [List.mem_cons, List.not_mem_nil, or_false] at hP ⊢; rcases hP with rfl | rfl | rfl | rfl | rfl <;> simp)⟩
        case measure => simp [intOf]; omega
      by_cases hd1 : dw = 1
      · subst hd1
        clear hd0
        obtain ⟨⟨S2, Q, s2⟩, hS⟩ : ∃ R, delR c n = R := ⟨_, rfl⟩
        obtain ⟨N2, hN2⟩ : ∃ N, S2.length = N := ⟨_, rfl⟩
        obtain ⟨b1, bb2, b3, g1, g2, g3, g4q, g5, g6, g7, g8q⟩ := Q
        obtain ⟨kq, hkq⟩ : ∃ m, g8q.length = m := ⟨_, rfl⟩
        have HKQ := Lib.hid hkq
        have RS := Lib.hid hS
        have L2 := Lib.hid hN2
        clear hS hN2 hkq
        go_wp2_with fail
        refine (deliver_s h6 n (h6.get 5 rfl) HL.out.2.2.1 hle2 RS.out L2.out HKQ.out).mono ?_
        rintro e w8 ⟨b2, q2, ub, pb, rfl, h8⟩
        clear h6 c0 d4 hr12
        simp only [Pk.val, Pk.cellsA] at h8 ⊢
        have h9 := h8.setRow (os1 := [_]) (cs' := #[.slice b2 N2 q2])
        have h9b := h9.setRow (os1 := []) (cs' := #[.string b1, .bool bb2, .int .i64 b3, .string g1, .int .i64 g2, .int .i64 g3, .int .i64 g4q, .string g5, .string g6, .int .i64 g7, .slice ub kq pb])
        go_upto_region 19 with (first
          | (refine wpList_store_row rfl 24 (.tmp 10) (.tmp 53) rfl g10 #[.slice b2 N2 q2] rfl rfl 24 _ (h8.at_ 1 rfl) ch_info rfl (ch_one _ _ _) ?_)
          | (refine wpList_store_row rfl 31 (.tmp 12) (.tmp 54) rfl g12 #[.string b1, .bool bb2, .int .i64 b3, .string g1, .int .i64 g2, .int .i64 g3, .int .i64 g4q, .string g5, .string g6, .int .i64 g7, .slice ub kq pb] rfl rfl 31 _ (h9.at_ 0 rfl) pk_size rfl (pk_one _ _ _ _ _ _ _ _ _ _ _ _ _) ?_))
        have h9' := h9b.shut.shut
        have h10 := h9'.facts (fs' := [IsCells g10 #[.slice b2 N2 q2], IsCells g12 #[.string b1, .bool bb2, .int .i64 b3, .string g1, .int .i64 g2, .int .i64 g3, .int .i64 g4q, .string g5, .string g6, .int .i64 g7, .slice ub kq pb], (IsPks · (.slice b2 N2 q2) S2), IsCells g8 #[.int .i64 1, .int .i64 n, .string a1, .bool a2, .int .i64 a3, .string f1, .int .i64 f2, .int .i64 f3, .int .i64 f4, .string f5, .string f6, .int .i64 f7, .slice va m qa], (IsVals · (.slice va m qa) f8), (Elems 11 rdPk · xs5 inn), (Elems 11 rdPk · xs6 out), (IsPks · (.slice rb R rq) c), (IsAcs · (.slice (some ⟨ga, oa, none⟩) K aq) al), HasMax, (IsVals · (.slice ub kq pb) g8q)]) (fun P hP => by simp only [List.mem_cons, List.not_mem_nil, or_false] at hP ⊢; rcases hP with rfl | rfl | rfl | rfl | rfl | rfl | rfl | rfl | rfl | rfl | rfl <;> simp)
        clear h8 h9 h9' h9b
        generalize World.setRow _ _ _ = W10 at h10 ⊢
        by_cases hs : s2 = 0
        case neg =>
          have hs' := bne_of hs
          have hS0 := del_err RS.out hs
          obtain rfl : N2 = 0 := by have := L2.out; rw [hS0] at this; exact this.symm
          clear hS0
          have c0 := (h10.is 0 rfl : IsCells _ _ _).c1
          go_wp2_with fail
          go_roundw
          case rel => exact ⟨k + 1, N5, N6, R, xs5, xs6, oo5, oo6, inn, out, c, rb, rq, by omega, by go_num, by omega, HL.out.1, HL.out.2.1, HL.out.2.2.1, HL.out.2.2.2.2, HL.out.2.2.2.1, HO.out.1, HO.out.2, h10.facts (fun P hP => by simp only [List.mem_cons, List.not_mem_nil, or_false] at hP ⊢; rcases hP with rfl | rfl | rfl | rfl | rfl <;> simp)⟩
          case measure => simp [intOf]; omega
        subst hs
        obtain ⟨i, hil, rfl, rfl, hQ⟩ := del_ok0 RS.out
        have hiR : i < R := by rw [← HL.out.2.2.1]; exact hil
        have hck2 := chk_less HL.out.2.2.2.2 i
        have hkp2 := HL.out.2.2.2.1.less hil
        have hN2 : N2 + 1 = R := by have := L2.out; rw [List.length_eraseIdx_of_lt hil, HL.out.2.2.1] at this; omega
        rw [hQ] at hkp2
        have HC2 := Lib.hid (And.intro hck2 hkp2)
        have HQ := Lib.hid hQ
        clear hQ hck2 hkp2 RS
        have c0 := (h10.is 0 rfl : IsCells _ _ _).c1
        go_wp2_with fail
        refine (chk0_s h10 (h10.is 9 rfl) (h10.is 2 rfl) L2.out HC2.out.1).mono ?_
        rintro e w11 ⟨rfl, h11⟩
        clear h10 c0
        have c0 := (h11.is 3 rfl : IsCells _ _ _) 0 _ rfl
        obtain ⟨gc, oc, vc, qc, rfl, hvc, hrc⟩ := (h11.get 7 rfl : IsPks _ _ _).pks i hil
        rw [HQ.out] at hvc hrc
        simp only [Pk.cellsA] at hvc hrc
        rw [HKQ.out] at hvc hrc
        have h12 := (h11.put (Mono.seq rdVal_up _ _) hvc).put (Mono.range _ _ _) hrc
        clear h11 hvc hrc
        have d4 := cell_at (h12.find (g := g4) (o := .cells #[.slice (some ⟨gc, oc, none⟩) R rq] 24 (0, 0)) (by simp))
        have hilo : ¬ (i : Int) < 0 := by omega
        have hihi : ¬ (R : Int) ≤ (i : Int) := by omega
        go_upto_region 30 with fail
        clear c0 d4
        refine wp_region_st [pVal ?c30a_0, pVal (.int .i64 1), pVal (.bool true), pVal (.bool true), pVal (.agg #[.string b1, .bool bb2, .int .i64 b3, .string g1, .int .i64 g2, .int .i64 g3, .int .i64 g4q, .string g5, .string g6, .int .i64 g7, .slice ub kq pb]), pVal ?c30a_5, pVal (.slice (some ⟨gc, oc, none⟩) R rq), pVal ?c30a_7, pVal (.pointer (some ⟨gc, oc + i * 11, none⟩)), pVal (.agg #[.string b1, .bool bb2, .int .i64 b3, .string g1, .int .i64 g2, .int .i64 g3, .int .i64 g4q, .string g5, .string g6, .int .i64 g7, .slice vc kq qc]), pVal (.bool true), pVal (.bool false), pVal (.bool false)] (osC (oo5 ++ (oo6 ++ [(g4, .cells #[.slice (some ⟨gc, oc, none⟩) R rq] 24 (0, 0))]))) 167 [0, 1, 3, 7, 15, 15, 47, 15, 239, 495, 1023, 2047, 4095] [[], [(0, 108)], [(1, 109)], [(2, 110)], [(3, 111)], [(3, 111)], [(3, 111), (5, 113)], [(3, 111)], [(3, 111), (7, 115), (6, 114)], [(3, 111), (8, 116)], [(3, 111), (9, 117), (4, 112)], [(3, 111), (10, 118)], [(11, 119), (3, 111)]] [(0, 108), (1, 109), (2, 110), (3, 111), (4, 112), (5, 113), (6, 114), (7, 115), (8, 116), (9, 117), (10, 118), (11, 119), (12, 120)] (by kernel_rfl) (by kernel_rfl) rfl rfl h12 osC0 osC1 ?ob ?en
        case ob =>
          refine ⟨?_, ?_, ?_, ?_, ?_, ?_, ?_, ?_, ?_, ?_, ?_, ?_, ?_, trivial⟩
          · -- 0: t108 := Op.fieldAddr 50 (t8) 0
            intro zx1 zx2 zx3 zx4 L V W hL hd hw hst 
            refine ob_c rfl ?_ hst rfl
            go_simp
            try with_reducible rfl
          · -- 1: t109 := Op.load 3 (t108)
            intro zx1 zx2 zx3 zx4 L V W hL hd hw hst u0 e0 p0
            obtain rfl : u0 = _ := p0
            have hz := mask_is _ _ _ _ ((hst.base 5 rfl : IsCells _ _ _) 0 _ rfl)
            refine ob_c (by first | rfl | (simp [wantE, dstOf, zx1]; done)) ?_ hst rfl
            go_simp
            try with_reducible rfl
          · -- 2: t110 := Op.binOp BinOp.eql 3 (t109) (const (int IntKind.i64 1)) 3
            intro zx1 zx2 zx3 zx4 L V W hL hd hw hst u1 e1 p1
            obtain rfl : u1 = _ := p1
            refine ob_c (by first | rfl | (simp [wantE, dstOf, zx1]; done)) ?_ hst rfl
            go_simp
            all_goals (first | done | omega | (simp; omega) | (simp; done))
          · -- 3: t111 := Op.move (t110)
            intro zx1 zx2 zx3 zx4 L V W hL hd hw hst u2 e2 p2
            obtain rfl : u2 = _ := p2
            refine ob_c (by first | rfl | (simp [wantE, dstOf, zx1]; done)) ?_ hst rfl
            go_simp
            all_goals (first | done | omega | (simp; omega) | (simp; done))
          · -- 4: t112 := Op.load 31 (t12)
            intro zx1 zx2 zx3 zx4 L V W hL hd hw hst u3 e3 p3
            obtain rfl : u3 = _ := p3
            exact ob_c (by first | rfl | (simp [wantE, dstOf, zx1]; done)) (run_load_mid rfl rfl ((hst.base 3 rfl : IsCells _ _ _) |> Mono.cells _ _ _ _ (mask_is _ _) |>.range) Try.underlying31 rfl rfl) hst rfl
          · -- 5: t113 := Op.fieldAddr 24 (t4) 0
            intro zx1 zx2 zx3 zx4 L V W hL hd hw hst u3 e3 p3
            obtain rfl : u3 = _ := p3
            refine ob_c (by first | rfl | (simp [wantE, dstOf, zx1]; done)) ?_ hst rfl
            go_simp
            try with_reducible rfl
          · -- 6: t114 := Op.load 22 (t113)
            intro zx1 zx2 zx3 zx4 L V W hL hd hw hst u5 e5 p5 u3 e3 p3
            obtain rfl : u5 = _ := p5
            obtain rfl : u3 = _ := p3
            have hz := cell_at (hst.find (g := g4) (o := .cells #[.slice (some ⟨gc, oc, none⟩) R rq] 24 (0, 0)) (by simp [osC]))
            refine ob_c (by first | rfl | (simp [wantE, dstOf, zx1]; done)) ?_ hst rfl
            go_simp
            try with_reducible rfl
          · -- 7: t115 := Op.move (t9)
            intro zx1 zx2 zx3 zx4 L V W hL hd hw hst u3 e3 p3
            obtain rfl : u3 = _ := p3
            refine ob_c (by first | rfl | (simp [wantE, dstOf, zx1]; done)) ?_ hst rfl
            go_simp
            try with_reducible rfl
          · -- 8: t116 := Op.indexAddr 22 (t114) (t115)
            intro zx1 zx2 zx3 zx4 L V W hL hd hw hst u6 e6 p6 u7 e7 p7 u3 e3 p3
            obtain rfl : u6 = _ := p6
            obtain rfl : u7 = _ := p7
            obtain rfl : u3 = _ := p3
            refine ob_c (by first | rfl | (simp [wantE, dstOf, zx1]; done)) ?_ hst rfl
            go_simp
            all_goals (first | done | exact fun h => absurd h (by omega))
          · -- 9: t117 := Op.load 31 (t116)
            intro zx1 zx2 zx3 zx4 L V W hL hd hw hst u8 e8 p8 u3 e3 p3
            obtain rfl : u8 = _ := p8
            obtain rfl : u3 = _ := p3
            exact ob_c (by first | rfl | (simp [wantE, dstOf, zx1]; done)) (run_load_mid rfl rfl ((hst.base 0 rfl : World.rangeAt _ _ _ _) |> Mono.range _ _ _ _ _ (mask_is _ _)) Try.underlying31 rfl rfl) hst rfl
          · -- 10: t118 := Op.call { callee := value (func 13), args := #[t112, t117], argTypes := #[31, 31] }
            intro zx1 zx2 zx3 zx4 L V W hL hd hw hst u4 e4 p4 u9 e9 p9 u3 e3 p3
            obtain rfl : u4 = _ := p4
            obtain rfl : u9 = _ := p9
            obtain rfl : u3 = _ := p3
            refine ob_call (by first | rfl | (simp [wantE, dstOf, zx1]; done)) ?_ (samePk_p hst (⟨b1, bb2, b3, ⟨g1, g2, g3, g4q, g5, g6, g7, g8q⟩⟩ : Pk) (⟨b1, bb2, b3, ⟨g1, g2, g3, g4q, g5, g6, g7, g8q⟩⟩ : Pk) ((hst.base 12 rfl : IsVals _ _ _).sub rdVal_up (mask_is _ _)) HKQ.out ((hst.base 1 rfl : IsVals _ _ _).sub rdVal_up (mask_is _ _)) HKQ.out (decide_eq_true rfl))
            go_simp
            try rfl
          · -- 11: t119 := Op.unOp UnOp.not 4 (t118)
            intro zx1 zx2 zx3 zx4 L V W hL hd hw hst u10 e10 p10 u3 e3 p3
            obtain rfl : u10 = _ := p10
            obtain rfl : u3 = _ := p3
            refine ob_c (by first | rfl | (simp [wantE, dstOf, zx1]; done)) ?_ hst rfl
            go_simp
            all_goals (first | done | omega | (simp; omega) | (simp; done))
          · -- 12: t120 := Op.pick (t111) (t119) (const (bool false))
            intro zx1 zx2 zx3 zx4 L V W hL hd hw hst u3 e3 p3 u11 e11 p11
            obtain rfl : u3 = _ := p3
            obtain rfl : u11 = _ := p11
            refine ob_c (by first | rfl | (simp [wantE, dstOf, zx1]; done)) ?_ hst rfl
            go_simp
            all_goals (first | done | omega | (simp; omega) | (simp; done))
        case en =>
          intro V W hst u0 e0 p0 u1 e1 p1 u2 e2 p2 u3 e3 p3 u4 e4 p4 u5 e5 p5 u6 e6 p6 u7 e7 p7 u8 e8 p8 u9 e9 p9 u10 e10 p10 u11 e11 p11 u12 e12 p12
          obtain rfl : u0 = _ := p0
          obtain rfl : u1 = _ := p1
          obtain rfl : u2 = _ := p2
          obtain rfl : u3 = _ := p3
          obtain rfl : u4 = _ := p4
          obtain rfl : u5 = _ := p5
          obtain rfl : u6 = _ := p6
          obtain rfl : u7 = _ := p7
          obtain rfl : u8 = _ := p8
          obtain rfl : u9 = _ := p9
          obtain rfl : u10 = _ := p10
          obtain rfl : u11 = _ := p11
          obtain rfl : u12 = _ := p12
          simp only [EndAll, Act.put, List.getElem_toArray, List.getElem_cons_succ, List.getElem_cons_zero, List.setIfInBounds_toArray, List.set_cons_zero, List.set_cons_succ]
          rw [show osC (oo5 ++ (oo6 ++ [(g4, .cells #[.slice (some ⟨gc, oc, none⟩) R rq] 24 (0, 0))])) (fun _ => true) V = (oo5 ++ (oo6 ++ [(g4, .cells #[.slice (some ⟨gc, oc, none⟩) R rq] 24 (0, 0))])) from rfl] at hst
          have h20 := hst.facts (fs' := [(World.rangeAt · gc (oc + i * 11) [.string b1, .bool bb2, .int .i64 b3, .string g1, .int .i64 g2, .int .i64 g3, .int .i64 g4q, .string g5, .string g6, .int .i64 g7, .slice vc kq qc]), (IsVals · (.slice vc kq qc) g8q), IsCells g10 #[.slice b2 N2 q2], IsCells g12 #[.string b1, .bool bb2, .int .i64 b3, .string g1, .int .i64 g2, .int .i64 g3, .int .i64 g4q, .string g5, .string g6, .int .i64 g7, .slice ub kq pb], (IsPks · (.slice b2 N2 q2) (c.eraseIdx i)), IsCells g8 #[.int .i64 1, .int .i64 (i : Int), .string a1, .bool a2, .int .i64 a3, .string f1, .int .i64 f2, .int .i64 f3, .int .i64 f4, .string f5, .string f6, .int .i64 f7, .slice va m qa], (IsVals · (.slice va m qa) f8), (Elems 11 rdPk · xs5 inn), (Elems 11 rdPk · xs6 out), (IsPks · (.slice (some ⟨gc, oc, none⟩) R rq) c), (IsAcs · (.slice (some ⟨ga, oa, none⟩) K aq) al), HasMax]) (fun P hP => by simp only [List.mem_cons, List.not_mem_nil, or_false] at hP ⊢; rcases hP with rfl | rfl | rfl | rfl | rfl | rfl | rfl | rfl | rfl | rfl | rfl | rfl <;> simp)
          clear hst h12 e0 e1 e2 e3 e4 e5 e6 e7 e8 e9 e10 e11 e12
          have d4 := cell_at (h20.find (g := g4) (o := .cells #[.slice (some ⟨gc, oc, none⟩) R rq] 24 (0, 0)) (by simp))
          have c0 := (h20.is 5 rfl : IsCells _ _ _) 0 _ rfl
          have h13 := h20.alloc (.cells #[.string b1, .bool bb2, .int .i64 b3, .string g1, .int .i64 g2, .int .i64 g3, .int .i64 g4q, .string g5, .string g6, .int .i64 g7, .slice vc kq qc] 31)
          have h14 := h13.shut.swap
          have hone : ∀ u ∈ ([.string b1, .bool bb2, .int .i64 b3, .string g1, .int .i64 g2, .int .i64 g3, .int .i64 g4q, .string g5, .string g6, .int .i64 g7, .slice vc kq qc] : List Value), u.oneCell' = true := fun u hu => by simp only [List.mem_cons, List.not_mem_nil, or_false] at hu; rcases hu with rfl | rfl | rfl | rfl | rfl | rfl | rfl | rfl | rfl | rfl | rfl <;> rfl
          go_upto_region 33 with (first | (refine wpList_load_mid rfl 31 (.tmp 125) rfl gc (oc + i * 11) rfl [.string b1, .bool bb2, .int .i64 b3, .string g1, .int .i64 g2, .int .i64 g3, .int .i64 g4q, .string g5, .string g6, .int .i64 g7, .slice vc kq qc] _ (h20.is 0 rfl : World.rangeAt _ _ _ _) Try.underlying31 rfl rfl ?_) | (at_builtin; go_loud (refine wpList_append_any' rfl (.tmp 121) (.tmp 127) 22 22 rfl w.heap.size 31 (.agg #[.string ⟨#[]⟩, .bool false, .int .i64 0, .string ⟨#[]⟩, .int .i64 0, .int .i64 0, .int .i64 0, .string ⟨#[]⟩, .string ⟨#[]⟩, .int .i64 0, .slice none 0 0]) 11 136 Try.underlying22 pk_info rfl _ N6 xs6 rfl (HO.out.2.owns h14) _ 1 [.string b1, .bool bb2, .int .i64 b3, .string g1, .int .i64 g2, .int .i64 g3, .int .i64 g4q, .string g5, .string g6, .int .i64 g7, .slice vc kq qc] rfl (Src.row Try.underlying22 (IsRow.block (n := 1) (xs := [.string b1, .bool bb2, .int .i64 b3, .string g1, .int .i64 g2, .int .i64 g3, .int .i64 g4q, .string g5, .string g6, .int .i64 g7, .slice vc kq qc]) (h13.at_ 0 rfl) rfl (by unfold maxLen; omega)) hone) (by omega) (by unfold maxLen; omega) h14.size ?_); intro v' w' r1 r2 r3))
          obtain ⟨oo', k2, h15⟩ := HO.out.2.append h14 r1 r2 r3
          have h16 := h15.swap.put (Mono.elems rdPk_up _ _) (Elems.append (h15.swap.get 9 rfl) (pk_elem (⟨b1, bb2, b3, ⟨g1, g2, g3, g4q, g5, g6, g7, g8q⟩⟩ : Pk) (h15.swap.get 2 rfl) HKQ.out : Elems 11 rdPk _ [.string b1, .bool bb2, .int .i64 b3, .string g1, .int .i64 g2, .int .i64 g3, .int .i64 g4q, .string g5, .string g6, .int .i64 g7, .slice vc kq qc] [(⟨b1, bb2, b3, ⟨g1, g2, g3, g4q, g5, g6, g7, g8q⟩⟩ : Pk)]))
          have c10 := (h16.is 4 rfl : IsCells _ _ _).c1
          clear r1 r2 r3 h15 h14 h13 h20 hone c0 d4
          have h17 := St.setRow (os1 := oo5 ++ oo') (os2 := []) (cs' := #[.slice b2 N2 q2]) (by rw [List.append_assoc]; exact h16)
          rw [List.append_assoc] at h17
          go_wp2_with (refine wpList_store_row rfl 24 (.tmp 4) (.tmp 129) rfl g4 #[.slice b2 N2 q2] rfl rfl 24 _ (h16.find (g := g4) (o := .cells #[.slice (some ⟨gc, oc, none⟩) R rq] 24 (0, 0)) (by simp)) ch_info rfl (ch_one _ _ _) ?_)
          go_roundw
          case rel => exact ⟨k + 1, N5, N6 + 1, N2, xs5, (xs6 ++ [.string b1, .bool bb2, .int .i64 b3, .string g1, .int .i64 g2, .int .i64 g3, .int .i64 g4q, .string g5, .string g6, .int .i64 g7, .slice vc kq qc]), oo5, oo', inn, (out ++ [(⟨b1, bb2, b3, ⟨g1, g2, g3, g4q, g5, g6, g7, g8q⟩⟩ : Pk)]), (c.eraseIdx i), b2, q2, by omega, by go_num, by omega, HL.out.1, by simp [HL.out.2.1], L2.out, HC2.out.1, HC2.out.2, HO.out.1, k2, h17.facts (fun P hP => by simp only [List.mem_cons, List.not_mem_nil, or_false] at hP ⊢; rcases hP with rfl | rfl | rfl | rfl | rfl <;> simp)⟩
          case measure => simp [intOf]; omega
      by_cases hd2 : dw = 2
      · subst hd2
        clear hd0 hd1
        obtain ⟨⟨S2, s2⟩, hS⟩ : ∃ R, dropR c n = R := ⟨_, rfl⟩
        obtain ⟨N2, hN2⟩ : ∃ N, S2.length = N := ⟨_, rfl⟩
        obtain ⟨Q0, hD⟩ := drop_del hS
        have RS := Lib.hid hS
        have RD := Lib.hid hD
        have L2 := Lib.hid hN2
        clear hS hN2 hD
        go_wp2_with fail
        refine (drop_s h6 n (h6.get 5 rfl) HL.out.2.2.1 hle2 RS.out L2.out).mono ?_
        rintro e w8 ⟨b2, q2, rfl, h8⟩
        clear h6 c0 d4 hr12
        have h9 := h8.setRow (os1 := [_]) (cs' := #[.slice b2 N2 q2])
        go_upto_region 19 with (refine wpList_store_row rfl 24 (.tmp 10) (.tmp 62) rfl g10 #[.slice b2 N2 q2] rfl rfl 24 _ (h8.at_ 1 rfl) ch_info rfl (ch_one _ _ _) ?_)
        have h9' := h9.shut.shut
        have h10 := h9'.facts (fs' := [IsCells g10 #[.slice b2 N2 q2], IsCells g12 #[.string a1, .bool a2, .int .i64 a3, .string f1, .int .i64 f2, .int .i64 f3, .int .i64 f4, .string f5, .string f6, .int .i64 f7, .slice va m qa], (IsPks · (.slice b2 N2 q2) S2), IsCells g8 #[.int .i64 2, .int .i64 n, .string a1, .bool a2, .int .i64 a3, .string f1, .int .i64 f2, .int .i64 f3, .int .i64 f4, .string f5, .string f6, .int .i64 f7, .slice va m qa], (IsVals · (.slice va m qa) f8), (Elems 11 rdPk · xs5 inn), (Elems 11 rdPk · xs6 out), (IsPks · (.slice rb R rq) c), (IsAcs · (.slice (some ⟨ga, oa, none⟩) K aq) al), HasMax]) (fun P hP => by simp only [List.mem_cons, List.not_mem_nil, or_false] at hP ⊢; rcases hP with rfl | rfl | rfl | rfl | rfl | rfl | rfl | rfl | rfl | rfl <;> simp)
        clear h8 h9 h9' 
        generalize World.setRow _ _ _ = W10 at h10 ⊢
        by_cases hs : s2 = 0
        case neg =>
          have hs' := bne_of hs
          have hS0 := del_err RD.out hs
          obtain rfl : N2 = 0 := by have := L2.out; rw [hS0] at this; exact this.symm
          clear hS0
          have c0 := (h10.is 0 rfl : IsCells _ _ _).c1
          go_wp2_with fail
          go_roundw
          case rel => exact ⟨k + 1, N5, N6, R, xs5, xs6, oo5, oo6, inn, out, c, rb, rq, by omega, by go_num, by omega, HL.out.1, HL.out.2.1, HL.out.2.2.1, HL.out.2.2.2.2, HL.out.2.2.2.1, HO.out.1, HO.out.2, h10.facts (fun P hP => by simp only [List.mem_cons, List.not_mem_nil, or_false] at hP ⊢; rcases hP with rfl | rfl | rfl | rfl | rfl <;> simp)⟩
          case measure => simp [intOf]; omega
        subst hs
        obtain ⟨i, hil, rfl, rfl, hQ⟩ := del_ok0 RD.out
        have hiR : i < R := by rw [← HL.out.2.2.1]; exact hil
        have hck2 := chk_less HL.out.2.2.2.2 i
        have hkp2 := HL.out.2.2.2.1.less hil
        have hN2 : N2 + 1 = R := by have := L2.out; rw [List.length_eraseIdx_of_lt hil, HL.out.2.2.1] at this; omega
        rw [hQ] at hkp2
        have HC2 := Lib.hid (And.intro hck2 hkp2)
        have HQ := Lib.hid hQ
        clear hQ hck2 hkp2 RS RD
        obtain ⟨b1, bb2, b3, g1, g2, g3, g4q, g5, g6, g7, g8q⟩ := Q0
        obtain ⟨kq, hkq⟩ : ∃ m, g8q.length = m := ⟨_, rfl⟩
        have HKQ := Lib.hid hkq
        clear hkq
        have c0 := (h10.is 0 rfl : IsCells _ _ _).c1
        go_wp2_with fail
        refine (chk0_s h10 (h10.is 9 rfl) (h10.is 2 rfl) L2.out HC2.out.1).mono ?_
        rintro e w11 ⟨rfl, h11⟩
        clear h10 c0
        have c0 := (h11.is 3 rfl : IsCells _ _ _) 0 _ rfl
        obtain ⟨gc, oc, vc, qc, rfl, hvc, hrc⟩ := (h11.get 7 rfl : IsPks _ _ _).pks i hil
        rw [HQ.out] at hvc hrc
        simp only [Pk.cellsA] at hvc hrc
        rw [HKQ.out] at hvc hrc
        have h12 := (h11.put (Mono.seq rdVal_up _ _) hvc).put (Mono.range _ _ _) hrc
        clear h11 hvc hrc
        have d4 := cell_at (h12.find (g := g4) (o := .cells #[.slice (some ⟨gc, oc, none⟩) R rq] 24 (0, 0)) (by simp))
        have hilo : ¬ (i : Int) < 0 := by omega
        have hihi : ¬ (R : Int) ≤ (i : Int) := by omega
        go_upto_region 30 with fail
        clear c0 d4
        refine wp_region_st [pVal ?c30b_0, pVal (.int .i64 2), pVal (.bool false), pVal (.bool false), pVal undef, pVal undef, pVal undef, pVal undef, pVal undef, pVal undef, pVal undef, pVal undef, pVal (.bool false)] (osC (oo5 ++ (oo6 ++ [(g4, .cells #[.slice (some ⟨gc, oc, none⟩) R rq] 24 (0, 0))]))) 167 [0, 1, 3, 7, 15, 15, 47, 15, 239, 495, 1023, 2047, 4095] [[], [(0, 108)], [(1, 109)], [(2, 110)], [(3, 111)], [(3, 111)], [(3, 111), (5, 113)], [(3, 111)], [(3, 111), (7, 115), (6, 114)], [(3, 111), (8, 116)], [(3, 111), (9, 117), (4, 112)], [(3, 111), (10, 118)], [(11, 119), (3, 111)]] [(0, 108), (1, 109), (2, 110), (3, 111), (4, 112), (5, 113), (6, 114), (7, 115), (8, 116), (9, 117), (10, 118), (11, 119), (12, 120)] (by kernel_rfl) (by kernel_rfl) rfl rfl h12 osC0 osC1 ?ob ?en
        case ob =>
          refine ⟨?_, ?_, ?_, ?_, ?_, ?_, ?_, ?_, ?_, ?_, ?_, ?_, ?_, trivial⟩
          · -- 0: t108 := Op.fieldAddr 50 (t8) 0
            intro zx1 zx2 zx3 zx4 L V W hL hd hw hst 
            refine ob_c rfl ?_ hst rfl
            go_simp
            try with_reducible rfl
          · -- 1: t109 := Op.load 3 (t108)
            intro zx1 zx2 zx3 zx4 L V W hL hd hw hst u0 e0 p0
            obtain rfl : u0 = _ := p0
            have hz := mask_is _ _ _ _ ((hst.base 5 rfl : IsCells _ _ _) 0 _ rfl)
            refine ob_c (by first | rfl | (simp [wantE, dstOf, zx1]; done)) ?_ hst rfl
            go_simp
            try with_reducible rfl
          · -- 2: t110 := Op.binOp BinOp.eql 3 (t109) (const (int IntKind.i64 1)) 3
            intro zx1 zx2 zx3 zx4 L V W hL hd hw hst u1 e1 p1
            obtain rfl : u1 = _ := p1
            refine ob_c (by first | rfl | (simp [wantE, dstOf, zx1]; done)) ?_ hst rfl
            go_simp
            all_goals (first | done | omega | (simp; omega) | (simp; done))
          · -- 3: t111 := Op.move (t110)
            intro zx1 zx2 zx3 zx4 L V W hL hd hw hst u2 e2 p2
            obtain rfl : u2 = _ := p2
            refine ob_c (by first | rfl | (simp [wantE, dstOf, zx1]; done)) ?_ hst rfl
            go_simp
            all_goals (first | done | omega | (simp; omega) | (simp; done))
          · -- 4: t112 := Op.load 31 (t12)
            intro zx1 zx2 zx3 zx4 L V W hL hd hw hst u3 e3 p3
            obtain rfl : u3 = _ := p3
            refine ob_o ?_ hst ?_
            · first | rfl | (simp [wantE, dstOf, zx1]; done)
            · rfl
          · -- 5: t113 := Op.fieldAddr 24 (t4) 0
            intro zx1 zx2 zx3 zx4 L V W hL hd hw hst u3 e3 p3
            obtain rfl : u3 = _ := p3
            refine ob_o ?_ hst ?_
            · first | rfl | (simp [wantE, dstOf, zx1]; done)
            · rfl
          · -- 6: t114 := Op.load 22 (t113)
            intro zx1 zx2 zx3 zx4 L V W hL hd hw hst u5 e5 p5 u3 e3 p3
            obtain rfl : u5 = _ := p5
            obtain rfl : u3 = _ := p3
            refine ob_o ?_ hst ?_
            · first | rfl | (simp [wantE, dstOf, zx1]; done)
            · rfl
          · -- 7: t115 := Op.move (t9)
            intro zx1 zx2 zx3 zx4 L V W hL hd hw hst u3 e3 p3
            obtain rfl : u3 = _ := p3
            refine ob_o ?_ hst ?_
            · first | rfl | (simp [wantE, dstOf, zx1]; done)
            · rfl
          · -- 8: t116 := Op.indexAddr 22 (t114) (t115)
            intro zx1 zx2 zx3 zx4 L V W hL hd hw hst u6 e6 p6 u7 e7 p7 u3 e3 p3
            obtain rfl : u6 = _ := p6
            obtain rfl : u7 = _ := p7
            obtain rfl : u3 = _ := p3
            refine ob_o ?_ hst ?_
            · first | rfl | (simp [wantE, dstOf, zx1]; done)
            · rfl
          · -- 9: t117 := Op.load 31 (t116)
            intro zx1 zx2 zx3 zx4 L V W hL hd hw hst u8 e8 p8 u3 e3 p3
            obtain rfl : u8 = _ := p8
            obtain rfl : u3 = _ := p3
            refine ob_o ?_ hst ?_
            · first | rfl | (simp [wantE, dstOf, zx1]; done)
            · rfl
          · -- 10: t118 := Op.call { callee := value (func 13), args := #[t112, t117], argTypes := #[31, 31] }
            intro zx1 zx2 zx3 zx4 L V W hL hd hw hst u4 e4 p4 u9 e9 p9 u3 e3 p3
            obtain rfl : u4 = _ := p4
            obtain rfl : u9 = _ := p9
            obtain rfl : u3 = _ := p3
            refine ob_o ?_ hst ?_
            · first | rfl | (simp [wantE, dstOf, zx1]; done)
            · rfl
          · -- 11: t119 := Op.unOp UnOp.not 4 (t118)
            intro zx1 zx2 zx3 zx4 L V W hL hd hw hst u10 e10 p10 u3 e3 p3
            obtain rfl : u10 = _ := p10
            obtain rfl : u3 = _ := p3
            refine ob_o ?_ hst ?_
            · first | rfl | (simp [wantE, dstOf, zx1]; done)
            · rfl
          · -- 12: t120 := Op.pick (t111) (t119) (const (bool false))
            intro zx1 zx2 zx3 zx4 L V W hL hd hw hst u3 e3 p3 u11 e11 p11
            obtain rfl : u3 = _ := p3
            obtain rfl : u11 = _ := p11
            refine ob_c rfl ?_ hst rfl
            go_simp
        case en =>
          intro V W hst u0 e0 p0 u1 e1 p1 u2 e2 p2 u3 e3 p3 u4 e4 p4 u5 e5 p5 u6 e6 p6 u7 e7 p7 u8 e8 p8 u9 e9 p9 u10 e10 p10 u11 e11 p11 u12 e12 p12
          obtain rfl : u0 = _ := p0
          obtain rfl : u1 = _ := p1
          obtain rfl : u2 = _ := p2
          obtain rfl : u3 = _ := p3
          obtain rfl : u4 = _ := p4
          obtain rfl : u5 = _ := p5
          obtain rfl : u6 = _ := p6
          obtain rfl : u7 = _ := p7
          obtain rfl : u8 = _ := p8
          obtain rfl : u9 = _ := p9
          obtain rfl : u10 = _ := p10
          obtain rfl : u11 = _ := p11
          obtain rfl : u12 = _ := p12
          simp only [EndAll, Act.put, List.getElem_toArray, List.getElem_cons_succ, List.getElem_cons_zero, List.setIfInBounds_toArray, List.set_cons_zero, List.set_cons_succ]
          rw [show osC (oo5 ++ (oo6 ++ [(g4, .cells #[.slice (some ⟨gc, oc, none⟩) R rq] 24 (0, 0))])) (fun _ => true) V = (oo5 ++ (oo6 ++ [(g4, .cells #[.slice (some ⟨gc, oc, none⟩) R rq] 24 (0, 0))])) from rfl] at hst
          have h20 := hst.facts (fs' := [(World.rangeAt · gc (oc + i * 11) [.string b1, .bool bb2, .int .i64 b3, .string g1, .int .i64 g2, .int .i64 g3, .int .i64 g4q, .string g5, .string g6, .int .i64 g7, .slice vc kq qc]), (IsVals · (.slice vc kq qc) g8q), IsCells g10 #[.slice b2 N2 q2], IsCells g12 #[.string a1, .bool a2, .int .i64 a3, .string f1, .int .i64 f2, .int .i64 f3, .int .i64 f4, .string f5, .string f6, .int .i64 f7, .slice va m qa], (IsPks · (.slice b2 N2 q2) (c.eraseIdx i)), IsCells g8 #[.int .i64 2, .int .i64 (i : Int), .string a1, .bool a2, .int .i64 a3, .string f1, .int .i64 f2, .int .i64 f3, .int .i64 f4, .string f5, .string f6, .int .i64 f7, .slice va m qa], (IsVals · (.slice va m qa) f8), (Elems 11 rdPk · xs5 inn), (Elems 11 rdPk · xs6 out), (IsPks · (.slice (some ⟨gc, oc, none⟩) R rq) c), (IsAcs · (.slice (some ⟨ga, oa, none⟩) K aq) al), HasMax]) (fun P hP => by simp only [List.mem_cons, List.not_mem_nil, or_false] at hP ⊢; rcases hP with rfl | rfl | rfl | rfl | rfl | rfl | rfl | rfl | rfl | rfl | rfl | rfl <;> simp)
          clear hst h12 e0 e1 e2 e3 e4 e5 e6 e7 e8 e9 e10 e11 e12
          have d4 := cell_at (h20.find (g := g4) (o := .cells #[.slice (some ⟨gc, oc, none⟩) R rq] 24 (0, 0)) (by simp))
          have c0 := (h20.is 5 rfl : IsCells _ _ _) 0 _ rfl
          have h13 := h20.alloc (.cells #[.string b1, .bool bb2, .int .i64 b3, .string g1, .int .i64 g2, .int .i64 g3, .int .i64 g4q, .string g5, .string g6, .int .i64 g7, .slice vc kq qc] 31)
          have h14 := h13.shut.swap
          have hone : ∀ u ∈ ([.string b1, .bool bb2, .int .i64 b3, .string g1, .int .i64 g2, .int .i64 g3, .int .i64 g4q, .string g5, .string g6, .int .i64 g7, .slice vc kq qc] : List Value), u.oneCell' = true := fun u hu => by simp only [List.mem_cons, List.not_mem_nil, or_false] at hu; rcases hu with rfl | rfl | rfl | rfl | rfl | rfl | rfl | rfl | rfl | rfl | rfl <;> rfl
          go_upto_region 33 with (first | (refine wpList_load_mid rfl 31 (.tmp 125) rfl gc (oc + i * 11) rfl [.string b1, .bool bb2, .int .i64 b3, .string g1, .int .i64 g2, .int .i64 g3, .int .i64 g4q, .string g5, .string g6, .int .i64 g7, .slice vc kq qc] _ (h20.is 0 rfl : World.rangeAt _ _ _ _) Try.underlying31 rfl rfl ?_) | (at_builtin; go_loud (refine wpList_append_any' rfl (.tmp 121) (.tmp 127) 22 22 rfl w.heap.size 31 (.agg #[.string ⟨#[]⟩, .bool false, .int .i64 0, .string ⟨#[]⟩, .int .i64 0, .int .i64 0, .int .i64 0, .string ⟨#[]⟩, .string ⟨#[]⟩, .int .i64 0, .slice none 0 0]) 11 136 Try.underlying22 pk_info rfl _ N6 xs6 rfl (HO.out.2.owns h14) _ 1 [.string b1, .bool bb2, .int .i64 b3, .string g1, .int .i64 g2, .int .i64 g3, .int .i64 g4q, .string g5, .string g6, .int .i64 g7, .slice vc kq qc] rfl (Src.row Try.underlying22 (IsRow.block (n := 1) (xs := [.string b1, .bool bb2, .int .i64 b3, .string g1, .int .i64 g2, .int .i64 g3, .int .i64 g4q, .string g5, .string g6, .int .i64 g7, .slice vc kq qc]) (h13.at_ 0 rfl) rfl (by unfold maxLen; omega)) hone) (by omega) (by unfold maxLen; omega) h14.size ?_); intro v' w' r1 r2 r3))
          obtain ⟨oo', k2, h15⟩ := HO.out.2.append h14 r1 r2 r3
          have h16 := h15.swap.put (Mono.elems rdPk_up _ _) (Elems.append (h15.swap.get 9 rfl) (pk_elem (⟨b1, bb2, b3, ⟨g1, g2, g3, g4q, g5, g6, g7, g8q⟩⟩ : Pk) (h15.swap.get 2 rfl) HKQ.out : Elems 11 rdPk _ [.string b1, .bool bb2, .int .i64 b3, .string g1, .int .i64 g2, .int .i64 g3, .int .i64 g4q, .string g5, .string g6, .int .i64 g7, .slice vc kq qc] [(⟨b1, bb2, b3, ⟨g1, g2, g3, g4q, g5, g6, g7, g8q⟩⟩ : Pk)]))
          have c10 := (h16.is 4 rfl : IsCells _ _ _).c1
          clear r1 r2 r3 h15 h14 h13 h20 hone c0 d4
          have h17 := St.setRow (os1 := oo5 ++ oo') (os2 := []) (cs' := #[.slice b2 N2 q2]) (by rw [List.append_assoc]; exact h16)
          rw [List.append_assoc] at h17
          go_wp2_with (refine wpList_store_row rfl 24 (.tmp 4) (.tmp 129) rfl g4 #[.slice b2 N2 q2] rfl rfl 24 _ (h16.find (g := g4) (o := .cells #[.slice (some ⟨gc, oc, none⟩) R rq] 24 (0, 0)) (by simp)) ch_info rfl (ch_one _ _ _) ?_)
          go_roundw
          case rel => exact ⟨k + 1, N5, N6 + 1, N2, xs5, (xs6 ++ [.string b1, .bool bb2, .int .i64 b3, .string g1, .int .i64 g2, .int .i64 g3, .int .i64 g4q, .string g5, .string g6, .int .i64 g7, .slice vc kq qc]), oo5, oo', inn, (out ++ [(⟨b1, bb2, b3, ⟨g1, g2, g3, g4q, g5, g6, g7, g8q⟩⟩ : Pk)]), (c.eraseIdx i), b2, q2, by omega, by go_num, by omega, HL.out.1, by simp [HL.out.2.1], L2.out, HC2.out.1, HC2.out.2, HO.out.1, k2, h17.facts (fun P hP => by simp only [List.mem_cons, List.not_mem_nil, or_false] at hP ⊢; rcases hP with rfl | rfl | rfl | rfl | rfl <;> simp)⟩
          case measure => simp [intOf]; omega
      have hd0' := beq_of hd0
      have hd1' := beq_of hd1
      have hd2' := beq_of hd2
      obtain ⟨⟨S2, s2⟩, hS⟩ : ∃ R, copyR c n = R := ⟨_, rfl⟩
      obtain ⟨N2, hN2⟩ : ∃ N, S2.length = N := ⟨_, rfl⟩
      have RS := Lib.hid hS
      have L2 := Lib.hid hN2
      clear hS hN2
      go_wp2_with fail
      refine (copy_s h6 (h6.is 7 rfl) n (h6.get 5 rfl) HL.out.2.2.1 hle2 RS.out L2.out).mono ?_
      rintro e w8 ⟨b2, q2, rfl, h8⟩
      clear h6 c0 d4 hr12
      have h9 := h8.setRow (os1 := [_]) (cs' := #[.slice b2 N2 q2])
      go_upto_region 19 with (refine wpList_store_row rfl 24 (.tmp 10) (.tmp 37) rfl g10 #[.slice b2 N2 q2] rfl rfl 24 _ (h8.at_ 1 rfl) ch_info rfl (ch_one _ _ _) ?_)
      have h9' := h9.shut.shut
      have h10 := h9'.facts (fs' := [IsCells g10 #[.slice b2 N2 q2], IsCells g12 #[.string a1, .bool a2, .int .i64 a3, .string f1, .int .i64 f2, .int .i64 f3, .int .i64 f4, .string f5, .string f6, .int .i64 f7, .slice va m qa], (IsPks · (.slice b2 N2 q2) S2), IsCells g8 #[.int .i64 dw, .int .i64 n, .string a1, .bool a2, .int .i64 a3, .string f1, .int .i64 f2, .int .i64 f3, .int .i64 f4, .string f5, .string f6, .int .i64 f7, .slice va m qa], (IsVals · (.slice va m qa) f8), (Elems 11 rdPk · xs5 inn), (Elems 11 rdPk · xs6 out), (IsPks · (.slice rb R rq) c), (IsAcs · (.slice (some ⟨ga, oa, none⟩) K aq) al), HasMax]) (fun P hP => by simp only [List.mem_cons, List.not_mem_nil, or_false] at hP ⊢; rcases hP with rfl | rfl | rfl | rfl | rfl | rfl | rfl | rfl | rfl | rfl <;> simp)
      clear h8 h9 h9' 
      generalize World.setRow _ _ _ = W10 at h10 ⊢
      by_cases hs : s2 = 0
      case neg =>
        have hs' := bne_of hs
        have hS0 := copy_err RS.out hs
        obtain rfl : N2 = 0 := by have := L2.out; rw [hS0] at this; exact this.symm
        clear hS0
        have c0 := (h10.is 0 rfl : IsCells _ _ _).c1
        go_wp2_with fail
        go_roundw
        case rel => exact ⟨k + 1, N5, N6, R, xs5, xs6, oo5, oo6, inn, out, c, rb, rq, by omega, by go_num, by omega, HL.out.1, HL.out.2.1, HL.out.2.2.1, HL.out.2.2.2.2, HL.out.2.2.2.1, HO.out.1, HO.out.2, h10.facts (fun P hP => by simp only [List.mem_cons, List.not_mem_nil, or_false] at hP ⊢; rcases hP with rfl | rfl | rfl | rfl | rfl <;> simp)⟩
        case measure => simp [intOf]; omega
      subst hs
      obtain ⟨i, hil, rfl, rfl, hlt2⟩ := copy_ok0 RS.out
      have hiR : i < R := by rw [← HL.out.2.2.1]; exact hil
      have hck2 := chk_more HL.out.2.2.2.2 (chk_all HL.out.2.2.2.2 _ (List.getElem_mem hil)) hlt2
      have hkp2 := HL.out.2.2.2.1.more (c[i]'hil)
      have hR2 : R < 1024 := by have := HL.out.2.2.1; omega
      obtain rfl : N2 = R + 1 := by rw [← L2.out, List.length_append, HL.out.2.2.1]; rfl
      clear RS
      obtain ⟨Q, hQ⟩ : ∃ q, c[i]'hil = q := ⟨_, rfl⟩
      rw [hQ] at h10 L2 hck2 hkp2
      have HC2 := Lib.hid (And.intro hck2 hkp2)
      have HQ := Lib.hid hQ
      clear hQ hck2 hkp2
      obtain ⟨b1, bb2, b3, g1, g2, g3, g4q, g5, g6, g7, g8q⟩ := Q
      obtain ⟨kq, hkq⟩ : ∃ m, g8q.length = m := ⟨_, rfl⟩
      have HKQ := Lib.hid hkq
      clear hkq
      have c0 := (h10.is 0 rfl : IsCells _ _ _).c1
      go_wp2_with fail
      refine (chk0_s h10 (h10.is 9 rfl) (h10.is 2 rfl) L2.out HC2.out.1).mono ?_
      rintro e w11 ⟨rfl, h11⟩
      clear h10 c0
      have c0 := (h11.is 3 rfl : IsCells _ _ _) 0 _ rfl
      obtain ⟨gc, oc, vc, qc, rfl, hvc, hrc⟩ := (h11.get 7 rfl : IsPks _ _ _).pks i hil
      rw [HQ.out] at hvc hrc
      simp only [Pk.cellsA] at hvc hrc
      rw [HKQ.out] at hvc hrc
      have h12 := (h11.put (Mono.seq rdVal_up _ _) hvc).put (Mono.range _ _ _) hrc
      clear h11 hvc hrc
      have d4 := cell_at (h12.find (g := g4) (o := .cells #[.slice (some ⟨gc, oc, none⟩) R rq] 24 (0, 0)) (by simp))
      have hilo : ¬ (i : Int) < 0 := by omega
      have hihi : ¬ (R : Int) ≤ (i : Int) := by omega
      go_upto_region 24 with fail
      have h13 := h12.alloc (.cells #[.string b1, .bool bb2, .int .i64 b3, .string g1, .int .i64 g2, .int .i64 g3, .int .i64 g4q, .string g5, .string g6, .int .i64 g7, .slice vc kq qc] 31)
      have h14 := h13.shut
      have hone : ∀ u ∈ ([.string b1, .bool bb2, .int .i64 b3, .string g1, .int .i64 g2, .int .i64 g3, .int .i64 g4q, .string g5, .string g6, .int .i64 g7, .slice vc kq qc] : List Value), u.oneCell' = true := fun u hu => by simp only [List.mem_cons, List.not_mem_nil, or_false] at hu; rcases hu with rfl | rfl | rfl | rfl | rfl | rfl | rfl | rfl | rfl | rfl | rfl <;> rfl
      go_upto_region 33 with (first | (refine wpList_load_mid rfl 31 (.tmp 77) rfl gc (oc + i * 11) rfl [.string b1, .bool bb2, .int .i64 b3, .string g1, .int .i64 g2, .int .i64 g3, .int .i64 g4q, .string g5, .string g6, .int .i64 g7, .slice vc kq qc] _ (h12.is 0 rfl : World.rangeAt _ _ _ _) Try.underlying31 rfl rfl ?_) | (at_builtin; go_loud (refine wpList_append_any' rfl (.tmp 73) (.tmp 79) 22 22 rfl w.heap.size 31 (.agg #[.string ⟨#[]⟩, .bool false, .int .i64 0, .string ⟨#[]⟩, .int .i64 0, .int .i64 0, .int .i64 0, .string ⟨#[]⟩, .string ⟨#[]⟩, .int .i64 0, .slice none 0 0]) 11 136 Try.underlying22 pk_info rfl _ N5 xs5 rfl (HO.out.1.owns h14) _ 1 [.string b1, .bool bb2, .int .i64 b3, .string g1, .int .i64 g2, .int .i64 g3, .int .i64 g4q, .string g5, .string g6, .int .i64 g7, .slice vc kq qc] rfl (Src.row Try.underlying22 (IsRow.block (n := 1) (xs := [.string b1, .bool bb2, .int .i64 b3, .string g1, .int .i64 g2, .int .i64 g3, .int .i64 g4q, .string g5, .string g6, .int .i64 g7, .slice vc kq qc]) (h13.at_ 0 rfl) rfl (by unfold maxLen; omega)) hone) (by omega) (by unfold maxLen; omega) h14.size ?_); intro v' w' r1 r2 r3))
      obtain ⟨oo', k2, h15⟩ := HO.out.1.append h14 r1 r2 r3
      have h16 := h15.put (Mono.elems rdPk_up _ _) (Elems.append (h15.get 8 rfl) (pk_elem (⟨b1, bb2, b3, ⟨g1, g2, g3, g4q, g5, g6, g7, g8q⟩⟩ : Pk) (h15.get 2 rfl) HKQ.out : Elems 11 rdPk _ [.string b1, .bool bb2, .int .i64 b3, .string g1, .int .i64 g2, .int .i64 g3, .int .i64 g4q, .string g5, .string g6, .int .i64 g7, .slice vc kq qc] [(⟨b1, bb2, b3, ⟨g1, g2, g3, g4q, g5, g6, g7, g8q⟩⟩ : Pk)]))
      have c10 := (h16.is 4 rfl : IsCells _ _ _).c1
      clear r1 r2 r3 h15 h14 h13 h12 hone c0 d4
      have h17 := St.setRow (os1 := oo' ++ oo6) (os2 := []) (cs' := #[.slice b2 (R + 1) q2]) (by rw [List.append_assoc]; exact h16)
      rw [List.append_assoc] at h17
      go_wp2_with (refine wpList_store_row rfl 24 (.tmp 4) (.tmp 129) rfl g4 #[.slice b2 (R + 1) q2] rfl rfl 24 _ (h16.find (g := g4) (o := .cells #[.slice (some ⟨gc, oc, none⟩) R rq] 24 (0, 0)) (by simp)) ch_info rfl (ch_one _ _ _) ?_)
      go_roundw
      case rel => exact ⟨k + 1, N5 + 1, N6, (R + 1), (xs5 ++ [.string b1, .bool bb2, .int .i64 b3, .string g1, .int .i64 g2, .int .i64 g3, .int .i64 g4q, .string g5, .string g6, .int .i64 g7, .slice vc kq qc]), xs6, oo', oo6, (inn ++ [(⟨b1, bb2, b3, ⟨g1, g2, g3, g4q, g5, g6, g7, g8q⟩⟩ : Pk)]), out, (c ++ [(⟨b1, bb2, b3, ⟨g1, g2, g3, g4q, g5, g6, g7, g8q⟩⟩ : Pk)]), b2, q2, by omega, by go_num, by omega, by simp [HL.out.1], HL.out.2.1, L2.out, HC2.out.1, HC2.out.2, k2, HO.out.2, h17.facts (fun P hP => by simp only [List.mem_cons, List.not_mem_nil, or_false] at hP ⊢; rcases hP with rfl | rfl | rfl | rfl | rfl <;> simp)⟩
      case measure => simp [intOf]; omega
    · skip
      obtain rfl : K = k := by omega
      have h20 := (HO.out.2.done (HO.out.1.done hst)).shut
      clear hst
      have h21 := (h20.keep (Mono.seq rdPk_up _ _) (IsSeq.of (h20.is 1 rfl) (h20.is 4 rfl) HL.out.2.1.symm)).keep (Mono.seq rdPk_up _ _) (IsSeq.of (h20.is 2 rfl) (h20.is 3 rfl) HL.out.1.symm)
      obtain ⟨b5, q5, rfl, -⟩ := (h21.is 0 rfl : IsSeq 11 rdPk _ _ _).shape
      obtain ⟨b6, q6, rfl, -⟩ := (h21.is 1 rfl : IsSeq 11 rdPk _ _ _).shape
      rw [HL.out.1, HL.out.2.1] at h21
      rw [HL.out.1, HL.out.2.1]
      have h4 := h21.facts (fs' := [(IsPks · (.slice b5 N5 q5) inn), (IsPks · (.slice b6 N6 q6) out), IsCells g4 #[.slice rb R rq], (IsPks · (.slice rb R rq) c)]) (fun P hP => by simp only [List.mem_cons, List.not_mem_nil, or_false] at hP ⊢; rcases hP with rfl | rfl | rfl | rfl <;> simp)
      clear h20 h21 HO
      have hsum : N5 = N6 + R := by have := HL.out.2.2.2.1.len; rw [HL.out.1, HL.out.2.1, HL.out.2.2.1] at this; exact this
      have hw : IntKind.i64.wrap ((N6 : Int) + (R : Int)) = (N5 : Int) := by rw [IntKind.wrap_i64]; omega
      have hsz : N5 ≤ 1000000000000 := by omega
      have hsz6 : N6 ≤ 1000000000000 := by omega
      have c10 := (h4.is 2 rfl : IsCells _ _ _).c1
      go_wp2_with fail
      go_loopw [13] (fun iv wr => ∃ j : Nat, j ≤ N5 ∧ iv = .int .i64 j ∧ St w wr [] [(IsPks · (.slice b5 N5 q5) inn), (IsPks · (.slice b6 N6 q6) out), IsCells g4 #[.slice rb R rq], (IsPks · (.slice rb R rq) c)]) (fun c _ => N5 - (intOf c).toNat)
      case atStart => exact ⟨0, by omega, rfl, h4⟩
      case round =>
        clear h4 c10 hw
        obtain ⟨j, hj, rfl, hst⟩ := hrel
        by_cases hjl : j < N5
        · obtain ⟨gx, ox, vx, qx, rfl, hvx, hrx⟩ := (hst.is 0 rfl : IsPks _ _ _).pks j (by rw [HL.out.1]; exact hjl)
          obtain ⟨x, hx⟩ : ∃ x, inn[j]'(by rw [HL.out.1]; exact hjl) = x := ⟨_, rfl⟩
          rw [hx] at hvx hrx
          clear hx
          obtain ⟨n1, hn1⟩ : ∃ n, cntR inn x = n := ⟨_, rfl⟩
          obtain ⟨n2, hn2⟩ : ∃ n, cntR out x = n := ⟨_, rfl⟩
          obtain ⟨n3, hn3⟩ : ∃ n, cntR c x = n := ⟨_, rfl⟩
          have hn4 : n1 = n2 + n3 := by rw [← hn1, ← hn2, ← hn3]; exact HL.out.2.2.2.1.cnt x
          have hn5 : n1 ≤ N5 := by rw [← hn1, ← HL.out.1]; exact cntR_le _ _
          have hw : IntKind.i64.wrap ((n2 : Int) + (n3 : Int)) = (n1 : Int) := by rw [IntKind.wrap_i64]; omega
          have HC := Lib.hid (And.intro hn1 (And.intro hn2 (And.intro hn3 hw)))
          clear hn1 hn2 hn3 hw hn4 hn5
          obtain ⟨x1, x2, x3, z1, z2, z3, z4, z5, z6, z7, z8⟩ := x
          simp only [Pk.cellsA] at hvx hrx
          obtain ⟨kx, hkx⟩ : ∃ m, z8.length = m := ⟨_, rfl⟩
          rw [hkx] at hvx hrx
          have HKX := Lib.hid hkx
          have h5 := (hst.keep (Mono.seq rdVal_up _ _) hvx).keep (Mono.range _ _ _) hrx
          clear hst hvx hrx hkx
          go_upto_region 39 with fail
          refine wp_region_st [pVal ?c39_0, pVal ?c39_1, pVal ?c39_2, pVal (.pointer (some ⟨gx, ox + j * 11, none⟩)), pVal (.agg #[.string x1, .bool x2, .int .i64 x3, .string z1, .int .i64 z2, .int .i64 z3, .int .i64 z4, .string z5, .string z6, .int .i64 z7, .slice vx kx qx]), pVal (.int .i64 (n1 : Int)), pVal ?c39_6, pVal ?c39_7, pVal ?c39_8, pVal (.pointer (some ⟨gx, ox + j * 11, none⟩)), pVal (.agg #[.string x1, .bool x2, .int .i64 x3, .string z1, .int .i64 z2, .int .i64 z3, .int .i64 z4, .string z5, .string z6, .int .i64 z7, .slice vx kx qx]), pVal (.int .i64 (n2 : Int)), pVal ?c39_12, pVal (.slice rb R rq), pVal ?c39_14, pVal ?c39_15, pVal (.pointer (some ⟨gx, ox + j * 11, none⟩)), pVal (.agg #[.string x1, .bool x2, .int .i64 x3, .string z1, .int .i64 z2, .int .i64 z3, .int .i64 z4, .string z5, .string z6, .int .i64 z7, .slice vx kx qx]), pVal (.int .i64 (n3 : Int)), pVal (.int .i64 (n1 : Int)), pVal (.bool false)] (osC []) 167 [0, 0, 0, 6, 14, 31, 0, 0, 0, 384, 896, 2047, 0, 4096, 0, 0, 49152, 114688, 262143, 524287, 1048575] [[], [], [], [(2, 147), (1, 146)], [(3, 148)], [(4, 149), (0, 145)], [], [], [], [(8, 153), (7, 152)], [(9, 154)], [(10, 155), (6, 151)], [], [(12, 157)], [], [], [(15, 160), (14, 159)], [(16, 161)], [(17, 162), (13, 158)], [(18, 163), (11, 156)], [(19, 164), (5, 150)]] [(0, 145), (1, 146), (2, 147), (3, 148), (4, 149), (5, 150), (6, 151), (7, 152), (8, 153), (9, 154), (10, 155), (11, 156), (12, 157), (13, 158), (14, 159), (15, 160), (16, 161), (17, 162), (18, 163), (19, 164), (20, 165)] (by kernel_rfl) (by kernel_rfl) rfl rfl h5 osC0 osC1 ?ob ?en
          case ob =>
            refine ⟨?_, ?_, ?_, ?_, ?_, ?_, ?_, ?_, ?_, ?_, ?_, ?_, ?_, ?_, ?_, ?_, ?_, ?_, ?_, ?_, ?_, trivial⟩
            · -- 0: t145 := Op.move (t5)
              intro zx1 zx2 zx3 zx4 L V W hL hd hw hst 
              refine ob_c rfl ?_ hst rfl
              go_simp
              try with_reducible rfl
            · -- 1: t146 := Op.move (t5)
              intro zx1 zx2 zx3 zx4 L V W hL hd hw hst 
              refine ob_c rfl ?_ hst rfl
              go_simp
              try with_reducible rfl
            · -- 2: t147 := Op.move (t13)
              intro zx1 zx2 zx3 zx4 L V W hL hd hw hst 
              refine ob_c rfl ?_ hst rfl
              go_simp
              try with_reducible rfl
            · -- 3: t148 := Op.indexAddr 22 (t146) (t147)
              intro zx1 zx2 zx3 zx4 L V W hL hd hw hst u1 e1 p1 u2 e2 p2
              obtain rfl : u1 = _ := p1
              obtain rfl : u2 = _ := p2
              refine ob_c (by first | rfl | (simp [wantE, dstOf, zx1]; done)) ?_ hst rfl
              go_simp
              all_goals (first | done | exact fun h => absurd h (by omega))
            · -- 4: t149 := Op.load 31 (t148)
              intro zx1 zx2 zx3 zx4 L V W hL hd hw hst u3 e3 p3
              obtain rfl : u3 = _ := p3
              exact ob_c (by first | rfl | (simp [wantE, dstOf, zx1]; done)) (run_load_mid rfl rfl ((hst.base 0 rfl : World.rangeAt _ _ _ _) |> Mono.range _ _ _ _ _ (mask_is _ _)) Try.underlying31 rfl rfl) hst rfl
            · -- 5: t150 := Op.call { callee := value (func 23), args := #[t145, t149], argTypes := #[22, 31] }
              intro zx1 zx2 zx3 zx4 L V W hL hd hw hst u0 e0 p0 u4 e4 p4
              obtain rfl : u0 = _ := p0
              obtain rfl : u4 = _ := p4
              refine ob_call (by first | rfl | (simp [wantE, dstOf, zx1]; done)) ?_ (count_p hst ((hst.base 2 rfl : IsPks _ _ _).sub rdPk_up (mask_is _ _)) HL.out.1 (by omega) (⟨x1, x2, x3, ⟨z1, z2, z3, z4, z5, z6, z7, z8⟩⟩ : Pk) ((hst.base 1 rfl : IsVals _ _ _).sub rdVal_up (mask_is _ _)) HKX.out HC.out.1)
              go_simp
              try rfl
            · -- 6: t151 := Op.move (t6)
              intro zx1 zx2 zx3 zx4 L V W hL hd hw hst 
              refine ob_c rfl ?_ hst rfl
              go_simp
              try with_reducible rfl
            · -- 7: t152 := Op.move (t5)
              intro zx1 zx2 zx3 zx4 L V W hL hd hw hst 
              refine ob_c rfl ?_ hst rfl
              go_simp
              try with_reducible rfl
            · -- 8: t153 := Op.move (t13)
              intro zx1 zx2 zx3 zx4 L V W hL hd hw hst 
              refine ob_c rfl ?_ hst rfl
              go_simp
              try with_reducible rfl
            · -- 9: t154 := Op.indexAddr 22 (t152) (t153)
              intro zx1 zx2 zx3 zx4 L V W hL hd hw hst u7 e7 p7 u8 e8 p8
              obtain rfl : u7 = _ := p7
              obtain rfl : u8 = _ := p8
              refine ob_c (by first | rfl | (simp [wantE, dstOf, zx1]; done)) ?_ hst rfl
              go_simp
              all_goals (first | done | exact fun h => absurd h (by omega))
            · -- 10: t155 := Op.load 31 (t154)
              intro zx1 zx2 zx3 zx4 L V W hL hd hw hst u9 e9 p9
              obtain rfl : u9 = _ := p9
              exact ob_c (by first | rfl | (simp [wantE, dstOf, zx1]; done)) (run_load_mid rfl rfl ((hst.base 0 rfl : World.rangeAt _ _ _ _) |> Mono.range _ _ _ _ _ (mask_is _ _)) Try.underlying31 rfl rfl) hst rfl
            · -- 11: t156 := Op.call { callee := value (func 23), args := #[t151, t155], argTypes := #[22, 31] }
              intro zx1 zx2 zx3 zx4 L V W hL hd hw hst u6 e6 p6 u10 e10 p10
              obtain rfl : u6 = _ := p6
              obtain rfl : u10 = _ := p10
              refine ob_call (by first | rfl | (simp [wantE, dstOf, zx1]; done)) ?_ (count_p hst ((hst.base 3 rfl : IsPks _ _ _).sub rdPk_up (mask_is _ _)) HL.out.2.1 (by omega) (⟨x1, x2, x3, ⟨z1, z2, z3, z4, z5, z6, z7, z8⟩⟩ : Pk) ((hst.base 1 rfl : IsVals _ _ _).sub rdVal_up (mask_is _ _)) HKX.out HC.out.2.1)
              go_simp
              try rfl
            · -- 12: t157 := Op.fieldAddr 24 (t4) 0
              intro zx1 zx2 zx3 zx4 L V W hL hd hw hst 
              refine ob_c rfl ?_ hst rfl
              go_simp
              try with_reducible rfl
            · -- 13: t158 := Op.load 22 (t157)
              intro zx1 zx2 zx3 zx4 L V W hL hd hw hst u12 e12 p12
              obtain rfl : u12 = _ := p12
              have hz := mask_is _ _ _ _ ((hst.base 4 rfl : IsCells _ _ _) 0 _ rfl)
              refine ob_c (by first | rfl | (simp [wantE, dstOf, zx1]; done)) ?_ hst rfl
              go_simp
              try with_reducible rfl
            · -- 14: t159 := Op.move (t5)
              intro zx1 zx2 zx3 zx4 L V W hL hd hw hst 
              refine ob_c rfl ?_ hst rfl
              go_simp
              try with_reducible rfl
            · -- 15: t160 := Op.move (t13)
              intro zx1 zx2 zx3 zx4 L V W hL hd hw hst 
              refine ob_c rfl ?_ hst rfl
              go_simp
              try with_reducible rfl
            · -- 16: t161 := Op.indexAddr 22 (t159) (t160)
              intro zx1 zx2 zx3 zx4 L V W hL hd hw hst u14 e14 p14 u15 e15 p15
              obtain rfl : u14 = _ := p14
              obtain rfl : u15 = _ := p15
              refine ob_c (by first | rfl | (simp [wantE, dstOf, zx1]; done)) ?_ hst rfl
              go_simp
              all_goals (first | done | exact fun h => absurd h (by omega))
            · -- 17: t162 := Op.load 31 (t161)
              intro zx1 zx2 zx3 zx4 L V W hL hd hw hst u16 e16 p16
              obtain rfl : u16 = _ := p16
              exact ob_c (by first | rfl | (simp [wantE, dstOf, zx1]; done)) (run_load_mid rfl rfl ((hst.base 0 rfl : World.rangeAt _ _ _ _) |> Mono.range _ _ _ _ _ (mask_is _ _)) Try.underlying31 rfl rfl) hst rfl
            · -- 18: t163 := Op.call { callee := value (func 23), args := #[t158, t162], argTypes := #[22, 31] }
              intro zx1 zx2 zx3 zx4 L V W hL hd hw hst u13 e13 p13 u17 e17 p17
              obtain rfl : u13 = _ := p13
              obtain rfl : u17 = _ := p17
              refine ob_call (by first | rfl | (simp [wantE, dstOf, zx1]; done)) ?_ (count_p hst ((hst.base 5 rfl : IsPks _ _ _).sub rdPk_up (mask_is _ _)) HL.out.2.2.1 (by omega) (⟨x1, x2, x3, ⟨z1, z2, z3, z4, z5, z6, z7, z8⟩⟩ : Pk) ((hst.base 1 rfl : IsVals _ _ _).sub rdVal_up (mask_is _ _)) HKX.out HC.out.2.2.1)
              go_simp
              try rfl
            · -- 19: t164 := Op.binOp BinOp.add 3 (t156) (t163) 3
              intro zx1 zx2 zx3 zx4 L V W hL hd hw hst u11 e11 p11 u18 e18 p18
              obtain rfl : u11 = _ := p11
              obtain rfl : u18 = _ := p18
              refine ob_c (by first | rfl | (simp [wantE, dstOf, zx1]; done)) ?_ hst rfl
              go_simp
              all_goals (first | rw [HC.out.2.2.2] | (rw [IntKind.wrap_i64]; omega))
            · -- 20: t165 := Op.binOp BinOp.neq 3 (t150) (t164) 3
              intro zx1 zx2 zx3 zx4 L V W hL hd hw hst u5 e5 p5 u19 e19 p19
              obtain rfl : u5 = _ := p5
              obtain rfl : u19 = _ := p19
              refine ob_c (by first | rfl | (simp [wantE, dstOf, zx1]; done)) ?_ hst rfl
              go_simp
              all_goals (first | done | omega | (simp; omega) | (simp; done))
          case en =>
            intro V W hst u0 e0 p0 u1 e1 p1 u2 e2 p2 u3 e3 p3 u4 e4 p4 u5 e5 p5 u6 e6 p6 u7 e7 p7 u8 e8 p8 u9 e9 p9 u10 e10 p10 u11 e11 p11 u12 e12 p12 u13 e13 p13 u14 e14 p14 u15 e15 p15 u16 e16 p16 u17 e17 p17 u18 e18 p18 u19 e19 p19 u20 e20 p20
            obtain rfl : u0 = _ := p0
            obtain rfl : u1 = _ := p1
            obtain rfl : u2 = _ := p2
            obtain rfl : u3 = _ := p3
            obtain rfl : u4 = _ := p4
            obtain rfl : u5 = _ := p5
            obtain rfl : u6 = _ := p6
            obtain rfl : u7 = _ := p7
            obtain rfl : u8 = _ := p8
            obtain rfl : u9 = _ := p9
            obtain rfl : u10 = _ := p10
            obtain rfl : u11 = _ := p11
            obtain rfl : u12 = _ := p12
            obtain rfl : u13 = _ := p13
            obtain rfl : u14 = _ := p14
            obtain rfl : u15 = _ := p15
            obtain rfl : u16 = _ := p16
            obtain rfl : u17 = _ := p17
            obtain rfl : u18 = _ := p18
            obtain rfl : u19 = _ := p19
            obtain rfl : u20 = _ := p20
            simp only [EndAll, Act.put, List.getElem_toArray, List.getElem_cons_succ, List.getElem_cons_zero, List.setIfInBounds_toArray, List.set_cons_zero, List.set_cons_succ]
            rw [show osC [] (fun _ => true) V = [] from rfl] at hst
            have h6 := hst.facts (fs' := [(IsPks · (.slice (some ⟨gx, ox, none⟩) N5 q5) inn), (IsPks · (.slice b6 N6 q6) out), IsCells g4 #[.slice rb R rq], (IsPks · (.slice rb R rq) c)]) (fun P hP => by simp only [List.mem_cons, List.not_mem_nil, or_false] at hP ⊢; rcases hP with rfl | rfl | rfl | rfl <;> simp)
            clear hst h5 e0 e1 e2 e3 e4 e5 e6 e7 e8 e9 e10 e11 e12 e13 e14 e15 e16 e17 e18 e19 e20
            go_wp2_with fail
            go_roundw
            case rel => exact ⟨j + 1, by omega, by go_num, h6⟩
            case measure => simp [intOf]; omega
        · obtain rfl : N5 = j := by omega
          go_wp2_with fail
          go_ret
          exact ⟨rfl, hst.below⟩
end Go.Proofs.Ytihohhjaomoemaa
