/- The walk over FactsFields. -/
import Derived.Test.YtfpkibfofainaaaEx13
import Derived.Test.YtfpkibfofainaaaRtab
import Derived.Test.YtfpkibfofainaaaMk
import Derived.Test.YtfpkibfofainaaaIsc
set_option linter.unusedVariables false
set_option linter.unusedSimpArgs false
namespace Go.Proofs.Ytfpkibfofainaaa
open Go.RowKit

theorem val_infoM : (Try.prog.info? 57).map (fun i => (i.zero, i.size, i.bytes)) = some (some (.agg #[.int .i64 0, .int .i64 0, .string ⟨#[]⟩]), 3, 32) := by kernel_rfl
theorem hasMax_mono2 : Mono HasMax := fun _ _ k ⟨m, hm⟩ => ⟨m, k _ _ hm⟩
def Vl.nul : Vl := ⟨0, 0, ⟨#[]⟩⟩
/-- The fact without values. -/
def Fc.bare (f : Fc) (n : Nat) : Fc := { f with fields := List.replicate n Vl.nul }
theorem fields_plain (tl : List Tb) (f : Fc) (t : Tb) (ht : findTb tl f.table = some t) (hk : f.kind ≠ 3) (h0 : chk tl (f.bare t.fields.length) = 0) :
    (f.fields.length = t.fields.length → hasAll f.fields t.fields = true → chk tl f = 0) ∧ (f.fields.length = t.fields.length → hasAll f.fields t.fields = false → chk tl f = 5) ∧ (f.fields.length ≠ t.fields.length → chk tl f = 5) := by
  have hfm : f.formed = true := by
    have h1 : (f.bare t.fields.length).formed = f.formed := by
      unfold Fc.formed Fc.bare Fc.says Fc.refers
      simp only [if_neg hk]
    cases hf : f.formed with
    | true => rfl
    | false =>
      unfold chk at h0
      rw [if_pos (by rw [h1, hf])] at h0
      cases h0
  refine ⟨fun h1 h2 => ?_, fun h1 h2 => ?_, fun h1 => ?_⟩ <;> unfold chk <;> rw [if_neg (by rw [hfm]; decide), if_neg hk, ht] <;> simp [h1]
  · simp [h2]
  · simp [h2]

set_option maxRecDepth 8000 in
set_option maxHeartbeats 4000000 in
theorem fields_walk (w : World) (hm : HasMax w) (tl : List Tb) (b : Option Addr) (q : Nat) (b1 b2 b3 : Option Addr) (n1 n2 n3 q1 q2 q3 : Nat) (ht : IsTbs w (.slice b tl.length q) tl) (hsz : ∀ t ∈ tl, t.fields.length * 64 ≤ 140737488351232)
    (f : Fc) (fb : Option Addr) (fc : Nat) (hf : IsVals w (.slice fb f.fields.length fc) f.fields) :
    Calls Try.prog 7 #[.agg #[.slice b tl.length q, .slice b1 n1 q1, .slice b2 n2 q2, .slice b3 n3 q3], f.val (.slice fb f.fields.length fc)] w fun e w' => e = .returned (.bool true) ∧ Below w.heap.size w w' := by
  have hc1 := fun w vb vq f hm ht hf => check_any w b q tl (.slice b1 n1 q1) (.slice b2 n2 q2) (.slice b3 n3 q3) f vb vq hm ht hf
  have htb := fun w S (h : IsTbs (mask S w) (.slice b tl.length q) tl) => refTable_any w S b q tl (.slice b1 n1 q1) (.slice b2 n2 q2) (.slice b3 n3 q3) f.table h
  have hpl := fun t ht hk h0 => fields_plain tl f t ht hk h0
  have hn : ((findTb tl f.table).getD Tb.zero).fields.length * 64 ≤ 140737488351232 := by
    cases hfd : findTb tl f.table with
    | none => simp [Tb.zero]
    | some t => exact hsz t (List.mem_of_find?_eq_some hfd)
  obtain ⟨fs, fq, fk, fr, ft, fy, fe, fl⟩ := f
  simp only [Fc.bare] at hpl hn htb
  simp only [Fc.val, Fc.cellsA] at hf ⊢
  obtain ⟨fn, hfn⟩ : ∃ n, fl.length = n := ⟨_, rfl⟩
  obtain ⟨tn, htn⟩ : ∃ n, tl.length = n := ⟨_, rfl⟩
  rw [hfn] at hf hpl ⊢
  rw [htn] at ht htb hc1 ⊢
  have h0 := (((((St.start w).putOld hasMax_mono2 hm).putOld (P := (IsVals · (.slice fb fn fc) fl)) (Mono.seq rdVal_up _ _) hf).putOld (P := (IsTbs · (.slice b tn q) tl)) (Mono.seq rdTb_up _ _) ht).alloc
    (.cells #[.slice b tn q, .slice b1 n1 q1, .slice b2 n2 q2, .slice b3 n3 q3] 45)).alloc (.cells #[.string fs, .int .i64 fq, .int .i64 fk, .int .i64 fr, .string ft, .string fy, .int .i64 fe, .slice fb fn fc] 27)
  simp only [al_size] at h0
  have HC1 := Lib.hid hc1
  have HTB := Lib.hid htb
  have HPL := Lib.hid hpl
  have HN := Lib.hid hn
  have HFN := Lib.hid hfn
  have hfn63 : fn ≤ 9223372036854775807 := by obtain ⟨_, _, e, q1, q2, -⟩ := hf.shape; cases e; unfold maxLen at q2; omega
  clear ht hf hc1 htb hpl hn hfn htn hsz
  go_enter Try.func7, Try.ntmps7
  go_wp2_with fail
  refine (Calls.sV h0 (example_any _ (hm.below h0.below rfl))).mono ?_
  rintro e w1 ⟨rfl, h1⟩
  clear h0
  obtain ⟨c0, c1, c2, c3, c4, c5, c6, c7⟩ := cells8 (h1.at_ 0 rfl)
  obtain ⟨d0, d1, d2, d3⟩ := cells4' (h1.at_ 1 rfl)
  go_wp2_with fail
  refine (HTB.out _ _ (h1.get 0 rfl)).mono ?_
  rintro e w3 ⟨bb, qq, rfl, hfd, hb3⟩
  have hn := HN.out
  clear c0 c1 c2 c3 c4 c5 c6 c7 d0 d1 d2 d3 HTB HN
  have h3 := (h1.call hb3).put (Mono.seq rdFd_up _ _) hfd
  clear h1 hb3 hfd
  obtain ⟨t, htd⟩ : ∃ t, (findTb tl ft).getD Tb.zero = t := ⟨_, rfl⟩
  obtain ⟨is, his⟩ : ∃ i, (findTb tl ft).isSome = i := ⟨_, rfl⟩
  rw [htd] at h3 hn ⊢
  rw [his]
  have HT := Lib.hid (And.intro htd his)
  clear htd his
  obtain ⟨tnn, te, tf, tk⟩ := t
  simp only [Tb.row] at h3 hn ⊢
  obtain ⟨n, hnn⟩ : ∃ n, tf.length = n := ⟨_, rfl⟩
  rw [hnn] at h3 hn ⊢
  have HNN := Lib.hid hnn
  clear hnn
  have h4a := h3.alloc (.cells #[.string tnn, .string te, .slice bb n qq, .int .i64 tk] 51)
  clear h3
  obtain ⟨c0, c1, c2, c3, c4, c5, c6, c7⟩ := cells8 (h4a.at_ 1 rfl)
  go_upto_region 4 with fail
  have h4 := h4a.alloc (.cells #[.string fs, .int .i64 fq, .int .i64 fk, .int .i64 fr, .string ft, .string fy, .int .i64 fe, .slice fb fn fc] 27)
  have h6 := (h4a.alloc (.cells #[.string fs, .int .i64 fq, .int .i64 fk, .int .i64 fr, .string ft, .string fy, .int .i64 fe, .slice (some ⟨w3.heap.size + 1 + 1, 0, none⟩) n n] 27)).alloc (.cells (madeCells #[.int .i64 0, .int .i64 0, .string ⟨#[]⟩] (n * 3)) 57)
  simp only [al_size] at h4 h6
  clear h4a c0 c1 c2 c3 c4 c5 c6 c7
  obtain ⟨d0, d1, d2, d3⟩ := cells4' (h4.at_ 1 rfl)
  have hn8 : 32 * n ≤ 281474976710656 := by omega
  have hn9 : n ≤ 9223372036854775807 := by omega
  go_upto_region 5 with (refine wpList_make_rows _ rfl (.tmp 23) (.tmp 23) 25 rfl 57 (.agg #[.int .i64 0, .int .i64 0, .string ⟨#[]⟩]) 3 32 Try.underlying25 val_infoM .i64 .i64 n rfl rfl hn8 hn9 ?_; intro w5 hw5; have h5 := h4.alloc (.cells (madeCells (Value.agg #[.int .i64 0, .int .i64 0, .string ⟨#[]⟩]).cells (n * 3)) 57); rw [← hw5] at h5; have f7 := frozen_of_row _ _ 7 _ _ (h5.at_ 1 rfl); have e7 := (cells8 (h5.at_ 1 rfl)).2.2.2.2.2.2.2)
  clear h5 f7 e7 d0 d1 d2 d3 h4
  subst hw5
  generalize World.alloc (World.alloc (World.alloc w3 _) _) _ = W6 at h6 ⊢
  have x0 := made_seq (sz := 3) (n := n) (R := rdVal) (zero := Vl.nul) rfl (by omega) (h6.at_ 0 rfl) (by unfold maxLen; omega) rfl
  have x1 := isCells_of (cs := #[.string fs, .int .i64 fq, .int .i64 fk, .int .i64 fr, .string ft, .string fy, .int .i64 fe, .slice (some ⟨w3.heap.size + 1 + 1, 0, none⟩) n n]) (h6.at_ 1 rfl)
  have x2 := isCells_of (h6.at_ 2 rfl)
  have x3 := isCells_of (h6.at_ 3 rfl)
  have x4 := isCells_of (h6.at_ 4 rfl)
  have h7 := ((((((((((h6.loose (os1 := [])).loose (os1 := [])).loose (os1 := [])).loose (os1 := [])).loose (os1 := [])).keep (Mono.cells _ _) x4).keep (Mono.cells _ _) x3).keep (Mono.cells _ _) x2).keep (Mono.cells _ _) x1).keep (Mono.seq rdVal_up _ _) x0)
  clear h6 x0 x1 x2 x3 x4
  cases is with
  | false =>
    go_wp2_with fail
    go_ret
    exact ⟨rfl, h7.below⟩
  | true =>
  obtain ⟨c0, c1, c2, c3, c4, c5, c6, c7⟩ := (h7.is 3 rfl : IsCells _ _ _).c8
  by_cases hk3 : fk = 3
  · subst hk3
    go_wp2_with fail
    go_ret
    exact ⟨rfl, h7.below⟩
  have hk3' := beq_of hk3
  have hfind : findTb tl ft = some ⟨tnn, te, tf, tk⟩ := by
    have h := HT.out
    cases hfd : findTb tl ft with
    | none => rw [hfd] at h; simp at h
    | some t => rw [hfd] at h; simpa using h.1
  have hpl := HPL.out _ hfind hk3
  simp only [HNN.out] at hpl
  have HPL2 := Lib.hid hpl
  have HF := Lib.hid hfind
  clear hpl hfind HPL hk3
  obtain ⟨ce, hce⟩ : ∃ c, chk tl ⟨fs, fq, fk, fr, ft, fy, fe, List.replicate n Vl.nul⟩ = c := ⟨_, rfl⟩
  obtain ⟨d0, d1, d2, d3⟩ := (h7.is 4 rfl : IsCells _ _ _).c4
  obtain ⟨y0, y1, y2, y3, y4, y5, y6, y7⟩ := (h7.is 1 rfl : IsCells _ _ _).c8
  go_wp2_with fail
  have hcall := HC1.out W6 (some ⟨w3.heap.size + 1 + 1, 0, none⟩) n ⟨fs, fq, fk, fr, ft, fy, fe, List.replicate n Vl.nul⟩ (h7.is 8 rfl) (h7.is 6 rfl) (by simp only [List.length_replicate]; exact h7.is 0 rfl)
  simp only [Fc.val, Fc.cellsA, List.length_replicate] at hcall
  rw [hce] at hcall
  refine (Calls.sV h7 hcall).mono ?_
  rintro e w7 ⟨rfl, h8⟩
  have HCE := Lib.hid hce
  clear hcall hce h7 c0 c1 c2 c3 c4 c5 c6 c7 d0 d1 d2 d3 y0 y1 y2 y3 y4 y5 y6 y7
  by_cases hc0 : ce = 0
  case neg =>
    have hc0' := bne_of hc0
    go_wp2_with fail
    go_ret
    exact ⟨rfl, h8.below⟩
  subst hc0
  have hpl := HPL2.out HCE.out
  obtain ⟨e1, he1⟩ : ∃ e, chk tl ⟨fs, fq, fk, fr, ft, fy, fe, fl⟩ = e := ⟨_, rfl⟩
  rw [he1] at hpl
  have HPL3 := Lib.hid hpl
  have HE1 := Lib.hid he1
  clear hpl HPL2 he1 HCE
  obtain ⟨d0, d1, d2, d3⟩ := (h8.is 2 rfl : IsCells _ _ _).c4
  obtain ⟨c0, c1, c2, c3, c4, c5, c6, c7⟩ := (h8.is 3 rfl : IsCells _ _ _).c8
  obtain ⟨r0, hr0⟩ : ∃ r, ((fn : Int) == (n : Int)) = r := ⟨_, rfl⟩
  have HR0 := Lib.hid hr0
  have HS := h8.facts (fs' := [IsCells w3.heap.size #[.string tnn, .string te, .slice bb n qq, .int .i64 tk], IsCells (w.heap.size + 1) #[.string fs, .int .i64 fq, .int .i64 fk, .int .i64 fr, .string ft, .string fy, .int .i64 fe, .slice fb fn fc], IsCells w.heap.size #[.slice b tn q, .slice b1 n1 q1, .slice b2 n2 q2, .slice b3 n3 q3], HasMax, (IsFds · (.slice bb n qq) tf), (IsTbs · (.slice b tn q) tl), (IsVals · (.slice fb fn fc) fl), HasMax]) (fun P hP => by simp only [List.mem_cons, List.not_mem_nil, or_false] at hP ⊢; rcases hP with rfl | rfl | rfl | rfl | rfl | rfl | rfl | rfl <;> simp)
  clear h8
  go_wp2_with fail
  clear hr0 d0 d1 d2 d3 c0 c1 c2 c3 c4 c5 c6 c7
  go_loopw [9, 10] (fun rv iv wr => ∃ (k : Nat) (r : Bool), k ≤ fn ∧ iv = .int .i64 k ∧ rv = .bool r ∧ (r = true → fn = n ∧ ∀ i (h : i < fl.length) (h2 : i < tf.length), i < k → (fl[i]).has (tf[i]).kind = true) ∧ (r = false → fn = n → hasAll fl tf = false) ∧ St w wr [] [IsCells w3.heap.size #[.string tnn, .string te, .slice bb n qq, .int .i64 tk], IsCells (w.heap.size + 1) #[.string fs, .int .i64 fq, .int .i64 fk, .int .i64 fr, .string ft, .string fy, .int .i64 fe, .slice fb fn fc], IsCells w.heap.size #[.slice b tn q, .slice b1 n1 q1, .slice b2 n2 q2, .slice b3 n3 q3], HasMax, (IsFds · (.slice bb n qq) tf), (IsTbs · (.slice b tn q) tl), (IsVals · (.slice fb fn fc) fl), HasMax]) (fun _ iv _ => fn - (intOf iv).toNat)
  case atStart =>
    refine ⟨0, r0, by omega, rfl, rfl, fun h => ⟨?_, fun i _ _ h => absurd h (Nat.not_lt_zero _)⟩, fun h h2 => ?_, HS⟩
    · have := HR0.out; rw [h] at this; have := eq_of_beq this; omega
    · have := HR0.out; rw [h, h2] at this; simp at this
  case round =>
    clear HS
    obtain ⟨k, r, hk, rfl, rfl, hok, hno, hst⟩ := hrel
    obtain ⟨c0, c1, c2, c3, c4, c5, c6, c7⟩ := (hst.is 1 rfl : IsCells _ _ _).c8
    have hvl : fl.length = fn := HFN.out
    have hfl : tf.length = n := HNN.out
    by_cases hgo : k < fn ∧ r = true
    · obtain ⟨hlt, rfl⟩ := hgo
      obtain ⟨hnf, hok2⟩ := hok rfl
      clear hok hno
      subst hnf
      have HOK := Lib.hid (And.intro trivial hok2)
      clear hok2
      obtain ⟨vb, off, x0', x1', x2', rfl, hrow, x0, x1, x2⟩ := (hst.get 6 rfl : IsVals _ _ _).row3 k (by omega)
      obtain ⟨⟨vk, vnn, vs⟩, hve⟩ : ∃ v, fl[k]'(by omega) = v := ⟨_, rfl⟩
      rw [hve] at hrow
      simp only [rdVal, Vl.cells, List.cons.injEq, and_true] at hrow
      obtain ⟨rfl, rfl, rfl⟩ := hrow
      obtain ⟨fbb, foo, y0', y1', uu, y3', rfl, hrow2, y0, y1, y2, y3⟩ := (hst.get 4 rfl : IsFds _ _ _).row4 k (by omega)
      obtain ⟨⟨fnm, fk2, fo⟩, hfe⟩ : ∃ v, tf[k]'(by omega) = v := ⟨_, rfl⟩
      rw [hfe] at hrow2
      obtain ⟨u, hrow2, hu⟩ := hrow2
      simp only [List.cons.injEq, and_true] at hrow2
      obtain ⟨rfl, rfl, rfl, rfl⟩ := hrow2
      have HE := Lib.hid (And.intro hve hfe)
      clear hve hfe hu
      have h6 := (((((((hst.put (Mono.cells _ _) (hst.get 0 rfl : IsCells _ _ _)).put (Mono.cells _ _) (hst.get 1 rfl : IsCells _ _ _)).put (Mono.cell _ _) x2).put (Mono.cell _ _) x1).put (Mono.cell _ _) x0).put (Mono.cell _ _) y3).put (Mono.cell _ _) y2).put (Mono.cell _ _) y1
      obtain ⟨hb, hhb⟩ : ∃ hb, (⟨vk, vnn, vs⟩ : Vl).has fk2 = hb := ⟨_, rfl⟩
      have HH := Lib.hid hhb
      clear hhb x0 x1 x2 y0 y1 y2 y3 hst
      go_upto_region 11 with fail
      clear c0 c1 c2 c3 c4 c5 c6 c7
      refine wp_region_st [pVal ?c11_0, pVal (.slice (some ⟨vb, off, none⟩) fn fc), pVal ?c11_2, pVal ?c11_3, pVal (.agg #[.int .i64 vk, .int .i64 vnn, .string vs]), pVal ?c11_5, pVal (.slice (some ⟨fbb, foo, none⟩) fn qq), pVal ?c11_7, pVal ?c11_8, pVal ?c11_9, pVal (.agg #[.int .i64 fk2, uu, .string fo]), pVal (.bool hb), pVal (.bool hb)] (osC []) 88 [0, 1, 0, 7, 15, 0, 32, 0, 224, 480, 992, 2047, 4095] [[], [(0, 57)], [], [(2, 59), (1, 58)], [(3, 60)], [], [(5, 62)], [], [(7, 64), (6, 63)], [(8, 65)], [(9, 66)], [(10, 67), (4, 61)], [(11, 68)]] [(0, 57), (1, 58), (2, 59), (3, 60), (4, 61), (5, 62), (6, 63), (7, 64), (8, 65), (9, 66), (10, 67), (11, 68), (12, 9)] (by kernel_rfl) (by kernel_rfl) rfl rfl h6 osC0 osC1 ?ob ?en
      case ob =>
        refine ⟨?_, ?_, ?_, ?_, ?_, ?_, ?_, ?_, ?_, ?_, ?_, ?_, ?_, trivial⟩
        · -- 0: t57 := Op.fieldAddr 27 (t3) 6
          intro zx1 zx2 zx3 zx4 L V W hL hd hw hst 
          refine ob_c rfl ?_ hst rfl
          go_simp
          try with_reducible rfl
        · -- 1: t58 := Op.load 25 (t57)
          intro zx1 zx2 zx3 zx4 L V W hL hd hw hst u0 e0 p0
          obtain rfl : u0 = _ := p0
          have hz := mask_is _ _ _ _ ((hst.base 6 rfl : IsCells _ _ _) 7 _ rfl)
          refine ob_c rfl ?_ hst rfl
          go_simp
          try with_reducible rfl
        · -- 2: t59 := Op.move (t10)
          intro zx1 zx2 zx3 zx4 L V W hL hd hw hst 
          refine ob_c rfl ?_ hst rfl
          go_simp
          try with_reducible rfl
        · -- 3: t60 := Op.indexAddr 25 (t58) (t59)
          intro zx1 zx2 zx3 zx4 L V W hL hd hw hst u1 e1 p1 u2 e2 p2
          obtain rfl : u1 = _ := p1
          obtain rfl : u2 = _ := p2
          refine ob_c rfl ?_ hst rfl
          go_simp
          try with_reducible rfl
        · -- 4: t61 := Op.load 57 (t60)
          intro zx1 zx2 zx3 zx4 L V W hL hd hw hst u3 e3 p3
          obtain rfl : u3 = _ := p3
          have y1 := mask_is _ _ _ _ (hst.base 3 rfl)
          have y2 := mask_is _ _ _ _ (hst.base 4 rfl)
          have y3 := mask_is _ _ _ _ (hst.base 5 rfl)
          refine ob_c rfl ?_ hst rfl
          go_simp
          try with_reducible rfl
        · -- 5: t62 := Op.fieldAddr 51 (t6) 2
          intro zx1 zx2 zx3 zx4 L V W hL hd hw hst 
          refine ob_c rfl ?_ hst rfl
          go_simp
          try with_reducible rfl
        · -- 6: t63 := Op.load 49 (t62)
          intro zx1 zx2 zx3 zx4 L V W hL hd hw hst u5 e5 p5
          obtain rfl : u5 = _ := p5
          have hz := mask_is _ _ _ _ ((hst.base 7 rfl : IsCells _ _ _) 2 _ rfl)
          refine ob_c rfl ?_ hst rfl
          go_simp
          try with_reducible rfl
        · -- 7: t64 := Op.move (t10)
          intro zx1 zx2 zx3 zx4 L V W hL hd hw hst 
          refine ob_c rfl ?_ hst rfl
          go_simp
          try with_reducible rfl
        · -- 8: t65 := Op.indexAddr 49 (t63) (t64)
          intro zx1 zx2 zx3 zx4 L V W hL hd hw hst u6 e6 p6 u7 e7 p7
          obtain rfl : u6 = _ := p6
          obtain rfl : u7 = _ := p7
          refine ob_c rfl ?_ hst rfl
          go_simp
          try with_reducible rfl
        · -- 9: t66 := Op.fieldAddr 62 (t65) 1
          intro zx1 zx2 zx3 zx4 L V W hL hd hw hst u8 e8 p8
          obtain rfl : u8 = _ := p8
          refine ob_c rfl ?_ hst rfl
          go_simp
          try with_reducible rfl
        · -- 10: t67 := Op.load 60 (t66)
          intro zx1 zx2 zx3 zx4 L V W hL hd hw hst u9 e9 p9
          obtain rfl : u9 = _ := p9
          have y1 := mask_is _ _ _ _ (hst.base 0 rfl)
          have y2 := mask_is _ _ _ _ (hst.base 1 rfl)
          have y3 := mask_is _ _ _ _ (hst.base 2 rfl)
          refine ob_c rfl ?_ hst rfl
          go_simp
          try with_reducible rfl
        · -- 11: t68 := Op.call { callee := value (func 24), args := #[t61, t67], argTypes := #[57, 60] }
          intro zx1 zx2 zx3 zx4 L V W hL hd hw hst u4 e4 p4 u10 e10 p10
          obtain rfl : u4 = _ := p4
          obtain rfl : u10 = _ := p10
          refine ob_call rfl ?_ (HH.out ▸ Calls.pV hst (valHas_any _ ⟨vk, vnn, vs⟩ fk2 uu fo))
          go_simp
        · -- 12: t9 := Op.assign (t68)
          intro zx1 zx2 zx3 zx4 L V W hL hd hw hst u11 e11 p11
          obtain rfl : u11 = _ := p11
          refine ob_c rfl ?_ hst rfl
          go_simp
          try with_reducible rfl
      case en =>
        intro V W hst u0 e0 p0 u1 e1 p1 u2 e2 p2 u3 e3 p3 u4 e4 p4 u5 e5 p5 u6 e6 p6 u7 e7 p7 u8 e8 p8 u9 e9 p9 u10 e10 p10 u11 e11 p11 u12 e12 p12
        obtain rfl : u0 = _ := p0
        obtain rfl : u1 = _ := p1
        obtain rfl : u2 = _ := p2
        obtain rfl : u3 = _ := p3
        obtain rfl : u4 = _ := p4
        obtain rfl : u5 = _ := p5
        obtain rfl : u6 = _ := p6
        obtain rfl : u7 = _ := p7
        obtain rfl : u8 = _ := p8
        obtain rfl : u9 = _ := p9
        obtain rfl : u10 = _ := p10
        obtain rfl : u11 = _ := p11
        obtain rfl : u12 = _ := p12
        simp only [EndAll, Act.put, List.getElem_toArray, List.getElem_cons_succ, List.getElem_cons_zero, List.setIfInBounds_toArray, List.set_cons_zero, List.set_cons_succ]
        rw [show osC [] (fun _ => true) V = [] from rfl] at hst
        have h9 := hst.facts (fs' := [IsCells w3.heap.size #[.string tnn, .string te, .slice (some ⟨fbb, foo, none⟩) fn qq, .int .i64 tk], IsCells (w.heap.size + 1) #[.string fs, .int .i64 fq, .int .i64 fk, .int .i64 fr, .string ft, .string fy, .int .i64 fe, .slice (some ⟨vb, off, none⟩) fn fc], IsCells w.heap.size #[.slice b tn q, .slice b1 n1 q1, .slice b2 n2 q2, .slice b3 n3 q3], HasMax, (IsFds · (.slice (some ⟨fbb, foo, none⟩) fn qq) tf), (IsTbs · (.slice b tn q) tl), (IsVals · (.slice (some ⟨vb, off, none⟩) fn fc) fl), HasMax]) (fun P hP => by simp only [List.mem_cons, List.not_mem_nil, or_false] at hP ⊢; rcases hP with rfl | rfl | rfl | rfl | rfl | rfl | rfl | rfl <;> simp)
        clear hst e0 e1 e2 e3 e4 e5 e6 e7 e8 e9 e10 e11 e12 h6
        go_wp2_with fail
        go_roundw
        case rel =>
          refine ⟨k + 1, hb, by omega, by go_num, rfl, fun h => ⟨trivial, fun i h1 h2 hi => ?_⟩, fun h _ => ?_, h9⟩
          · rcases Nat.lt_succ_iff_lt_or_eq.1 hi with hi | rfl
            · exact HOK.out.2 i h1 h2 hi
            · rw [HE.out.1, HE.out.2, HH.out]; exact h
          · rw [Bool.eq_false_iff]
            intro hall
            have := (hasAll_iff _ _ (by omega)).1 hall k (by omega)
            rw [HE.out.1, HE.out.2, HH.out, h] at this
            cases this
        case measure => simp [intOf]; omega
    · have hend : (r = true ∧ e1 = 0) ∨ (r = false ∧ e1 = 5) := by
        cases r with
        | true =>
          left
          obtain ⟨hnf, hok⟩ := hok rfl
          have hkf : k = fn := by
            rcases Nat.lt_or_ge k fn with h | h
            · exact absurd ⟨h, rfl⟩ hgo
            · omega
          exact ⟨rfl, HPL3.out.1 hnf ((hasAll_iff _ _ (by omega)).2 fun i h => hok i h (by omega) (by omega))⟩
        | false =>
          right
          refine ⟨rfl, ?_⟩
          by_cases hnf : fn = n
          · exact HPL3.out.2.1 hnf (hno rfl hnf)
          · exact HPL3.out.2.2 hnf
      have HEND := Lib.hid hend
      have hgo2 : ¬ (k < fn) ∨ r = false := by
        cases r with
        | true => left; exact fun h => hgo ⟨h, rfl⟩
        | false => right; rfl
      clear hok hno hend hgo
      obtain ⟨d0, d1, d2, d3⟩ := (hst.is 2 rfl : IsCells _ _ _).c4
      have hcall := HC1.out wr fb fc ⟨fs, fq, fk, fr, ft, fy, fe, fl⟩ (hst.is 7 rfl) (hst.is 5 rfl) (by simp only [HFN.out]; exact hst.is 6 rfl)
      simp only [Fc.val, Fc.cellsA, HFN.out, HE1.out] at hcall
      have HCL := Lib.hid hcall
      clear hcall
      rcases hgo2 with hgo2 | rfl
      · have hge : ¬ ((k : Int) < (fn : Int)) := by omega
        go_wp2_with fail
        refine (Calls.sV hst HCL.out).mono ?_
        rintro e w8 ⟨rfl, h8⟩
        clear hst HCL c0 c1 c2 c3 c4 c5 c6 c7 d0 d1 d2 d3
        rcases HEND.out with ⟨rfl, rfl⟩ | ⟨rfl, rfl⟩
        · go_wp2_with fail
          go_ret
          exact ⟨rfl, h8.below⟩
        · go_wp2_with fail
          go_ret
          exact ⟨rfl, h8.below⟩
      · obtain rfl : e1 = 5 := by
          rcases HEND.out with ⟨h, -⟩ | ⟨-, h⟩
          · cases h
          · exact h
        by_cases hlt : k < fn
        · go_wp2_with fail
          refine (Calls.sV hst HCL.out).mono ?_
          rintro e w8 ⟨rfl, h8⟩
          clear hst HCL c0 c1 c2 c3 c4 c5 c6 c7 d0 d1 d2 d3
          go_wp2_with fail
          go_ret
          exact ⟨rfl, h8.below⟩
        · have hge : ¬ ((k : Int) < (fn : Int)) := by omega
          go_wp2_with fail
          refine (Calls.sV hst HCL.out).mono ?_
          rintro e w8 ⟨rfl, h8⟩
          clear hst HCL c0 c1 c2 c3 c4 c5 c6 c7 d0 d1 d2 d3
          go_wp2_with fail
          go_ret
          exact ⟨rfl, h8.below⟩
end Go.Proofs.Ytfpkibfofainaaa
