/- The walks over the reference's Formed and Check of facts. -/
import Derived.Test.YtfpkibfofainaaaChk
import Derived.Test.YtfpkibfofainaaaRvc
import Derived.Test.YtfpkibfofainaaaRnw
import Derived.Test.YtfpkibfofainaaaRtab
import Derived.Test.YtfpkibfofainaaaRegD
set_option linter.unusedVariables false
set_option linter.unusedSimpArgs false
namespace Go.Proofs.Ytfpkibfofainaaa
open Go.RowKit

theorem keyB_check (s : ByteArray) : decide ((⟨5, 0, s⟩ : Vl).check = 0) = keyB s := by
  rw [check_ref]
  have hf : fieldsB ⟨5, 0, s⟩ = true := by simp [fieldsB]
  have hi : inRangeB 0 = true := by decide
  rw [if_neg (by rw [hf]; decide)]
  simp only [hi]
  cases hk : keyB s with
  | true =>
    have hs : ¬ 32 < s.size := by
      unfold keyB at hk
      simp only [Bool.and_eq_true, decide_eq_true_eq] at hk
      omega
    simp [hs]
  | false =>
    by_cases hs : 32 < s.size <;> simp [hs]

set_option maxRecDepth 8000 in
set_option maxHeartbeats 4000000 in
theorem refFormed_any (w : World) (f : Fc) (fb : Option Addr) (fq : Nat) (hfb : IsVals w (.slice fb f.fields.length fq) f.fields) :
    Calls Try.prog 53 #[f.val (.slice fb f.fields.length fq)] w fun e w' => e = .returned (.bool f.formed) ∧ Below w.heap.size w w' := by
  obtain ⟨r, hr⟩ : ∃ r, f.formed = r := ⟨_, rfl⟩
  have HR := Lib.hid hr
  rw [hr]
  clear hr
  obtain ⟨src, seq, kind, ref, table, key, event, fields⟩ := f
  simp only [Fc.val, Fc.cellsA] at *
  obtain ⟨m, hml⟩ : ∃ m, fields.length = m := ⟨_, rfl⟩
  rw [hml] at hfb ⊢
  have HM := Lib.hid hml
  clear hml
  have h0 := (St.start w).alloc (.cells #[.string src, .int .i64 seq, .int .i64 kind, .int .i64 ref, .string table, .string key, .int .i64 event, .slice fb m fq] 27)
  go_enter Try.func53, Try.ntmps53
  go_wp2_with fail
  refine (Calls.sV h0 (refName_any _ src)).mono ?_
  rintro e w1 ⟨rfl, h1⟩
  clear h0
  obtain ⟨c0, c1, c2, c3, c4, c5, c6, c7⟩ := cells8 (h1.at_ 0 rfl)
  obtain ⟨nm, hnm⟩ : ∃ nm, isName src = nm := ⟨_, rfl⟩
  rw [hnm]
  have HNM := Lib.hid hnm
  clear hnm
  cases nm with
  | false =>
    have hr : r = false := by rw [← HR.out]; unfold Fc.formed; simp only [HNM.out]; rfl
    have HR2 := Lib.hid hr
    clear hr
    go_wp2_with fail
    go_ret
    exact ⟨by rw [HR2.out]; rfl, h1.below⟩
  | true =>
    by_cases hs1 : seq < 1
    · have hr : r = false := by rw [← HR.out]; simp [Fc.formed]; intro _ h; omega
      have HR2 := Lib.hid hr
      clear hr
      go_wp2_with fail
      go_ret
      exact ⟨by rw [HR2.out]; rfl, h1.below⟩
    by_cases hs2 : 1099511627776 < seq
    · have hr : r = false := by rw [← HR.out]; simp [Fc.formed]; intro _ _ h; omega
      have HR2 := Lib.hid hr
      clear hr
      go_wp2_with fail
      go_ret
      exact ⟨by rw [HR2.out]; rfl, h1.below⟩
    by_cases hk : kind = 1 ∨ kind = 2
    case neg =>
      have k1 : ¬ kind = 1 := fun h => hk (.inl h)
      have k2 : ¬ kind = 2 := fun h => hk (.inr h)
      have k1' := beq_of k1
      have k2' := beq_of k2
      have hr : r = (if kind = 3 then (decide (1 ≤ ref) && decide (ref < seq)) && table.toList.isEmpty && key.toList.isEmpty && (event == 0) && ((m : Int) == 0) else false) := by
        rw [← HR.out]
        simp only [Fc.formed, Fc.says, Fc.refers, isKeyS, HNM.out, HM.out, size0_isEmpty]
        simp only [dec_beq, dec_beqN]
        rw [decide_eq_true (show 1 ≤ seq by omega), decide_eq_true (show seq ≤ 1099511627776 by omega), Bool.and_self, Bool.and_self, Bool.true_and, if_neg k1, if_neg k2]
      have HR2 := Lib.hid hr
      clear hr HR hk k1 k2
      go_wp2_with fail
      all_goals
        go_ret
        refine ⟨congrArg (fun b => Ending.returned (.bool b)) ?_, h1.below⟩
        have hfin := HR2.out
        clear h1 c0 c1 c2 c3 c4 c5 c6 c7 HNM HR2 HM hfb
        go_light
        rw [hfin]
        simp_all <;> omega
    have k3 : ¬ kind = 3 := fun h => by omega
    have k3' := beq_of k3
    obtain ⟨ik, hik⟩ : ∃ ik, keyB key = ik := ⟨_, rfl⟩
    have hik2 : decide ((⟨5, 0, key⟩ : Vl).check = 0) = ik := by rw [← hik, keyB_check]
    have hrf := refKey_any w1 key
    rw [hik] at hrf
    have HRF := Lib.hid hrf
    have hr : r = (if kind = 1 then (ik && decide (0 ≤ event) && decide (event ≤ 1099511627776)) && (ref == 0) else (ik && decide (0 ≤ event) && decide (event ≤ 1099511627776)) && (decide (1 ≤ ref) && decide (ref < seq))) := by
      rw [← HR.out]
      simp only [Fc.formed, Fc.says, Fc.refers, isKeyS, HNM.out, hik2, HM.out, size0_isEmpty]
      simp only [dec_beq, dec_beqN]
      rw [decide_eq_true (show 1 ≤ seq by omega), decide_eq_true (show seq ≤ 1099511627776 by omega), Bool.and_self, Bool.and_self, Bool.true_and]
      rcases hk with h | h
      · rw [if_pos h, if_pos h]
      · rw [if_neg (by omega), if_pos h, if_neg (by omega)]
    have HR2 := Lib.hid hr
    clear hr HR hik hik2 hrf k3
    by_cases k1 : kind = 1
    · subst k1
      clear hk
      have hr := HR2.out
      rw [if_pos rfl] at hr
      have HR3 := Lib.hid hr
      clear hr HR2
      by_cases hr0 : ref = 0
      · subst hr0
        have HR4 : Hid (r = (ik && decide (0 ≤ event) && decide (event ≤ 1099511627776))) := Lib.hid (by rw [HR3.out]; simp)
        clear HR3
        go_wp2_with fail
        refine HRF.out.mono ?_
        rintro e w2 ⟨rfl, rfl⟩
        cases ik with
        | false =>
          have HR5 : Hid (r = false) := Lib.hid (by rw [HR4.out]; rfl)
          clear HR4
          go_wp2_with fail
          go_ret
          exact ⟨by rw [HR5.out]; rfl, h1.below⟩
        | true =>
          by_cases he0 : 0 ≤ event
          · have HR5 : Hid (r = decide (event ≤ 1099511627776)) := Lib.hid (by rw [HR4.out, decide_eq_true he0]; simp)
            clear HR4
            go_wp2_with fail
            go_ret
            exact ⟨by rw [HR5.out]; rfl, h1.below⟩
          · have HR5 : Hid (r = false) := Lib.hid (by rw [HR4.out, decide_eq_false he0]; simp)
            clear HR4
            go_wp2_with fail
            go_ret
            exact ⟨by rw [HR5.out]; rfl, h1.below⟩
      · have hr0' := bne_of hr0
        have HR4 : Hid (r = false) := Lib.hid (by rw [HR3.out, beq_of hr0]; simp)
        clear HR3
        go_wp2_with fail
        go_ret
        exact ⟨by rw [HR4.out]; rfl, h1.below⟩
    · obtain rfl : kind = 2 := by omega
      clear hk
      have hr := HR2.out
      rw [if_neg (by omega)] at hr
      have HR3 := Lib.hid hr
      clear hr HR2 k1
      by_cases hr1 : ref < 1
      · have HR4 : Hid (r = false) := Lib.hid (by rw [HR3.out, decide_eq_false (show ¬ 1 ≤ ref by omega)]; simp)
        clear HR3
        go_wp2_with fail
        go_ret
        exact ⟨by rw [HR4.out]; rfl, h1.below⟩
      · by_cases hr2 : seq ≤ ref
        · have HR4 : Hid (r = false) := Lib.hid (by rw [HR3.out, decide_eq_false (show ¬ ref < seq by omega)]; simp)
          clear HR3
          go_wp2_with fail
          go_ret
          exact ⟨by rw [HR4.out]; rfl, h1.below⟩
        · have HR4 : Hid (r = (ik && decide (0 ≤ event) && decide (event ≤ 1099511627776))) := Lib.hid (by rw [HR3.out, decide_eq_true (show 1 ≤ ref by omega), decide_eq_true (show ref < seq by omega)]; simp)
          clear HR3
          go_wp2_with fail
          refine HRF.out.mono ?_
          rintro e w2 ⟨rfl, rfl⟩
          cases ik with
          | false =>
            have HR5 : Hid (r = false) := Lib.hid (by rw [HR4.out]; rfl)
            clear HR4
            go_wp2_with fail
            go_ret
            exact ⟨by rw [HR5.out]; rfl, h1.below⟩
          | true =>
            by_cases he0 : 0 ≤ event
            · have HR5 : Hid (r = decide (event ≤ 1099511627776)) := Lib.hid (by rw [HR4.out, decide_eq_true he0]; simp)
              clear HR4
              go_wp2_with fail
              go_ret
              exact ⟨by rw [HR5.out]; rfl, h1.below⟩
            · have HR5 : Hid (r = false) := Lib.hid (by rw [HR4.out, decide_eq_false he0]; simp)
              clear HR4
              go_wp2_with fail
              go_ret
              exact ⟨by rw [HR5.out]; rfl, h1.below⟩
set_option maxRecDepth 8000 in
set_option maxHeartbeats 4000000 in
theorem refFactCheck_any (w : World) (tb : Option Addr) (tq : Nat) (tl : List Tb) (u1 u2 u3 : Value) (f : Fc) (vb : Option Addr) (vq : Nat) (ht : IsTbs w (.slice tb tl.length tq) tl) (hv : IsVals w (.slice vb f.fields.length vq) f.fields) :
    Calls Try.prog 25 #[.agg #[.slice tb tl.length tq, u1, u2, u3], f.val (.slice vb f.fields.length vq)] w fun e w' => e = .returned (.int .i64 (chk tl f)) ∧ Below w.heap.size w w' := by
  obtain ⟨r, hr⟩ : ∃ r, chk tl f = r := ⟨_, rfl⟩
  have HR := Lib.hid hr
  rw [hr]
  clear hr
  obtain ⟨n, hn⟩ : ∃ n, tl.length = n := ⟨_, rfl⟩
  obtain ⟨vn, hvn⟩ : ∃ n, f.fields.length = n := ⟨_, rfl⟩
  have hn63 : vn ≤ 9223372036854775807 := by obtain ⟨_, _, e, q1, q2, -⟩ := hv.shape; unfold maxLen at q2; omega
  have hfm := fun w (hv : IsVals w (.slice vb f.fields.length vq) f.fields) => refFormed_any w f vb vq hv
  obtain ⟨fm, hfmd⟩ : ∃ fm, f.formed = fm := ⟨_, rfl⟩
  have HFM := Lib.hid hfmd
  rw [hfmd] at hfm
  rw [hvn] at hfm hv ⊢
  have htb := fun w S (h : IsTbs (mask S w) (.slice tb tl.length tq) tl) => refTable_any w S tb tq tl u1 u2 u3 f.table h
  rw [hn] at ht htb ⊢
  have HN := Lib.hid (And.intro hn hvn)
  clear hn hvn hfmd
  obtain ⟨⟨src, seq, kind, ref, table, key, event, fields⟩, hf⟩ : ∃ f', f = f' := ⟨_, rfl⟩
  subst hf
  simp only [Fc.val, Fc.cellsA] at *
  have h0 := ((((St.start w).putOld (P := (IsTbs · (.slice tb n tq) tl)) (Mono.seq rdTb_up _ _) ht).putOld (P := (IsVals · (.slice vb vn vq) fields)) (Mono.seq rdVal_up _ _) hv).alloc (.cells #[.slice tb n tq, u1, u2, u3] 45)).alloc (.cells #[.string src, .int .i64 seq, .int .i64 kind, .int .i64 ref, .string table, .string key, .int .i64 event, .slice vb vn vq] 27)
  rw [al_size] at h0
  go_enter Try.func25, Try.ntmps25
  go_wp2_with fail
  refine (Calls.sV h0 (hfm _ (h0.is 0 rfl))).mono ?_
  rintro e w1 ⟨rfl, h1⟩
  clear h0 hfm
  obtain ⟨c0, c1, c2, c3, c4, c5, c6, c7⟩ := cells8 (h1.at_ 0 rfl)
  obtain ⟨d0, d1, d2, d3, -, -, -, -⟩ := cells4 (h1.at_ 1 rfl)
  cases fm with
  | false =>
    have hr : r = 1 := by rw [← HR.out]; unfold chk; rw [if_pos HFM.out]
    have HR2 := Lib.hid hr
    clear hr
    go_wp2_with fail
    go_ret
    exact ⟨by rw [HR2.out]; rfl, h1.below⟩
  | true =>
    by_cases hk3 : kind = 3
    · have hr : r = 0 := by rw [← HR.out]; unfold chk; rw [if_neg (by rw [HFM.out]; decide), if_pos hk3]
      have HR2 := Lib.hid hr
      clear hr
      subst hk3
      go_wp2_with fail
      go_ret
      exact ⟨by rw [HR2.out]; rfl, h1.below⟩
    have hk3' := beq_of hk3
    have hr : r = match findTb tl table with | none => 4 | some t => if vn ≠ t.fields.length then 5 else if hasAll fields t.fields then 0 else 5 := by
      rw [← HR.out]; unfold chk; rw [if_neg (by rw [HFM.out]; decide), if_neg hk3, HN.out.2]; rfl
    have HR2 := Lib.hid hr
    clear hr HR
    go_wp2_with fail
    refine (htb _ _ (h1.get 1 rfl)).mono ?_
    rintro e w2 ⟨fb, fq, rfl, hfd, hb2⟩
    have h2 := (h1.call hb2)
    clear c0 c1 c2 c3 c4 c5 c6 c7 d0 d1 d2 d3 hb2 htb
    obtain ⟨t, htd⟩ : ∃ t, (findTb tl table) = t := ⟨_, rfl⟩
    rw [htd] at hfd ⊢
    have HT := Lib.hid htd
    clear htd
    have hr2 := HR2.out
    rw [HT.out] at hr2
    cases t with
    | none =>
      simp only at hr2
      have HR3 := Lib.hid hr2
      clear hr2
      simp only [Option.getD_none, Tb.zero, Tb.row, List.length_nil, Option.isSome_none]
      go_wp2_with fail
      go_ret
      exact ⟨by rw [HR3.out]; rfl, (h2.box _).below⟩
    | some t =>
      simp only at hr2
      simp only [Option.getD_some, Tb.row, Option.isSome_some] at hfd ⊢
      obtain ⟨m, hml⟩ : ∃ m, t.fields.length = m := ⟨_, rfl⟩
      rw [hml] at hr2 hfd ⊢
      have HM := Lib.hid hml
      clear hml
      have h3 := h2.put (Mono.seq rdFd_up _ _) (show IsFds (sm _ w2) (.slice fb m fq) t.fields from hfd)
      clear hfd h2 h1
      obtain ⟨tn, te, tf, tk⟩ := t
      simp only at *
      have h4 := h3.alloc (.cells #[.string tn, .string te, .slice fb m fq, .int .i64 tk] 51)
      obtain ⟨g5, hg5⟩ : ∃ g, w2.heap.size = g := ⟨_, rfl⟩
      obtain ⟨c0, c1, c2, c3, c4, c5, c6, c7⟩ := cells8 (h4.at_ 1 rfl)
      have HG := Lib.hid hg5
      clear h3
      by_cases hlen : vn = m
      case neg =>
        rw [if_pos hlen] at hr2
        have HR3 := Lib.hid hr2
        have hlen' : ((vn : Int) != (m : Int)) = true := by simp; omega
        clear hr2
        go_wp2_with fail
        go_ret
        exact ⟨by rw [HR3.out]; rfl, h4.below⟩
      subst hlen
      rw [if_neg (fun h => h rfl)] at hr2
      have HR3 := Lib.hid hr2
      clear hr2
      go_wp2_with fail
      obtain ⟨g3, hg3⟩ : ∃ g, w.heap.size + 1 = g := ⟨_, rfl⟩
      rw [hg5, hg3] at h4
      rw [hg3]
      clear hg5 hg3 c0 c1 c2 c3 c4 c5 c6 c7
      replace h4 := (h4.facts (fs' := [(IsFds · (.slice fb vn fq) tf), (IsVals · (.slice vb vn vq) fields)]) (fun P hP => by simp only [List.mem_cons, List.not_mem_nil, or_false] at hP ⊢; rcases hP with rfl | rfl <;> simp)).loose (os1 := [_, _])
      go_loopw [7] (fun c wr => ∃ k : Nat, k ≤ vn ∧ c = .int .i64 k ∧ (∀ i (h : i < fields.length) (h2 : i < tf.length), i < k → (fields[i]).has (tf[i]).kind = true) ∧ St w wr [(g5, .cells #[.string tn, .string te, .slice fb vn fq, .int .i64 tk] 51 (0, 0)), (g3, .cells #[.string src, .int .i64 seq, .int .i64 kind, .int .i64 ref, .string table, .string key, .int .i64 event, .slice vb vn vq] 27 (0, 0))] [(IsFds · (.slice fb vn fq) tf), (IsVals · (.slice vb vn vq) fields)]) (fun c _ => vn - (intOf c).toNat)
      case atStart => exact ⟨0, by omega, rfl, fun i _ _ h => absurd h (Nat.not_lt_zero _), h4⟩
      case round =>
        clear h4
        obtain ⟨k, hk, rfl, hok, hst⟩ := hrel
        have HOK := Lib.hid hok
        clear hok
        have hvl : fields.length = vn := HN.out.2
        have hfl : tf.length = vn := HM.out
        by_cases hlt : k < vn
        · obtain ⟨b, off, x0', x1', x2', rfl, hrow, x0, x1, x2⟩ := (hst.get 1 rfl : IsVals _ _ _).row3 k (by omega)
          obtain ⟨⟨vk, vnn, vs⟩, hve⟩ : ∃ v, fields[k]'(by omega) = v := ⟨_, rfl⟩
          rw [hve] at hrow
          simp only [rdVal, Vl.cells, List.cons.injEq, and_true] at hrow
          obtain ⟨rfl, rfl, rfl⟩ := hrow
          obtain ⟨fbb, foo, y0', y1', uu, y3', rfl, hrow2, y0, y1, y2, y3⟩ := (hst.get 0 rfl : IsFds _ _ _).row4 k (by omega)
          obtain ⟨⟨fn, fk, fo⟩, hfe⟩ : ∃ v, tf[k]'(by omega) = v := ⟨_, rfl⟩
          rw [hfe] at hrow2
          obtain ⟨u, hrow2, hu⟩ := hrow2
          simp only [List.cons.injEq, and_true] at hrow2
          obtain ⟨rfl, rfl, rfl, rfl⟩ := hrow2
          have HE := Lib.hid (And.intro hve hfe)
          clear hve hfe hu
          have h6 := (((((hst.put (Mono.cell _ _) x2).put (Mono.cell _ _) x1).put (Mono.cell _ _) x0).put (Mono.cell _ _) y3).put (Mono.cell _ _) y2).put (Mono.cell _ _) y1
          obtain ⟨hb, hhb⟩ : ∃ hb, (⟨vk, vnn, vs⟩ : Vl).has fk = hb := ⟨_, rfl⟩
          have HH := Lib.hid hhb
          clear hhb
          have c5 := (cells8 (h6.at_ 1 rfl)).2.2.2.2.2.2.2
          go_upto_region 13 with fail
          clear c5
          refine wp_region_st [pVal ?c13_0, pVal (.slice (some ⟨b, off, none⟩) vn vq), pVal ?c13_2, pVal ?c13_3, pVal (.agg #[.int .i64 vk, .int .i64 vnn, .string vs]), pVal ?c13_5, pVal (.slice (some ⟨fbb, foo, none⟩) vn fq), pVal ?c13_7, pVal ?c13_8, pVal ?c13_9, pVal (.agg #[.int .i64 fk, uu, .string fo]), pVal (.bool hb), pVal (.bool (!hb))] (osC [(g5, .cells #[.string tn, .string te, .slice (some ⟨fbb, foo, none⟩) vn fq, .int .i64 tk] 51 (0, 0)), (g3, .cells #[.string src, .int .i64 seq, .int .i64 kind, .int .i64 ref, .string table, .string key, .int .i64 event, .slice (some ⟨b, off, none⟩) vn vq] 27 (0, 0))]) 50 [0, 1, 0, 7, 15, 0, 32, 0, 224, 480, 992, 2047, 4095] [[], [(0, 37)], [], [(2, 39), (1, 38)], [(3, 40)], [], [(5, 42)], [], [(7, 44), (6, 43)], [(8, 45)], [(9, 46)], [(10, 47), (4, 41)], [(11, 48)]] [(0, 37), (1, 38), (2, 39), (3, 40), (4, 41), (5, 42), (6, 43), (7, 44), (8, 45), (9, 46), (10, 47), (11, 48), (12, 49)] (by kernel_rfl) (by kernel_rfl) rfl rfl h6 osC0 osC1 ?ob ?en
          case ob =>
            refine ⟨?_, ?_, ?_, ?_, ?_, ?_, ?_, ?_, ?_, ?_, ?_, ?_, ?_, trivial⟩
            · -- 0: t37 := Op.fieldAddr 27 (t3) 6
              intro zx1 zx2 zx3 zx4 L V W hL hd hw hst 
              refine ob_c rfl ?_ hst rfl
              go_simp
              try with_reducible rfl
            · -- 1: t38 := Op.load 25 (t37)
              intro zx1 zx2 zx3 zx4 L V W hL hd hw hst u0 e0 p0
              obtain rfl : u0 = _ := p0
              have hc2 := (cells8 (hst.find (g := g3) (o := .cells #[.string src, .int .i64 seq, .int .i64 kind, .int .i64 ref, .string table, .string key, .int .i64 event, .slice (some ⟨b, off, none⟩) vn vq] 27 (0, 0)) (by simp [osC]))).2.2.2.2.2.2.2
              refine ob_c rfl ?_ hst rfl
              go_simp
              try with_reducible rfl
            · -- 2: t39 := Op.move (t7)
              intro zx1 zx2 zx3 zx4 L V W hL hd hw hst 
              refine ob_c rfl ?_ hst rfl
              go_simp
              try with_reducible rfl
            · -- 3: t40 := Op.indexAddr 25 (t38) (t39)
              intro zx1 zx2 zx3 zx4 L V W hL hd hw hst u1 e1 p1 u2 e2 p2
              obtain rfl : u1 = _ := p1
              obtain rfl : u2 = _ := p2
              refine ob_c rfl ?_ hst rfl
              go_simp
              try with_reducible rfl
            · -- 4: t41 := Op.load 57 (t40)
              intro zx1 zx2 zx3 zx4 L V W hL hd hw hst u3 e3 p3
              obtain rfl : u3 = _ := p3
              have y1 := mask_is _ _ _ _ (hst.base 3 rfl)
              have y2 := mask_is _ _ _ _ (hst.base 4 rfl)
              have y3 := mask_is _ _ _ _ (hst.base 5 rfl)
              refine ob_c rfl ?_ hst rfl
              go_simp
              try with_reducible rfl
            · -- 5: t42 := Op.fieldAddr 51 (t5) 2
              intro zx1 zx2 zx3 zx4 L V W hL hd hw hst 
              refine ob_c rfl ?_ hst rfl
              go_simp
              try with_reducible rfl
            · -- 6: t43 := Op.load 49 (t42)
              intro zx1 zx2 zx3 zx4 L V W hL hd hw hst u5 e5 p5
              obtain rfl : u5 = _ := p5
              have hc2 := (cells4 (hst.find (g := g5) (o := .cells #[.string tn, .string te, .slice (some ⟨fbb, foo, none⟩) vn fq, .int .i64 tk] 51 (0, 0)) (by simp [osC]))).2.2.1
              refine ob_c rfl ?_ hst rfl
              go_simp
              try with_reducible rfl
            · -- 7: t44 := Op.move (t7)
              intro zx1 zx2 zx3 zx4 L V W hL hd hw hst 
              refine ob_c rfl ?_ hst rfl
              go_simp
              try with_reducible rfl
            · -- 8: t45 := Op.indexAddr 49 (t43) (t44)
              intro zx1 zx2 zx3 zx4 L V W hL hd hw hst u6 e6 p6 u7 e7 p7
              obtain rfl : u6 = _ := p6
              obtain rfl : u7 = _ := p7
              refine ob_c rfl ?_ hst rfl
              go_simp
              try with_reducible rfl
            · -- 9: t46 := Op.fieldAddr 62 (t45) 1
              intro zx1 zx2 zx3 zx4 L V W hL hd hw hst u8 e8 p8
              obtain rfl : u8 = _ := p8
              refine ob_c rfl ?_ hst rfl
              go_simp
              try with_reducible rfl
            · -- 10: t47 := Op.load 60 (t46)
              intro zx1 zx2 zx3 zx4 L V W hL hd hw hst u9 e9 p9
              obtain rfl : u9 = _ := p9
              have y1 := mask_is _ _ _ _ (hst.base 0 rfl)
              have y2 := mask_is _ _ _ _ (hst.base 1 rfl)
              have y3 := mask_is _ _ _ _ (hst.base 2 rfl)
              refine ob_c rfl ?_ hst rfl
              go_simp
              try with_reducible rfl
            · -- 11: t48 := Op.call { callee := value (func 54), args := #[t41, t47], argTypes := #[57, 60] }
              intro zx1 zx2 zx3 zx4 L V W hL hd hw hst u4 e4 p4 u10 e10 p10
              obtain rfl : u4 = _ := p4
              obtain rfl : u10 = _ := p10
              refine ob_call rfl ?_ (HH.out ▸ Calls.pV hst (refHas_any _ ⟨vk, vnn, vs⟩ fk uu fo))
              go_simp
            · -- 12: t49 := Op.unOp UnOp.not 4 (t48)
              intro zx1 zx2 zx3 zx4 L V W hL hd hw hst u11 e11 p11
              obtain rfl : u11 = _ := p11
              refine ob_c rfl ?_ hst rfl
              go_simp
          case en =>
            intro V W hst u0 e0 p0 u1 e1 p1 u2 e2 p2 u3 e3 p3 u4 e4 p4 u5 e5 p5 u6 e6 p6 u7 e7 p7 u8 e8 p8 u9 e9 p9 u10 e10 p10 u11 e11 p11 u12 e12 p12
            obtain rfl : u0 = _ := p0
            obtain rfl : u1 = _ := p1
            obtain rfl : u2 = _ := p2
            obtain rfl : u3 = _ := p3
            obtain rfl : u4 = _ := p4
            obtain rfl : u5 = _ := p5
            obtain rfl : u6 = _ := p6
            obtain rfl : u7 = _ := p7
            obtain rfl : u8 = _ := p8
            obtain rfl : u9 = _ := p9
            obtain rfl : u10 = _ := p10
            obtain rfl : u11 = _ := p11
            obtain rfl : u12 = _ := p12
            simp only [EndAll, Act.put, List.getElem_toArray, List.getElem_cons_succ, List.getElem_cons_zero, List.setIfInBounds_toArray, List.set_cons_zero, List.set_cons_succ]
            rw [show osC [(g5, .cells #[.string tn, .string te, .slice (some ⟨fbb, foo, none⟩) vn fq, .int .i64 tk] 51 (0, 0)), (g3, .cells #[.string src, .int .i64 seq, .int .i64 kind, .int .i64 ref, .string table, .string key, .int .i64 event, .slice (some ⟨b, off, none⟩) vn vq] 27 (0, 0))] (fun _ => true) V = [(g5, .cells #[.string tn, .string te, .slice (some ⟨fbb, foo, none⟩) vn fq, .int .i64 tk] 51 (0, 0)), (g3, .cells #[.string src, .int .i64 seq, .int .i64 kind, .int .i64 ref, .string table, .string key, .int .i64 event, .slice (some ⟨b, off, none⟩) vn vq] 27 (0, 0))] from rfl] at hst
            clear e0 e1 e2 e3 e4 e5 e6 e7 e8 e9 e10 e11 e12
            have h9 := hst.facts (fs' := [(IsFds · (.slice (some ⟨fbb, foo, none⟩) vn fq) tf), (IsVals · (.slice (some ⟨b, off, none⟩) vn vq) fields)]) (fun P hP => by simp only [List.mem_cons, List.not_mem_nil, or_false] at hP ⊢; rcases hP with rfl | rfl <;> simp)
            clear hst
            cases hb with
            | false =>
              have hall : hasAll fields tf = false := by
                rw [Bool.eq_false_iff]
                intro h
                have := (hasAll_iff _ _ (by omega)).1 h k (by omega)
                rw [HE.out.1, HE.out.2, HH.out] at this
                cases this
              have HR4 := HR3.out
              rw [if_neg (by rw [hall]; decide)] at HR4
              have HR5 := Lib.hid HR4
              clear HR4 hall
              go_wp2_with fail
              go_ret
              exact ⟨by rw [HR5.out]; rfl, h9.below⟩
            | true =>
              go_wp2_with fail
              go_roundw
              case rel =>
                refine ⟨k + 1, by omega, by go_num, fun i h1 h2 h => ?_, h9⟩
                rcases Nat.lt_succ_iff_lt_or_eq.1 h with h | rfl
                · exact HOK.out i h1 h2 h
                · rw [HE.out.1, HE.out.2]; exact HH.out
              case measure => simp [intOf]; omega
        · obtain rfl : k = vn := by omega
          have c5 := (cells8 (hst.at_ 1 rfl)).2.2.2.2.2.2.2
          have hall : hasAll fields tf = true := (hasAll_iff _ _ (by omega)).2 fun i h => HOK.out i h (by omega) (by omega)
          have HR4 := HR3.out
          rw [if_pos hall] at HR4
          have HR5 := Lib.hid HR4
          clear HR4 hall
          go_wp2_with fail
          go_ret
          exact ⟨by rw [HR5.out]; rfl, hst.below⟩
end Go.Proofs.Ytfpkibfofainaaa
