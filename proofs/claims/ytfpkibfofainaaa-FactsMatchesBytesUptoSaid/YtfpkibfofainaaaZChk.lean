/- The walk over facts.Check. -/
import Derived.Test.YtfpkibfofainaaaZCat
import Derived.Test.YtfpkibfofainaaaZValA
import Derived.Test.YtfpkibfofainaaaZGB
set_option linter.unusedVariables false
set_option linter.unusedSimpArgs false
namespace Go.Proofs.Ytfpkibfofainaaa
open Go.RowKit

def hasAll (vs : List Vl) (fs : List Fd) : Bool := (List.range vs.length).all fun i => (vs.getD i default).has (fs.getD i default).kind
def chk (tl : List Tb) (f : Fc) : Int :=
  if f.formed = false then 1 else if f.kind = 3 then 0 else match findTb tl f.table with
    | none => 4
    | some t => if f.fields.length ≠ t.fields.length then 5 else if hasAll f.fields t.fields then 0 else 5
theorem hasAll_iff (vs : List Vl) (fs : List Fd) (hl : vs.length = fs.length) : hasAll vs fs = true ↔ ∀ i (h : i < vs.length), (vs[i]).has (fs[i]'(by omega)).kind = true := by
  unfold hasAll
  rw [List.all_eq_true]
  constructor
  · intro h i hi
    have := h i (List.mem_range.2 hi)
    rw [List.getD_eq_getElem?_getD, List.getD_eq_getElem?_getD, List.getElem?_eq_getElem hi, List.getElem?_eq_getElem (by omega)] at this
    exact this
  · intro h i hi
    have hi' := List.mem_range.1 hi
    rw [List.getD_eq_getElem?_getD, List.getD_eq_getElem?_getD, List.getElem?_eq_getElem hi', List.getElem?_eq_getElem (by omega)]
    exact h i hi'
theorem val_infoC : (Try.prog.info? 57).map (·.size) = some 3 := by kernel_rfl

set_option maxRecDepth 8000 in
set_option maxHeartbeats 4000000 in
theorem check_any (w : World) (tb : Option Addr) (tq : Nat) (tl : List Tb) (u1 u2 u3 : Value) (f : Fc) (vb : Option Addr) (vq : Nat) (hm : HasMax w) (ht : IsTbs w (.slice tb tl.length tq) tl) (hv : IsVals w (.slice vb f.fields.length vq) f.fields) :
    Calls Try.prog 21 #[.agg #[.slice tb tl.length tq, u1, u2, u3], f.val (.slice vb f.fields.length vq)] w fun e w' => e = .returned (.int .i64 (chk tl f)) ∧ Below w.heap.size w w' := by
  obtain ⟨r, hr⟩ : ∃ r, chk tl f = r := ⟨_, rfl⟩
  have HR := Lib.hid hr
  rw [hr]
  clear hr
  obtain ⟨n, hn⟩ : ∃ n, tl.length = n := ⟨_, rfl⟩
  obtain ⟨vn, hvn⟩ : ∃ n, f.fields.length = n := ⟨_, rfl⟩
  have hn63 : vn ≤ 9223372036854775807 := by obtain ⟨_, _, e, q1, q2, -⟩ := hv.shape; unfold maxLen at q2; omega
  have hfm := fun w (hm : HasMax w) (hv : IsVals w (.slice vb f.fields.length vq) f.fields) => formed_any w f vb vq hm hv
  obtain ⟨fm, hfmd⟩ : ∃ fm, f.formed = fm := ⟨_, rfl⟩
  have HFM := Lib.hid hfmd
  rw [hfmd] at hfm
  rw [hvn] at hfm hv ⊢
  have htb := fun w S (h : IsTbs (mask S w) (.slice tb tl.length tq) tl) => table_any w S tb tq tl u1 u2 u3 f.table h
  rw [hn] at ht htb ⊢
  have HN := Lib.hid (And.intro hn hvn)
  clear hn hvn hfmd
  obtain ⟨⟨src, seq, kind, ref, table, key, event, fields⟩, hf⟩ : ∃ f', f = f' := ⟨_, rfl⟩
  subst hf
  simp only [Fc.val, Fc.cellsA] at *
  obtain ⟨mm, hmm⟩ := hm
  have h0 := (((((St.start w).putOld (P := fun w => w.cell? _ = some (.int .i64 mm)) (fun _ _ h p => h _ _ p) hmm).putOld (P := (IsTbs · (.slice tb n tq) tl)) (Mono.seq rdTb_up _ _) ht).putOld (P := (IsVals · (.slice vb vn vq) fields)) (Mono.seq rdVal_up _ _) hv).alloc (.cells #[.slice tb n tq, u1, u2, u3] 45)).alloc (.cells #[.string src, .int .i64 seq, .int .i64 kind, .int .i64 ref, .string table, .string key, .int .i64 event, .slice vb vn vq] 27)
  rw [al_size] at h0
  go_enter Try.func21, Try.ntmps21
  go_wp2_with fail
  refine (Calls.sV h0 (hfm _ ⟨mm, h0.is 2 rfl⟩ (h0.is 0 rfl))).mono ?_
  rintro e w1 ⟨rfl, h1⟩
  clear h0 hfm
  obtain ⟨c0, c1, c2, c3, c4, c5, c6, c7⟩ := cells8 (h1.at_ 0 rfl)
  obtain ⟨d0, d1, d2, d3, -, -, -, -⟩ := cells4 (h1.at_ 1 rfl)
  cases fm with
  | false =>
    have hr : r = 1 := by rw [← HR.out]; unfold chk; rw [if_pos HFM.out]
    have HR2 := Lib.hid hr
    clear hr
    go_wp2_with fail
    go_ret
    exact ⟨by rw [HR2.out]; rfl, h1.below⟩
  | true =>
    by_cases hk3 : kind = 3
    · have hr : r = 0 := by rw [← HR.out]; unfold chk; rw [if_neg (by rw [HFM.out]; decide), if_pos hk3]
      have HR2 := Lib.hid hr
      clear hr
      subst hk3
      go_wp2_with fail
      go_ret
      exact ⟨by rw [HR2.out]; rfl, h1.below⟩
    have hk3' := beq_of hk3
    have hr : r = match findTb tl table with | none => 4 | some t => if vn ≠ t.fields.length then 5 else if hasAll fields t.fields then 0 else 5 := by
      rw [← HR.out]; unfold chk; rw [if_neg (by rw [HFM.out]; decide), if_neg hk3, HN.out.2]
    have HR2 := Lib.hid hr
    clear hr HR
    go_wp2_with fail
    refine (htb _ _ (h1.get 1 rfl)).mono ?_
    rintro e w2 ⟨fb, fq, rfl, hfd, hb2⟩
    have h2 := (h1.call hb2)
    clear c0 c1 c2 c3 c4 c5 c6 c7 d0 d1 d2 d3 hb2 htb
    obtain ⟨t, htd⟩ : ∃ t, (findTb tl table) = t := ⟨_, rfl⟩
    rw [htd] at hfd ⊢
    have HT := Lib.hid htd
    clear htd
    have hr2 := HR2.out
    rw [HT.out] at hr2
    cases t with
    | none =>
      simp only at hr2
      have HR3 := Lib.hid hr2
      clear hr2
      simp only [Option.getD_none, Tb.zero, Tb.row, List.length_nil, Option.isSome_none]
      go_wp2_with fail
      go_ret
      exact ⟨by rw [HR3.out]; rfl, (h2.box _).below⟩
    | some t =>
      simp only at hr2
      simp only [Option.getD_some, Tb.row, Option.isSome_some] at hfd ⊢
      obtain ⟨m, hml⟩ : ∃ m, t.fields.length = m := ⟨_, rfl⟩
      rw [hml] at hr2 hfd ⊢
      have HM := Lib.hid hml
      clear hml
      have h3 := h2.put (Mono.seq rdFd_up _ _) (show IsFds (sm _ w2) (.slice fb m fq) t.fields from hfd)
      clear hfd h2 h1
      obtain ⟨tn, te, tf, tk⟩ := t
      simp only at *
      have h4 := h3.alloc (.cells #[.string tn, .string te, .slice fb m fq, .int .i64 tk] 51)
      obtain ⟨g5, hg5⟩ : ∃ g, w2.heap.size = g := ⟨_, rfl⟩
      obtain ⟨c0, c1, c2, c3, c4, c5, c6, c7⟩ := cells8 (h4.at_ 1 rfl)
      have HG := Lib.hid hg5
      clear h3
      by_cases hlen : vn = m
      case neg =>
        rw [if_pos hlen] at hr2
        have HR3 := Lib.hid hr2
        have hlen' : ((vn : Int) != (m : Int)) = true := by simp; omega
        clear hr2
        go_wp2_with fail
        go_ret
        exact ⟨by rw [HR3.out]; rfl, h4.below⟩
      subst hlen
      rw [if_neg (fun h => h rfl)] at hr2
      have HR3 := Lib.hid hr2
      clear hr2
      go_wp2_with fail
      rw [hg5] at h4
      clear hg5 c0 c1 c2 c3 c4 c5 c6 c7
      replace h4 := (h4.facts (fs' := [(IsFds · (.slice fb vn fq) tf), (IsVals · (.slice vb vn vq) fields)]) (fun P hP => by simp only [List.mem_cons, List.not_mem_nil, or_false] at hP ⊢; rcases hP with rfl | rfl <;> simp)).loose (os1 := [_]) |>.loose (os1 := [_])
      go_loopw [34] (fun c wr => ∃ k : Nat, k ≤ vn ∧ c = .int .i64 k ∧ (∀ i (h : i < fields.length) (h2 : i < tf.length), i < k → (fields[i]).has (tf[i]).kind = true) ∧ St w wr [(g5, .cells #[.string tn, .string te, .slice fb vn fq, .int .i64 tk] 51)] [(IsFds · (.slice fb vn fq) tf), (IsVals · (.slice vb vn vq) fields)]) (fun c _ => vn - (intOf c).toNat)
      case atStart => exact ⟨0, by omega, rfl, fun i _ _ h => absurd h (Nat.not_lt_zero _), h4⟩
      case round =>
        clear h4
        obtain ⟨k, hk, rfl, hok, hst⟩ := hrel
        have HOK := Lib.hid hok
        clear hok
        have hvl : fields.length = vn := HN.out.2
        have hfl : tf.length = vn := HM.out
        by_cases hlt : k < vn
        · obtain ⟨b, off, x0', x1', x2', rfl, hrow, x0, x1, x2⟩ := (hst.is 1 rfl : IsVals _ _ _).row3 k (by omega)
          obtain ⟨⟨vk, vnn, vs⟩, hve⟩ : ∃ v, fields[k]'(by omega) = v := ⟨_, rfl⟩
          rw [hve] at hrow
          simp only [rdVal, Vl.cells, List.cons.injEq, and_true] at hrow
          obtain ⟨rfl, rfl, rfl⟩ := hrow
          obtain ⟨fbb, foo, y0', y1', uu, y3', rfl, hrow2, y0, y1, y2, y3⟩ := (hst.get 0 rfl : IsFds _ _ _).row4 k (by omega)
          obtain ⟨⟨fn, fk, fo⟩, hfe⟩ : ∃ v, tf[k]'(by omega) = v := ⟨_, rfl⟩
          rw [hfe] at hrow2
          obtain ⟨u, hrow2, hu⟩ := hrow2
          simp only [List.cons.injEq, and_true] at hrow2
          obtain ⟨rfl, rfl, rfl, rfl⟩ := hrow2
          have HE := Lib.hid (And.intro hve hfe)
          clear hve hfe hu
          have h5 := ((hst.put (P := fun w => w.cell? _ = _) (fun _ _ h p => h _ _ p) y3).put (P := fun w => w.cell? _ = _) (fun _ _ h p => h _ _ p) y2).put (P := fun w => w.cell? _ = _) (fun _ _ h p => h _ _ p) y1
          have h6 := h5.alloc (.cells #[.int .i64 vk, .int .i64 vnn, .string vs] 57)
          obtain ⟨g8, hg8⟩ : ∃ g, wr.heap.size = g := ⟨_, rfl⟩
          rw [hg8] at h6
          obtain ⟨hb, hhb⟩ : ∃ hb, (⟨vk, vnn, vs⟩ : Vl).has fk = hb := ⟨_, rfl⟩
          have HH := Lib.hid hhb
          clear hhb
          go_upto_region 13 with fail
          clear hg8
          refine wp_region_st [pVal (.agg #[.int .i64 vk, .int .i64 vnn, .string vs]), pVal ?c13_1, pVal (.slice (some ⟨fbb, foo, none⟩) vn fq), pVal ?c13_3, pVal ?c13_4, pVal ?c13_5, pVal (.agg #[.int .i64 fk, uu, .string fo]), pVal (.bool hb), pVal (.bool (!hb))] (osC [(g8, .cells #[.int .i64 vk, .int .i64 vnn, .string vs] 57 (0, 0)), (g5, .cells #[.string tn, .string te, .slice (some ⟨fbb, foo, none⟩) vn fq, .int .i64 tk] 51 (0, 0))]) 49 [0, 0, 2, 0, 14, 30, 62, 127, 255] [[], [], [(1, 40)], [], [(3, 42), (2, 41)], [(4, 43)], [(5, 44)], [(6, 45), (0, 39)], [(7, 46)]] [(0, 39), (1, 40), (2, 41), (3, 42), (4, 43), (5, 44), (6, 45), (7, 46), (8, 47)] (by kernel_rfl) (by kernel_rfl) rfl rfl h6 osC0 osC1 ?ob ?en
          case ob =>
            refine ⟨?_, ?_, ?_, ?_, ?_, ?_, ?_, ?_, ?_, trivial⟩
            · -- 0: t39 := Op.load 57 (t8)
              intro zx1 zx2 zx3 zx4 L V W hL hd hw hst 
              exact ob_v _ rfl (run_load_own rfl rfl (hst.find (g := g8) (o := .cells #[.int .i64 vk, .int .i64 vnn, .string vs] 57 (0, 0)) (by simp [osC])) Try.underlying57 rfl val_infoC) hst rfl rfl
            · -- 1: t40 := Op.fieldAddr 51 (t5) 2
              intro zx1 zx2 zx3 zx4 L V W hL hd hw hst 
              refine ob_c rfl ?_ hst rfl
              go_simp
              try with_reducible rfl
            · -- 2: t41 := Op.load 49 (t40)
              intro zx1 zx2 zx3 zx4 L V W hL hd hw hst u1 e1 p1
              obtain rfl : u1 = _ := p1
              have hc2 := (cells4 (hst.find (g := g5) (o := .cells #[.string tn, .string te, .slice (some ⟨fbb, foo, none⟩) vn fq, .int .i64 tk] 51 (0, 0)) (by simp [osC]))).2.2.1
              refine ob_c rfl ?_ hst rfl
              go_simp
              try with_reducible rfl
            · -- 3: t42 := Op.move (t7)
              intro zx1 zx2 zx3 zx4 L V W hL hd hw hst 
              refine ob_c rfl ?_ hst rfl
              go_simp
              try with_reducible rfl
            · -- 4: t43 := Op.indexAddr 49 (t41) (t42)
              intro zx1 zx2 zx3 zx4 L V W hL hd hw hst u2 e2 p2 u3 e3 p3
              obtain rfl : u2 = _ := p2
              obtain rfl : u3 = _ := p3
              refine ob_c rfl ?_ hst rfl
              go_simp
              try with_reducible rfl
            · -- 5: t44 := Op.fieldAddr 62 (t43) 1
              intro zx1 zx2 zx3 zx4 L V W hL hd hw hst u4 e4 p4
              obtain rfl : u4 = _ := p4
              refine ob_c rfl ?_ hst rfl
              go_simp
              try with_reducible rfl
            · -- 6: t45 := Op.load 60 (t44)
              intro zx1 zx2 zx3 zx4 L V W hL hd hw hst u5 e5 p5
              obtain rfl : u5 = _ := p5
              have y1 := mask_is _ _ _ _ (hst.base 0 rfl)
              have y2 := mask_is _ _ _ _ (hst.base 1 rfl)
              have y3 := mask_is _ _ _ _ (hst.base 2 rfl)
              refine ob_c rfl ?_ hst rfl
              go_simp
              try with_reducible rfl
            · -- 7: t46 := Op.call { callee := value (func 24), args := #[t39, t45], argTypes := #[57, 60] }
              intro zx1 zx2 zx3 zx4 L V W hL hd hw hst u0 e0 p0 u6 e6 p6
              obtain rfl : u0 = _ := p0
              obtain rfl : u6 = _ := p6
              refine ob_call rfl ?_ (HH.out ▸ Calls.pV hst (valHas_any _ ⟨vk, vnn, vs⟩ fk uu fo))
              go_simp
            · -- 8: t47 := Op.unOp UnOp.not 4 (t46)
              intro zx1 zx2 zx3 zx4 L V W hL hd hw hst u7 e7 p7
              obtain rfl : u7 = _ := p7
              refine ob_c rfl ?_ hst rfl
              go_simp
          case en =>
            intro V W hst u0 e0 p0 u1 e1 p1 u2 e2 p2 u3 e3 p3 u4 e4 p4 u5 e5 p5 u6 e6 p6 u7 e7 p7 u8 e8 p8
            obtain rfl : u0 = _ := p0
            obtain rfl : u1 = _ := p1
            obtain rfl : u2 = _ := p2
            obtain rfl : u3 = _ := p3
            obtain rfl : u4 = _ := p4
            obtain rfl : u5 = _ := p5
            obtain rfl : u6 = _ := p6
            obtain rfl : u7 = _ := p7
            obtain rfl : u8 = _ := p8
            simp only [EndAll, Act.put, List.getElem_toArray, List.getElem_cons_succ, List.getElem_cons_zero, List.setIfInBounds_toArray, List.set_cons_zero, List.set_cons_succ]
            rw [show osC [(g8, .cells #[.int .i64 vk, .int .i64 vnn, .string vs] 57 (0, 0)), (g5, .cells #[.string tn, .string te, .slice (some ⟨fbb, foo, none⟩) vn fq, .int .i64 tk] 51 (0, 0))] (fun _ => true) V = [(g8, .cells #[.int .i64 vk, .int .i64 vnn, .string vs] 57 (0, 0)), (g5, .cells #[.string tn, .string te, .slice (some ⟨fbb, foo, none⟩) vn fq, .int .i64 tk] 51 (0, 0))] from rfl] at hst
            clear e0 e1 e2 e3 e4 e5 e6 e7 e8
            have h9 := hst.loose (os1 := []) |>.facts (fs' := [(IsFds · (.slice (some ⟨fbb, foo, none⟩) vn fq) tf), (IsVals · (.slice (some ⟨b, off, none⟩) vn vq) fields)]) (fun P hP => by simp only [List.mem_cons, List.not_mem_nil, or_false] at hP ⊢; rcases hP with rfl | rfl <;> simp)
            clear hst
            cases hb with
            | false =>
              have hall : hasAll fields tf = false := by
                rw [Bool.eq_false_iff]
                intro h
                have := (hasAll_iff _ _ (by omega)).1 h k (by omega)
                rw [HE.out.1, HE.out.2, HH.out] at this
                cases this
              have HR4 := HR3.out
              rw [if_neg (by rw [hall]; decide)] at HR4
              have HR5 := Lib.hid HR4
              clear HR4 hall
              go_wp2_with fail
              go_ret
              exact ⟨by rw [HR5.out]; rfl, h9.below⟩
            | true =>
              go_wp2_with fail
              go_roundw
              case rel =>
                refine ⟨k + 1, by omega, by go_num, fun i h1 h2 h => ?_, h9⟩
                rcases Nat.lt_succ_iff_lt_or_eq.1 h with h | rfl
                · exact HOK.out i h1 h2 h
                · rw [HE.out.1, HE.out.2]; exact HH.out
              case measure => simp [intOf]; omega
        · obtain rfl : k = vn := by omega
          have hall : hasAll fields tf = true := (hasAll_iff _ _ (by omega)).2 fun i h => HOK.out i h (by omega) (by omega)
          have HR4 := HR3.out
          rw [if_pos hall] at HR4
          have HR5 := Lib.hid HR4
          clear HR4 hall
          go_wp2_with fail
          go_ret
          exact ⟨by rw [HR5.out]; rfl, hst.below⟩
end Go.Proofs.Ytfpkibfofainaaa
