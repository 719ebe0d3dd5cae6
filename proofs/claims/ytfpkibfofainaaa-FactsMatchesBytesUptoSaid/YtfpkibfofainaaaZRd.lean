/- The walk over facts.Read. -/
import Derived.Test.YtfpkibfofainaaaZRdp
import Derived.Test.YtfpkibfofainaaaZAsr
import Derived.Test.YtfpkibfofainaaaZEx13
import Derived.Test.YtfpkibfofainaaaZGB
set_option linter.unusedVariables false
set_option linter.unusedSimpArgs false
namespace Go.Proofs.Ytfpkibfofainaaa
open Go.RowKit

theorem cellF {W : World} {g j : Nat} {cs : Array Value} {t : TypeId} {v : Value} (h : W.heap[g]? = some (.cells cs t (0, 0))) (hj : cs[j]? = some v) : W.cell? ⟨g, j, none⟩ = some v ∧ W.frozen? ⟨g, j, none⟩ = false := ⟨by rw [cell_of_row _ _ _ _ _ _ h]; exact hj, frozen_of_row _ _ _ _ _ h⟩
theorem St.setF {w0 W : World} {gf ga ge : Nat} {cs : Array Value} {T : TypeId} {a c : Int} {fs : List (World → Prop)} (h : St w0 W (os3 gf ga ge (.cells cs T (0, 0)) a c) fs) (j : Nat) (v : Value) :
    St w0 (W.setCell ⟨gf, j, none⟩ v) (os3 gf ga ge (.cells (cs.setIfInBounds j v) T (0, 0)) a c) fs := h.setCell (os1 := [])
/-- The results: a struct, a slot, a code. -/
theorem results_csc {fn : Func} {p u q : Tmp} (h : fn.results = #[.cell p 27, .tmp u, .cell q 31]) (tmps : Array Value) (w : World) (g e : Nat) (cs : Array Value) (y : Int)
    (hp : tmps.getD p undef = .pointer (some ⟨g, 0, none⟩)) (hq : tmps.getD q undef = .pointer (some ⟨e, 0, none⟩)) (hg : w.heap[g]? = some (.cells cs 27 (0, 0))) (he : w.cell? ⟨e, 0, none⟩ = some (.int .i64 y))
    (hi : (Try.prog.info? 27).map (·.size) = some cs.size) :
    (results fn tmps).run Try.prog w = .ok (.tuple #[.agg cs, tmps.getD u undef, .int .i64 y]) w := by
  have hl := run_loadVar_row w g 27 27 cs (0, 0) _ hg Try.underlying27 rfl hi
  have he' : (loadVar 31 ⟨e, 0, none⟩).run Try.prog w = .ok (.int .i64 y) w := by simp [go_sem, he]
  unfold results
  simp only [h]
  have hp' : tmps[p]?.getD undef = .pointer (some ⟨g, 0, none⟩) := by simpa using hp
  have hq' : tmps[q]?.getD undef = .pointer (some ⟨e, 0, none⟩) := by simpa using hq
  simp [hp', hq', asAddr, hl, he']
theorem ret_fact {fn : Func} {R : Ending → World → Prop} {a : Act} {w : World} {p u q : Tmp} (g e : Nat) (cs : Array Value) (y : Int) (h : fn.results = #[.cell p 27, .tmp u, .cell q 31])
    (hp : a.tmps.getD p undef = .pointer (some ⟨g, 0, none⟩)) (hq : a.tmps.getD q undef = .pointer (some ⟨e, 0, none⟩)) (hg : w.heap[g]? = some (.cells cs 27 (0, 0))) (hsz : cs.size = 8) (he : w.cell? ⟨e, 0, none⟩ = some (.int .i64 y))
    (hd : a.defers = []) (hR : R (.returned (.tuple #[.agg cs, a.tmps.getD u undef, .int .i64 y])) w) : bodyPost Try.prog fn R .ret a w :=
  bodyPost_ret (results_csc h _ _ g e _ y hp hq hg he (by rw [hsz]; exact fact_info)) hd hR

theorem fact_one (a b c : ByteArray) (n1 n2 n3 n4 : Int) (s : Option Addr) (n q : Nat) : (#[.string a, .int .i64 n1, .int .i64 n2, .int .i64 n3, .string b, .string c, .int .i64 n4, .slice s n q] : Array Value).all (·.oneCell') = true :=
  oneN (l := [.string a, .int .i64 n1, .int .i64 n2, .int .i64 n3, .string b, .string c, .int .i64 n4, .slice s n q]) fun v hv => by
    simp only [List.mem_cons, List.not_mem_nil, or_false] at hv
    rcases hv with rfl | rfl | rfl | rfl | rfl | rfl | rfl | rfl <;> rfl
theorem val_info3 : (Try.prog.info? 57).map (fun i => (i.zero, i.size, i.bytes)) = some (some (.agg #[.int .i64 0, .int .i64 0, .string ⟨#[]⟩]), 3, 32) := by kernel_rfl
/-- A whole struct is stored, as one step of a region that draws. -/
theorem step_store {P : Program} {ops : Array Oper} {o : Oper} {a : Act} {w : World} {K : Act → World → Prop} {Q : Exit → Act → World → Prop} {E : Prop} (hgd : o.guard = none) {ty : TypeId} {x y : Operand} {g : Nat} {cells : Array Value} {t : TypeId} {old : Array Value} (ho : o.op = .store ty x y) (hx : a.eval x = .pointer (some ⟨g, 0, none⟩)) (hy : a.eval y = .agg cells)
    (hg : w.heap[g]? = some (.cells old t (0, 0))) (hi : (P.info? ty).map (·.size) = some cells.size) (hold : old.size = cells.size) (h1 : cells.all (·.oneCell') = true) (h : K (a.put o.dst undef) (w.setRow g cells)) :
    if Region.wanted o (yielded ops a.tmps) = true then Oper.wp P o a w K Q else E := by
  have hw : Region.wanted o (yielded ops a.tmps) = true := by simp [Region.wanted, hgd]
  rw [if_pos hw]
  unfold Oper.wp
  rw [run_store_var ho hx hy hg hi hold h1]
  exact h
theorem decU_ne0 : ∀ (f i acc : Nat) (l : List UInt8), Wire.decU f i acc l ≠ .error 0
  | 0, _, _, _ => by simp [Wire.decU]
  | f + 1, i, acc, [] => by simp [Wire.decU]
  | f + 1, i, acc, c :: t => by
    unfold Wire.decU
    split
    · split <;> simp
    · exact decU_ne0 f _ _ t
theorem dec_ne0 (l : List UInt8) : Wire.dec l ≠ .error 0 := decU_ne0 _ _ _ _
theorem readU_ok {l : List UInt8} {i : Int} (h : (Wire.readU l i).2.2 = 0) : 0 ≤ (Wire.readU l i).2.1 ∧ (Wire.readU l i).2.1 ≤ l.length := by
  unfold Wire.readU at h ⊢
  split at h
  · cases h
  · rename_i hi
    rw [if_neg hi]
    split at h
    · rename_i c hd
      simp only at h
      subst h
      exact absurd hd (dec_ne0 _)
    · rename_i n k hd
      obtain ⟨-, -, h1, -⟩ := Wire.dec_ok hd
      rw [List.length_drop] at h1
      simp only [hd]
      omega
theorem stU_ok {l : List UInt8} {s : Int × Int} (h : (stU l s).2.2 = 0) : 0 ≤ (stU l s).2.1 ∧ (stU l s).2.1 ≤ l.length := by
  unfold stU at h ⊢
  by_cases h0 : s.2 = 0
  · rw [if_pos h0] at h ⊢
    exact readU_ok h
  · rw [if_neg h0] at h
    exact absurd h h0
theorem stU_lt (l : List UInt8) (s : Int × Int) : (stU l s).1 < 18446744073709551616 := by
  unfold stU
  split
  · exact readU_lt l _
  · exact (by decide : (0 : Nat) < 18446744073709551616)
theorem rdVs_max {l : List UInt8} : ∀ (n : Nat) (acc : List Vl) (s : Int × Int), acc.length ≤ (rdVs l n acc s).1.length ∧ (rdVs l n acc s).1.length ≤ acc.length + n
  | 0, acc, s => by simp [rdVs]
  | n + 1, acc, s => by
    rw [rdVs]
    split
    · have := rdVs_max (l := l) n (acc ++ [(stV l s).1]) (stV l s).2
      rw [List.length_append, List.length_singleton] at this
      omega
    · simp

set_option maxRecDepth 8000 in
set_option maxHeartbeats 4000000 in
theorem factRead_any (w : World) (bv : Value) (l : List UInt8) (i : Int) (hb : IsBytes w bv l) (hl : l.length ≤ 1099511627776) :
    Calls Try.prog 16 #[bv, .int .i64 i] w fun e w' => ∃ vb vq, e = .returned (.tuple #[(rdFc l i).1.val (.slice vb (rdFc l i).1.fields.length vq), .int .i64 (rdFc l i).2.1, .int .i64 (rdFc l i).2.2]) ∧ IsVals w' (.slice vb (rdFc l i).1.fields.length vq) (rdFc l i).1.fields ∧ Below w.heap.size w w' := by
  obtain ⟨bs, bc, rfl, hlen, hcap, -, -⟩ := hb.out
  unfold maxLen at hcap
  obtain ⟨bn, hbn⟩ : ∃ n, l.length = n := ⟨_, rfl⟩
  obtain ⟨x1, a1, q1, hs1⟩ : ∃ x a c, stT l (i, 0) = (x, a, c) := ⟨_, _, _, rfl⟩
  obtain ⟨x2, a2, q2, hs2⟩ : ∃ x a c, stI l (a1, q1) = (x, a, c) := ⟨_, _, _, rfl⟩
  obtain ⟨x3, a3, q3, hs3⟩ : ∃ x a c, stI l (a2, q2) = (x, a, c) := ⟨_, _, _, rfl⟩
  obtain ⟨x4, a4, q4, hs4⟩ : ∃ x a c, stI l (a3, q3) = (x, a, c) := ⟨_, _, _, rfl⟩
  obtain ⟨x5, a5, q5, hs5⟩ : ∃ x a c, stT l (a4, q4) = (x, a, c) := ⟨_, _, _, rfl⟩
  obtain ⟨x6, a6, q6, hs6⟩ : ∃ x a c, stT l (a5, q5) = (x, a, c) := ⟨_, _, _, rfl⟩
  obtain ⟨x7, a7, q7, hs7⟩ : ∃ x a c, stI l (a6, q6) = (x, a, c) := ⟨_, _, _, rfl⟩
  obtain ⟨x8, a8, q8, hs8⟩ : ∃ x a c, stU l (a7, q7) = (x, a, c) := ⟨_, _, _, rfl⟩
  obtain ⟨a9, q9, hs9⟩ : ∃ a c, manyE l x8 (a8, q8) = (a, c) := ⟨_, _, rfl⟩
  obtain ⟨vs, a10, q10, hs10⟩ : ∃ x a c, rdVs l x8 [] (a9, q9) = (x, a, c) := ⟨_, _, _, rfl⟩
  have hrd : rdFc l i = if q10 = 0 then (⟨⟨x1.toArray⟩, x2, x3, x4, ⟨x5.toArray⟩, ⟨x6.toArray⟩, x7, vs⟩, a10, 0) else (Fc.zero, 0, q10) := by
    have hh : rdHd l i = ⟨x1, x2, x3, x4, x5, x6, x7, x8, (a9, q9)⟩ := by unfold rdHd; simp only [hs1, hs2, hs3, hs4, hs5, hs6, hs7, hs8, hs9]
    unfold rdFc; rw [hh]; simp only; rw [hs10]
  have hu8 : q8 = 0 → 0 ≤ a8 ∧ a8 ≤ bn := fun h => by have := stU_ok (l := l) (s := (a7, q7)); rw [hs8, hbn] at this; exact this h
  have hx8 : x8 < 18446744073709551616 := by have := stU_lt l (a7, q7); rw [hs8] at this; exact this
  obtain ⟨r, hr⟩ : ∃ r, rdFc l i = r := ⟨_, rfl⟩
  rw [hr] at hrd ⊢
  have S1 := Lib.hid hs1
  have S2 := Lib.hid hs2
  have S3 := Lib.hid hs3
  have S4 := Lib.hid hs4
  have S5 := Lib.hid hs5
  have S6 := Lib.hid hs6
  have S7 := Lib.hid hs7
  have S8 := Lib.hid hs8
  have S9 := Lib.hid hs9
  have S10 := Lib.hid hs10
  have HR := Lib.hid hrd
  have HU := Lib.hid hu8
  have HL := Lib.hid hl
  rw [hbn] at hb hlen hl ⊢
  have HBN := Lib.hid hbn
  have h0 := ((((St.start w).putOld (P := (IsBytes · (.slice bs bn bc) l)) (Mono.bytes _ _) hb).alloc (intO i)).alloc (.cells #[.string ⟨#[]⟩, .int .i64 0, .int .i64 0, .int .i64 0, .string ⟨#[]⟩, .string ⟨#[]⟩, .int .i64 0, .slice none 0 0] 27)).alloc (errO 0)
  simp only [al_size] at h0
  replace h0 : St w _ (os3 (w.heap.size + 1) w.heap.size (w.heap.size + 1 + 1) (.cells #[.string ⟨#[]⟩, .int .i64 0, .int .i64 0, .int .i64 0, .string ⟨#[]⟩, .string ⟨#[]⟩, .int .i64 0, .slice none 0 0] 27 (0, 0)) i 0) _ := h0.perm ((List.Perm.swap _ _ _).trans (List.Perm.cons _ (List.Perm.swap _ _ _)))
  clear hr hrd hbn hb hu8 hs1 hs2 hs3 hs4 hs5 hs6 hs7 hs8 hs9 hs10
  go_enter Try.func16, Try.ntmps16
  go_wp2_with fail
  refine (partT_s h0 _ l (h0.is 0 rfl)).mono ?_
  rintro e w1 ⟨rfl, k1⟩
  rw [S1.out] at k1 ⊢
  simp only at k1
  obtain ⟨c1, f1⟩ := cellF (j := 0) (k1.at_ 0 rfl) rfl
  have h1 : St w _ (os3 (w.heap.size + 1) w.heap.size (w.heap.size + 1 + 1) (.cells #[.string ⟨x1.toArray⟩, .int .i64 0, .int .i64 0, .int .i64 0, .string ⟨#[]⟩, .string ⟨#[]⟩, .int .i64 0, .slice none 0 0] 27 (0, 0)) a1 q1) _ := k1.setF 0 (.string ⟨x1.toArray⟩)
  clear h0 k1
  go_wp2_with fail
  clear c1 f1
  generalize World.setCell _ _ _ = W1 at h1 ⊢
  refine (partI_s h1 _ l (h1.is 0 rfl)).mono ?_
  rintro e w2 ⟨rfl, k2⟩
  rw [S2.out] at k2 ⊢
  simp only at k2
  obtain ⟨c2, f2⟩ := cellF (j := 1) (k2.at_ 0 rfl) rfl
  have h2 : St w _ (os3 (w.heap.size + 1) w.heap.size (w.heap.size + 1 + 1) (.cells #[.string ⟨x1.toArray⟩, .int .i64 x2, .int .i64 0, .int .i64 0, .string ⟨#[]⟩, .string ⟨#[]⟩, .int .i64 0, .slice none 0 0] 27 (0, 0)) a2 q2) _ := k2.setF 1 (.int .i64 x2)
  clear h1 k2
  go_wp2_with fail
  clear c2 f2
  generalize World.setCell _ _ _ = W2 at h2 ⊢
  refine (partI_s h2 _ l (h2.is 0 rfl)).mono ?_
  rintro e w3 ⟨rfl, k3⟩
  rw [S3.out] at k3 ⊢
  simp only at k3
  obtain ⟨c3, f3⟩ := cellF (j := 2) (k3.at_ 0 rfl) rfl
  have h3 : St w _ (os3 (w.heap.size + 1) w.heap.size (w.heap.size + 1 + 1) (.cells #[.string ⟨x1.toArray⟩, .int .i64 x2, .int .i64 x3, .int .i64 0, .string ⟨#[]⟩, .string ⟨#[]⟩, .int .i64 0, .slice none 0 0] 27 (0, 0)) a3 q3) _ := k3.setF 2 (.int .i64 x3)
  clear h2 k3
  go_wp2_with fail
  clear c3 f3
  generalize World.setCell _ _ _ = W3 at h3 ⊢
  refine (partI_s h3 _ l (h3.is 0 rfl)).mono ?_
  rintro e w4 ⟨rfl, k4⟩
  rw [S4.out] at k4 ⊢
  simp only at k4
  obtain ⟨c4, f4⟩ := cellF (j := 3) (k4.at_ 0 rfl) rfl
  have h4 : St w _ (os3 (w.heap.size + 1) w.heap.size (w.heap.size + 1 + 1) (.cells #[.string ⟨x1.toArray⟩, .int .i64 x2, .int .i64 x3, .int .i64 x4, .string ⟨#[]⟩, .string ⟨#[]⟩, .int .i64 0, .slice none 0 0] 27 (0, 0)) a4 q4) _ := k4.setF 3 (.int .i64 x4)
  clear h3 k4
  go_wp2_with fail
  clear c4 f4
  generalize World.setCell _ _ _ = W4 at h4 ⊢
  refine (partT_s h4 _ l (h4.is 0 rfl)).mono ?_
  rintro e w5 ⟨rfl, k5⟩
  rw [S5.out] at k5 ⊢
  simp only at k5
  obtain ⟨c5, f5⟩ := cellF (j := 4) (k5.at_ 0 rfl) rfl
  have h5 : St w _ (os3 (w.heap.size + 1) w.heap.size (w.heap.size + 1 + 1) (.cells #[.string ⟨x1.toArray⟩, .int .i64 x2, .int .i64 x3, .int .i64 x4, .string ⟨x5.toArray⟩, .string ⟨#[]⟩, .int .i64 0, .slice none 0 0] 27 (0, 0)) a5 q5) _ := k5.setF 4 (.string ⟨x5.toArray⟩)
  clear h4 k5
  go_wp2_with fail
  clear c5 f5
  generalize World.setCell _ _ _ = W5 at h5 ⊢
  refine (partT_s h5 _ l (h5.is 0 rfl)).mono ?_
  rintro e w6 ⟨rfl, k6⟩
  rw [S6.out] at k6 ⊢
  simp only at k6
  obtain ⟨c6, f6⟩ := cellF (j := 5) (k6.at_ 0 rfl) rfl
  have h6 : St w _ (os3 (w.heap.size + 1) w.heap.size (w.heap.size + 1 + 1) (.cells #[.string ⟨x1.toArray⟩, .int .i64 x2, .int .i64 x3, .int .i64 x4, .string ⟨x5.toArray⟩, .string ⟨x6.toArray⟩, .int .i64 0, .slice none 0 0] 27 (0, 0)) a6 q6) _ := k6.setF 5 (.string ⟨x6.toArray⟩)
  clear h5 k6
  go_wp2_with fail
  clear c6 f6
  generalize World.setCell _ _ _ = W6 at h6 ⊢
  refine (partI_s h6 _ l (h6.is 0 rfl)).mono ?_
  rintro e w7 ⟨rfl, k7⟩
  rw [S7.out] at k7 ⊢
  simp only at k7
  obtain ⟨c7, f7⟩ := cellF (j := 6) (k7.at_ 0 rfl) rfl
  have h7 : St w _ (os3 (w.heap.size + 1) w.heap.size (w.heap.size + 1 + 1) (.cells #[.string ⟨x1.toArray⟩, .int .i64 x2, .int .i64 x3, .int .i64 x4, .string ⟨x5.toArray⟩, .string ⟨x6.toArray⟩, .int .i64 x7, .slice none 0 0] 27 (0, 0)) a7 q7) _ := k7.setF 6 (.int .i64 x7)
  clear h6 k7
  go_wp2_with fail
  clear c7 f7
  generalize World.setCell _ _ _ = W7 at h7 ⊢
  refine (partU_s h7 _ l (h7.is 0 rfl)).mono ?_
  rintro e w8 ⟨rfl, k8⟩
  rw [S8.out] at k8 ⊢
  simp only at k8
  clear h7
  obtain ⟨c8, f8⟩ := cellF (j := 0) (k8.at_ 2 rfl) rfl
  obtain ⟨c9, f9⟩ := cellF (j := 0) (k8.at_ 1 rfl) rfl
  have hs9 := S9.out
  unfold manyE at hs9
  simp only at hs9
  rw [HBN.out] at hs9
  have hcase : (q8 = 0 ∧ (0 ≤ a8 ∧ a8 ≤ bn) ∧ (bn : Int) - a8 < x8 ∧ a9 = a8 ∧ q9 = 41) ∨ (q8 = 0 ∧ (0 ≤ a8 ∧ a8 ≤ bn) ∧ ¬ (bn : Int) - a8 < x8 ∧ a9 = a8 ∧ q9 = 0) ∨ (q8 ≠ 0 ∧ a9 = a8 ∧ q9 = q8) := by
    by_cases h1 : q8 = 0
    · by_cases h2 : (bn : Int) - a8 < x8
      · rw [if_pos ⟨h1, h2⟩] at hs9
        cases hs9
        exact .inl ⟨h1, HU.out h1, h2, rfl, rfl⟩
      · rw [if_neg (fun h => h2 h.2)] at hs9
        cases hs9
        exact .inr (.inl ⟨h1, HU.out h1, h2, rfl, h1⟩)
    · rw [if_neg (fun h => h1 h.1)] at hs9
      cases hs9
      exact .inr (.inr ⟨h1, rfl, rfl⟩)
  clear hs9 S9
  rcases hcase with ⟨rfl, ⟨ha0, ha1⟩, hm, rfl, rfl⟩ | ⟨rfl, ⟨ha0, ha1⟩, hm, rfl, rfl⟩ | ⟨hq8, rfl, rfl⟩
  case' inl =>
    obtain ⟨j8, rfl⟩ := Int.eq_ofNat_of_zero_le ha0
    have hjb : j8 ≤ bn := by omega
    have h8 := k8.setCell (os1 := [((w.heap.size + 1), .cells #[.string ⟨x1.toArray⟩, .int .i64 x2, .int .i64 x3, .int .i64 x4, .string ⟨x5.toArray⟩, .string ⟨x6.toArray⟩, .int .i64 x7, .slice none 0 0] 27 (0, 0)), (w.heap.size, intO (j8 : Int))]) (i := 0) (v := .int .i64 41)
    have HQ := Lib.hid (show (41 : Int) = 0 → x8 ≤ bn from fun h => absurd h (by decide))
    go_upto_region 11 with fail
    clear k8
  case' inr.inl =>
    obtain ⟨j8, rfl⟩ := Int.eq_ofNat_of_zero_le ha0
    have hjb : j8 ≤ bn := by omega
    have h8 := k8
    have HQ := Lib.hid (show (0 : Int) = 0 → x8 ≤ bn from fun _ => by omega)
    go_upto_region 11 with fail
    clear k8
  case' inr.inr =>
    have h8 := k8
    have HQ := Lib.hid (show q9 = 0 → x8 ≤ bn from fun h => absurd h hq8)
    have hq8' := beq_of hq8
    go_upto_region 11 with fail
    clear k8
  all_goals
    clear c8 f8 c9 f9
    go_wp2_with fail
    go_loopw [8] (fun c wr => ∃ (k : Nat) (acc : List Vl) (a q : Int) (vb : Option Addr) (vq : Nat) (oo : List (Nat × Obj)), k ≤ x8 ∧ c = .int .u64 k ∧ acc.length = k ∧ rdVs l (x8 - k) acc (a, q) = (vs, a10, q10) ∧ (q = 0 → x8 ≤ bn) ∧ OwnP 57 3 (.slice vb k vq) k (acc.flatMap Vl.cells) oo ∧ St w wr (((w.heap.size + 1), .cells #[.string ⟨x1.toArray⟩, .int .i64 x2, .int .i64 x3, .int .i64 x4, .string ⟨x5.toArray⟩, .string ⟨x6.toArray⟩, .int .i64 x7, .slice vb k vq] 27 (0, 0)) :: (w.heap.size, intO a) :: ((w.heap.size + 1 + 1), errO q) :: oo) [(IsBytes · (.slice bs bn bc) l)]) (fun c _ => x8 - (intOf c).toNat)
    case atStart => exact ⟨0, [], _, _, none, 0, [], by omega, rfl, rfl, S10.out, by first | exact HQ.out | exact fun _ => HQ.out trivial, ⟨by simp, .inl ⟨rfl, rfl, rfl⟩⟩, h8⟩
    case round =>
      clear h8
      obtain ⟨k, acc, a, q, vb, vq, oo, hk, rfl, hal, hrd, hqn, hown, hst⟩ := hrel
      obtain ⟨c8, f8⟩ := cellF (j := 0) (hst.at_ 2 rfl) rfl
      obtain ⟨c9, f9⟩ := cellF (j := 0) (hst.at_ 1 rfl) rfl
      have HRD := Lib.hid hrd
      have HOWN := Lib.hid hown
      have HQN := Lib.hid hqn
      have HAL := Lib.hid hal
      clear hrd hown hqn hal
      by_cases hgo : k < x8 ∧ q = 0
      · obtain ⟨hlt, rfl⟩ := hgo
        have i1 : (k : Int) < (x8 : Int) := by omega
        have hxn := HQN.out rfl
        have hll : l.length ≤ 1099511627776 := HL.out
        have hbl := HBN.out
        go_upto_region 14 with fail
        have hS : wr.drew.cell? ⟨w.heap.size + 1, 7, none⟩ = some (.slice vb k vq) := (cellF (j := 7) (hst.drew.at_ 0 rfl) rfl).1
        obtain ⟨⟨xk, xn, xs⟩, a', q', hrv⟩ : ∃ x y c, stV l (a, 0) = (x, y, c) := ⟨_, _, _, rfl⟩
        have HRV := Lib.hid hrv
        clear hrv c8 f8 c9 f9
        refine wp_region_take (fun w' => w'.cell? ⟨w.heap.size + 1, 7, none⟩ = some (.slice vb k vq)) (fun i => i == 5 || i == 6 || i == 7) (by kernel_rfl) ?_
        refine wpTake_val (i := 0) (v := ?_) rfl (by kernel_rfl) (by kernel_rfl) (by kernel_rfl) (by kernel_rfl) (by kernel_rfl) (fun _ _ _ h => h) hS (by rfl) (fun w' hw' => ?_) ?_
        rotate_left
        · go_simp
          try with_reducible rfl
        try simp only [Act.put, List.getElem_toArray, List.getElem_cons_succ, List.getElem_cons_zero, List.setIfInBounds_toArray, List.set_cons_zero, List.set_cons_succ]
        refine wpTake_val (i := 1) (v := ?_) rfl (by kernel_rfl) (by kernel_rfl) (by kernel_rfl) (by kernel_rfl) (by kernel_rfl) (fun _ _ _ h => h) hS (by rfl) (fun w' hw' => ?_) ?_
        rotate_left
        · go_simp
          try with_reducible rfl
        try simp only [Act.put, List.getElem_toArray, List.getElem_cons_succ, List.getElem_cons_zero, List.setIfInBounds_toArray, List.set_cons_zero, List.set_cons_succ]
        refine wpTake_val (i := 2) (v := ?_) rfl (by kernel_rfl) (by kernel_rfl) (by kernel_rfl) (by kernel_rfl) (by kernel_rfl) (fun _ _ _ h => h) hS (by rfl) (fun w' hw' => ?_) ?_
        rotate_left
        · go_simp
          try with_reducible rfl
        try simp only [Act.put, List.getElem_toArray, List.getElem_cons_succ, List.getElem_cons_zero, List.setIfInBounds_toArray, List.set_cons_zero, List.set_cons_succ]
        refine wpTake_one (i := 3) rfl (by kernel_rfl) (fun K hK => ?_)
        go_simp
        refine (partV_s hst.drew _ l (hst.drew.is 0 rfl) (by omega)).mono ?_
        rintro e w5 ⟨rfl, h5⟩
        rw [HRV.out] at h5 ⊢
        simp only at h5
        refine hK _ _ ⟨.inr (cellF (j := 7) (h5.at_ 0 rfl) rfl).1, ?_⟩
        clear hK K hS
        try simp only [Act.put, List.getElem_toArray, List.getElem_cons_succ, List.getElem_cons_zero, List.setIfInBounds_toArray, List.set_cons_zero, List.set_cons_succ]
        refine wpTake_one (i := 4) rfl (by kernel_rfl) (fun K hK => ?_)
        go_simp
        have h6 := h5.alloc (.cells #[.int .i64 xk, .int .i64 xn, .string xs] 57)
        refine hK _ _ ⟨.inr (cellF (j := 7) (h6.at_ 1 rfl) rfl).1, ?_⟩
        clear hK K
        try simp only [Act.put, List.getElem_toArray, List.getElem_cons_succ, List.getElem_cons_zero, List.setIfInBounds_toArray, List.set_cons_zero, List.set_cons_succ]
        refine wpTake_one (i := 5) rfl (by kernel_rfl) (fun K hK => ?_)
        have h7 := (h6.loose (os1 := [])).perm (List.perm_append_comm (l₁ := [_, _, _]) (l₂ := oo))
        refine step_append_any' rfl (.tmp 55) (.tmp 58) 25 25 rfl w.heap.size 57 (.agg #[.int .i64 0, .int .i64 0, .string ⟨#[]⟩]) 3 32 Try.underlying25 val_info3 rfl (.slice vb k vq) k (acc.flatMap Vl.cells) rfl (HOWN.out.owns h7) _ 1 [.int .i64 xk, .int .i64 xn, .string xs] rfl
          (Src.row Try.underlying25 (isRow_lit (n := 1) (h6.at_ 0 rfl) rfl (by unfold maxLen; omega)) (fun u hu => by simp only [List.mem_cons, List.not_mem_nil, or_false] at hu; rcases hu with rfl | rfl | rfl <;> rfl)) (by omega) (by unfold maxLen; omega) h7.size (fun v' w' r1 r2 r3 => ?_)
        obtain ⟨oo', k2, h8⟩ := HOWN.out.append h7 r1 r2 r3
        obtain ⟨vb', vq', rfl⟩ := own_slice r1
        replace h8 := h8.perm (List.perm_append_comm (l₁ := oo') (l₂ := [_, _, _]))
        refine hK _ _ ⟨.inl rfl, ?_⟩
        clear hK K r1 r2 r3 h7 h6 h5
        try simp only [Act.put, List.getElem_toArray, List.getElem_cons_succ, List.getElem_cons_zero, List.setIfInBounds_toArray, List.set_cons_zero, List.set_cons_succ]
        refine wpTake_free (i := 6) (v := ?_) rfl (by kernel_rfl) rfl (by kernel_rfl) (by kernel_rfl) (by kernel_rfl) (fun _ _ _ h => h) (by rfl) (fun w' => ?_) ?_
        rotate_left
        · go_simp
          try with_reducible rfl
        try simp only [Act.put, List.getElem_toArray, List.getElem_cons_succ, List.getElem_cons_zero, List.setIfInBounds_toArray, List.set_cons_zero, List.set_cons_succ]
        refine wpTake_one (i := 7) rfl (by kernel_rfl) (fun K hK => ?_)
        obtain ⟨z0, zf0⟩ := cellF (j := 7) (h8.at_ 0 rfl) rfl
        go_simp
        refine hK _ _ ⟨.inl rfl, ?_⟩
        clear hK K z0 zf0
        try simp only [Act.put, List.getElem_toArray, List.getElem_cons_succ, List.getElem_cons_zero, List.setIfInBounds_toArray, List.set_cons_zero, List.set_cons_succ]
        refine wpTake_done (by kernel_rfl) ?_
        have h9 : St w _ (((w.heap.size + 1), .cells #[.string ⟨x1.toArray⟩, .int .i64 x2, .int .i64 x3, .int .i64 x4, .string ⟨x5.toArray⟩, .string ⟨x6.toArray⟩, .int .i64 x7, .slice vb' (k + 1) vq'] 27 (0, 0)) :: _) _ := h8.setCell (os1 := []) (i := 7) (v := .slice vb' (k + 1) vq')
        go_wp2_with fail
        go_roundw
        case rel =>
          refine ⟨k + 1, acc ++ [⟨xk, xn, xs⟩], a', q', vb', vq', oo', by omega, by go_num, by rw [List.length_append, HAL.out]; rfl, ?_, fun _ => hxn, ?_, h9⟩
          · have hrd := HRD.out
            rw [show x8 - k = (x8 - (k + 1)) + 1 by omega, rdVs, if_pos rfl, HRV.out] at hrd
            exact hrd
          · rw [List.flatMap_append]
            simpa using k2
        case measure => simp [intOf]; omega
      · have hend : rdVs l (x8 - k) acc (a, q) = (acc, a, q) := by
          by_cases hq : q = 0
          · have : x8 - k = 0 := by omega
            rw [this]; rfl
          · exact rdVs_keep _ _ _ _ hq
        rw [HRD.out] at hend
        have e1 : vs = acc := by cases hend; rfl
        have e2 : a10 = a := by cases hend; rfl
        have e3 : q10 = q := by cases hend; rfl
        subst e1 e2 e3
        clear hend HRD HQN S10
        have hw3 : (k : Int) < (x8 : Int) ∧ q10 ≠ 0 ∨ ¬ (k : Int) < (x8 : Int) := by
          by_cases h1 : k < x8
          · exact .inl ⟨by omega, fun h => hgo ⟨h1, h⟩⟩
          · exact .inr (by omega)
        have h1 := (HOWN.out.done (hst.perm (List.perm_append_comm (l₁ := [_, _, _]) (l₂ := oo)))).drew
        clear hst hgo HOWN
        by_cases hq : q10 = 0
        · subst hq
          have i1 : ¬ (k : Int) < (x8 : Int) := by
            rcases hw3 with ⟨_, h⟩ | h
            · exact absurd rfl h
            · exact h
          clear hw3
          have hr := HR.out
          rw [if_pos rfl] at hr
          have HR2 := Lib.hid hr
          clear hr HR
          go_upto_region 17 with fail
          clear c8 f8 c9 f9
          have hS : wr.drew.heap[w.heap.size + 1]? = some (.cells #[.string ⟨x1.toArray⟩, .int .i64 x2, .int .i64 x3, .int .i64 x4, .string ⟨x5.toArray⟩, .string ⟨x6.toArray⟩, .int .i64 x7, .slice vb k vq] 27 (0, 0)) ∧ wr.drew.cell? ⟨w.heap.size, 0, none⟩ = some (.int .i64 a10) := ⟨h1.at_ 0 rfl, (cellF (j := 0) (h1.at_ 1 rfl) rfl).1⟩
          refine wp_region_take (fun w' => w'.heap[w.heap.size + 1]? = some (.cells #[.string ⟨x1.toArray⟩, .int .i64 x2, .int .i64 x3, .int .i64 x4, .string ⟨x5.toArray⟩, .string ⟨x6.toArray⟩, .int .i64 x7, .slice vb k vq] 27 (0, 0)) ∧ w'.cell? ⟨w.heap.size, 0, none⟩ = some (.int .i64 a10)) (fun i => i == 3 || i == 4) (by kernel_rfl) ?_
          refine wpTake_val (i := 0) (v := .agg #[.string ⟨x1.toArray⟩, .int .i64 x2, .int .i64 x3, .int .i64 x4, .string ⟨x5.toArray⟩, .string ⟨x6.toArray⟩, .int .i64 x7, .slice vb k vq]) rfl (by kernel_rfl) (by kernel_rfl) (by kernel_rfl) (by kernel_rfl) (by kernel_rfl) (fun _ _ _ h => h) hS (by rfl) (fun w' hw' => run_load_own rfl rfl hw'.1 Try.underlying27 rfl fact_info) ?_
          try simp only [Act.put, List.getElem_toArray, List.getElem_cons_succ, List.getElem_cons_zero, List.setIfInBounds_toArray, List.set_cons_zero, List.set_cons_succ]
          refine wpTake_val (i := 1) (v := ?_) rfl (by kernel_rfl) (by kernel_rfl) (by kernel_rfl) (by kernel_rfl) (by kernel_rfl) (fun _ _ _ h => h) hS (by rfl) (fun w' hw' => ?_) ?_
          rotate_left
          · have z := hw'.2
            go_simp
            try with_reducible rfl
          try simp only [Act.put, List.getElem_toArray, List.getElem_cons_succ, List.getElem_cons_zero, List.setIfInBounds_toArray, List.set_cons_zero, List.set_cons_succ]
          refine wpTake_one (i := 2) rfl (by kernel_rfl) (fun K hK => ?_)
          have h2 := h1.setRow (os1 := []) (cs' := #[.string ⟨x1.toArray⟩, .int .i64 x2, .int .i64 x3, .int .i64 x4, .string ⟨x5.toArray⟩, .string ⟨x6.toArray⟩, .int .i64 x7, .slice vb k vq])
          refine step_store rfl rfl rfl rfl (h1.at_ 0 rfl) fact_info rfl (fact_one _ _ _ _ _ _ _ _ _ _) ?_
          refine hK _ _ ⟨.inr ⟨h2.at_ 0 rfl, (cellF (j := 0) (h2.at_ 1 rfl) rfl).1⟩, ?_⟩
          clear hK K hS h1
          try simp only [Act.put, List.getElem_toArray, List.getElem_cons_succ, List.getElem_cons_zero, List.setIfInBounds_toArray, List.set_cons_zero, List.set_cons_succ]
          refine wpTake_free (i := 3) (v := ?_) rfl (by kernel_rfl) rfl (by kernel_rfl) (by kernel_rfl) (by kernel_rfl) (fun _ _ _ h => h) (by rfl) (fun w' => ?_) ?_
          rotate_left
          · go_simp
            try with_reducible rfl
          try simp only [Act.put, List.getElem_toArray, List.getElem_cons_succ, List.getElem_cons_zero, List.setIfInBounds_toArray, List.set_cons_zero, List.set_cons_succ]
          refine wpTake_one (i := 4) rfl (by kernel_rfl) (fun K hK => ?_)
          obtain ⟨z0, zf0⟩ := cellF (j := 0) (h2.at_ 2 rfl) rfl
          go_simp
          refine hK _ _ ⟨.inl rfl, ?_⟩
          clear hK K z0 zf0
          try simp only [Act.put, List.getElem_toArray, List.getElem_cons_succ, List.getElem_cons_zero, List.setIfInBounds_toArray, List.set_cons_zero, List.set_cons_succ]
          refine wpTake_done (by kernel_rfl) ?_
          have h3 := h2.setCell (os1 := [_, _]) (i := 0) (v := .int .i64 0)
          go_wp2_with fail
          refine ret_fact (w.heap.size + 1) (w.heap.size + 1 + 1) #[.string ⟨x1.toArray⟩, .int .i64 x2, .int .i64 x3, .int .i64 x4, .string ⟨x5.toArray⟩, .string ⟨x6.toArray⟩, .int .i64 x7, .slice vb k vq] 0 rfl rfl rfl (h3.at_ 0 rfl) rfl (cellF (j := 0) (h3.at_ 2 rfl) rfl).1 rfl ?_
          refine ⟨vb, vq, ?_, ?_, h3.below⟩
          · rw [HR2.out]
            simp only [Fc.val, Fc.cellsA, HAL.out]
            rfl
          · rw [HR2.out]
            exact ⟨_, by simp only [HAL.out]; exact h3.is 0 rfl, fun i hi => vals_flat vs i hi⟩
        · have hr := HR.out
          rw [if_neg hq] at hr
          have HR2 := Lib.hid hr
          have n1 := beq_of hq
          have n2 := bne_of hq
          clear hr HR
          have h2 : (k : Int) < (x8 : Int) ∨ ¬ (k : Int) < (x8 : Int) := by omega
          clear hw3
          rcases h2 with i1 | i1
          all_goals
            go_upto_region 16 with fail
            clear c8 f8 c9 f9
            have hS : wr.drew.cell? ⟨w.heap.size + 1 + 1, 0, none⟩ = some (.int .i64 q10) := (cellF (j := 0) (h1.at_ 2 rfl) rfl).1
            refine wp_region_take (fun w' => w'.cell? ⟨w.heap.size + 1 + 1, 0, none⟩ = some (.int .i64 q10)) (fun i => i == 4) (by kernel_rfl) ?_
            refine wpTake_val (i := 0) (v := .agg #[.string ⟨#[]⟩, .int .i64 0, .int .i64 0, .int .i64 0, .string ⟨#[]⟩, .string ⟨#[]⟩, .int .i64 0, .slice none 0 0]) rfl (by kernel_rfl) (by kernel_rfl) (by kernel_rfl) (by kernel_rfl) (by kernel_rfl) (fun _ _ _ h => h) hS (by rfl) (fun w' hw' => ?_) ?_
            · go_simp
              try with_reducible rfl
            try simp only [Act.put, List.getElem_toArray, List.getElem_cons_succ, List.getElem_cons_zero, List.setIfInBounds_toArray, List.set_cons_zero, List.set_cons_succ]
            refine wpTake_val (i := 1) (v := ?_) rfl (by kernel_rfl) (by kernel_rfl) (by kernel_rfl) (by kernel_rfl) (by kernel_rfl) (fun _ _ _ h => h) hS (by rfl) (fun w' hw' => ?_) ?_
            rotate_left
            · go_simp
              try with_reducible rfl
            try simp only [Act.put, List.getElem_toArray, List.getElem_cons_succ, List.getElem_cons_zero, List.setIfInBounds_toArray, List.set_cons_zero, List.set_cons_succ]
            refine wpTake_one (i := 2) rfl (by kernel_rfl) (fun K hK => ?_)
            have h2 := h1.setRow (os1 := []) (cs' := #[.string ⟨#[]⟩, .int .i64 0, .int .i64 0, .int .i64 0, .string ⟨#[]⟩, .string ⟨#[]⟩, .int .i64 0, .slice none 0 0])
            refine step_store rfl rfl rfl rfl (h1.at_ 0 rfl) fact_info rfl (fact_one _ _ _ _ _ _ _ _ _ _) ?_
            have hS2 := (cellF (j := 0) (h2.at_ 2 rfl) rfl).1
            refine hK _ _ ⟨.inr hS2, ?_⟩
            clear hK K hS h1
            try simp only [Act.put, List.getElem_toArray, List.getElem_cons_succ, List.getElem_cons_zero, List.setIfInBounds_toArray, List.set_cons_zero, List.set_cons_succ]
            refine wpTake_val (i := 3) (v := ?_) rfl (by kernel_rfl) (by kernel_rfl) (by kernel_rfl) (by kernel_rfl) (by kernel_rfl) (fun _ _ _ h => h) hS2 (by rfl) (fun w' hw' => ?_) ?_
            rotate_left
            · go_simp
              try with_reducible rfl
            try simp only [Act.put, List.getElem_toArray, List.getElem_cons_succ, List.getElem_cons_zero, List.setIfInBounds_toArray, List.set_cons_zero, List.set_cons_succ]
            refine wpTake_one (i := 4) rfl (by kernel_rfl) (fun K hK => ?_)
            obtain ⟨z0, zf0⟩ := cellF (j := 0) (h2.at_ 2 rfl) rfl
            go_simp
            refine hK _ _ ⟨.inl rfl, ?_⟩
            clear hK K z0 zf0 hS2
            try simp only [Act.put, List.getElem_toArray, List.getElem_cons_succ, List.getElem_cons_zero, List.setIfInBounds_toArray, List.set_cons_zero, List.set_cons_succ]
            refine wpTake_done (by kernel_rfl) ?_
            have h3 := h2.setCell (os1 := [_, _]) (i := 0) (v := .int .i64 q10)
            go_wp2_with fail
            refine ret_fact (w.heap.size + 1) (w.heap.size + 1 + 1) #[.string ⟨#[]⟩, .int .i64 0, .int .i64 0, .int .i64 0, .string ⟨#[]⟩, .string ⟨#[]⟩, .int .i64 0, .slice none 0 0] q10 rfl rfl rfl (h3.at_ 0 rfl) rfl (cellF (j := 0) (h3.at_ 2 rfl) rfl).1 rfl ?_
            refine ⟨none, 0, ?_, ?_, h3.below⟩
            · rw [HR2.out]
              rfl
            · rw [HR2.out]
              exact IsSeq.nil 3 rdVal _
end Go.Proofs.Ytfpkibfofainaaa
