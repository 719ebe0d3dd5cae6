/- The walks over channel.with and without. -/
import Derived.Test.YtihohhjaomoemaaPs
import Derived.Test.YtihohhjaomoemaaRegA
set_option linter.unusedVariables false
set_option linter.unusedSimpArgs false
namespace Go.Proofs.Ytihohhjaomoemaa
open Go Go.RowKit

theorem pk_info : (Try.prog.info? 31).map (fun i => (i.zero, i.size, i.bytes)) = some (some (.agg #[.string ⟨#[]⟩, .bool false, .int .i64 0, .string ⟨#[]⟩, .int .i64 0, .int .i64 0, .int .i64 0, .string ⟨#[]⟩, .string ⟨#[]⟩, .int .i64 0, .slice none 0 0]), 11, 136) := by kernel_rfl
theorem pk_size : (Try.prog.info? 31).map (·.size) = some 11 := by kernel_rfl
def pPks (l : List Pk) : Pd := ⟨fun v w => ∃ b q, v = .slice b l.length q ∧ IsPks w v l, fun _ _ _ h ⟨b, q, e, k⟩ => ⟨b, q, e, k.sub rdPk_up h⟩⟩
theorem rdPk_len {w : World} {cs : List Value} {p : Pk} (h : rdPk w cs p) : cs.length = 11 := by obtain ⟨b, q, rfl, -⟩ := h; rfl
theorem rdPk_one {w : World} {cs : List Value} {p : Pk} (h : rdPk w cs p) : ∀ u ∈ cs, u.oneCell' = true := by
  obtain ⟨b, q, rfl, -⟩ := h
  intro u hu
  simp only [List.mem_cons, List.not_mem_nil, or_false] at hu
  rcases hu with rfl | rfl | rfl | rfl | rfl | rfl | rfl | rfl | rfl | rfl | rfl <;> rfl
theorem IsRow.srcs {sz : Nat} {w : World} {b : Option Addr} {n q : Nat} {xs : List Value} (h : IsRow sz w (.slice b n q) n xs) (h0 : 0 < xs.length) : ∃ ad, b = some ad ∧ ∀ j v, xs[j]? = some v → w.cell? (ad.add j) = some v := by
  obtain ⟨b', q', e, -, -, -, -, hc⟩ := h
  cases e
  obtain ⟨g, off, rfl, -⟩ := hc 0 h0
  refine ⟨_, rfl, fun j v hj => ?_⟩
  obtain ⟨hjl, hjv⟩ := List.getElem?_eq_some_iff.1 hj
  obtain ⟨_, _, e, hx⟩ := hc j hjl
  cases e
  rw [Addr.add_lit, hx, hjv]
theorem splice_head {mk xs ys : List Value} {n : Nat} (hx : xs.length = n) (hm : mk.length = n + ys.length) : splice (splice mk 0 xs) n ys = xs ++ ys := by
  unfold splice
  rw [List.take_zero, List.nil_append, Nat.zero_add, List.take_append_of_le_length (by omega), List.take_of_length_le (by omega), List.drop_of_length_le (by rw [List.length_append, List.length_drop]; omega), List.append_nil]
theorem pk_one (a1 : ByteArray) (a2 : Bool) (a3 : Int) (f1 : ByteArray) (f2 f3 f4 : Int) (f5 f6 : ByteArray) (f7 : Int) (v : Option Addr) (m q : Nat) : (#[.string a1, .bool a2, .int .i64 a3, .string f1, .int .i64 f2, .int .i64 f3, .int .i64 f4, .string f5, .string f6, .int .i64 f7, .slice v m q] : Array Value).all (·.oneCell') = true := by
  rw [Array.all_eq_true_iff_forall_mem]
  intro u hu
  simp only [List.mem_toArray, List.mem_cons, List.not_mem_nil, or_false] at hu
  rcases hu with rfl | rfl | rfl | rfl | rfl | rfl | rfl | rfl | rfl | rfl | rfl <;> rfl
theorem Elems.ones {w : World} {xs : List Value} : ∀ {l : List Pk}, Elems 11 rdPk w xs l → ∀ u ∈ xs, u.oneCell' = true := fun {l} h u hu => by
  obtain ⟨i, hi, rfl⟩ := List.getElem_of_mem hu
  have h1 := h.1
  have hd : i / 11 < l.length := by omega
  have h2 := rdPk_one (h.2 (i / 11) hd)
  refine h2 _ (List.mem_iff_getElem?.2 ⟨i % 11, ?_⟩)
  rw [List.getElem?_take_of_lt (by omega), List.getElem?_drop, List.getElem?_eq_getElem (by omega)]
  congr 2
  omega
theorem mask_mono {S : Nat → Bool} {a b : World} (k : Sub a b) : Sub (mask S a) (mask S b) := fun x v h => by
  rw [World.cell?_of_block (w := b) (mask_block S b _ (mask_none S a x v h))]
  exact k _ _ (mask_is S a _ _ h)
/-- A fact that does not read the blocks of S. -/
theorem Mono.off {P : World → Prop} (S : Nat → Bool) (h : Mono P) : Mono (fun x => P (mask S x)) := fun _ _ k p => h _ _ (mask_mono k) p
theorem off_new {S : Nat → Bool} {w : World} {g : Nat} (hS : ∀ k, S k = true → k < w.heap.size) (hg : w.heap.size ≤ g) : S g = false := by
  cases h : S g with
  | false => rfl
  | true => have := hS g h; omega
theorem row_off {S : Nat → Bool} {sz g n c m : Nat} {w : World} {xs : List Value} (h : IsRow sz w (.slice (some ⟨g, 0, none⟩) n c) m xs) (hg : S g = false) : IsRow sz (mask S w) (.slice (some ⟨g, 0, none⟩) n c) m xs :=
  mask_row h fun k hk => by
    have : g = k := by cases hk; rfl
    rw [← this]; exact hg
theorem made_length (z : Array Value) (n : Nat) : (madeCells z n).toList.length = n := by simp [size_madeCells]

set_option maxRecDepth 8000 in
set_option maxHeartbeats 4000000 in
theorem with_any (w : World) (S : Nat → Bool) (hS : ∀ k, S k = true → k < w.heap.size) (lb : Option Addr) (lq : Nat) (l : List Pk) (x : Pk) (vb : Option Addr) (vq : Nat) (hl : IsPks (mask S w) (.slice lb l.length lq) l) (hx : IsVals (mask S w) (.slice vb x.fact.fields.length vq) x.fact.fields) (hn : l.length ≤ 1048576) :
    Calls Try.prog 27 #[.slice lb l.length lq, x.val (.slice vb x.fact.fields.length vq)] w fun e w' => ∃ v', e = .returned v' ∧ (pPks (l ++ [x])).p v' (mask S w') ∧ Below w.heap.size w w' := by
  obtain ⟨xs, hrow, hel⟩ := hl.elems
  have hxs := hel.1
  obtain ⟨a1, a2, a3, f1, f2, f3, f4, f5, f6, f7, f8⟩ := x
  simp only [Pk.val, Pk.cellsA] at hx ⊢
  obtain ⟨m, hm⟩ : ∃ m, f8.length = m := ⟨_, rfl⟩
  obtain ⟨n, hnn⟩ : ∃ n, l.length = n := ⟨_, rfl⟩
  rw [hm] at hx ⊢
  rw [hnn] at hrow hxs hn ⊢
  have HM := Lib.hid (And.intro hm hnn)
  clear hm hnn hl
  have hxl := xs.length
  have h0 := ((((St.start w).putOld (Mono.off S (Mono.seq rdVal_up _ _)) hx).putOld (Mono.off S (Mono.elems rdPk_up _ _)) hel).putOld (Mono.off S (Mono.row 11 _ _ _)) hrow).boxC #[.string a1, .bool a2, .int .i64 a3, .string f1, .int .i64 f2, .int .i64 f3, .int .i64 f4, .string f5, .string f6, .int .i64 f7, .slice vb m vq] 31
  have hone := hel.ones
  obtain ⟨_, _, erow, -, hcap, hmx, -, -⟩ := id hrow
  cases erow
  unfold maxLen at hmx
  have HXS := Lib.hid hxs
  have HONE := Lib.hid hone
  clear hx hel hrow hone hxs
  go_enter Try.func27, Try.ntmps27
  go_upto_region 1 with fail
  generalize World.alloc _ _ = W1 at h0 ⊢
  have hb8 : 136 * (n + 1) ≤ 281474976710656 := by omega
  have hb9 : n + 1 ≤ 9223372036854775807 := by omega
  go_upto_region 2 with (refine wpList_make_rows _ rfl (.tmp 8) (.tmp 8) 22 rfl 31 (.agg #[.string ⟨#[]⟩, .bool false, .int .i64 0, .string ⟨#[]⟩, .int .i64 0, .int .i64 0, .int .i64 0, .string ⟨#[]⟩, .string ⟨#[]⟩, .int .i64 0, .slice none 0 0]) 11 136 Try.underlying22 pk_info .i64 .i64 (n + 1) (congrArg (Value.int .i64) (show (n : Int) + 1 = ((n + 1 : Nat) : Int) from rfl)) (congrArg (Value.int .i64) (show (n : Int) + 1 = ((n + 1 : Nat) : Int) from rfl)) hb8 hb9 ?_; intro w2 hw2)
  have h2 := h0.alloc (.cells (madeCells #[.string ⟨#[]⟩, .bool false, .int .i64 0, .string ⟨#[]⟩, .int .i64 0, .int .i64 0, .int .i64 0, .string ⟨#[]⟩, .string ⟨#[]⟩, .int .i64 0, .slice none 0 0] ((n + 1) * 11)) 31)
  clear h0
  have hmk : (madeCells #[.string ⟨#[]⟩, .bool false, .int .i64 0, .string ⟨#[]⟩, .int .i64 0, .int .i64 0, .int .i64 0, .string ⟨#[]⟩, .string ⟨#[]⟩, .int .i64 0, .slice none 0 0] ((n + 1) * 11)).toList.length = (n + 1) * 11 := made_length _ _
  generalize madeCells _ _ = mk at h2 hmk ⊢
  generalize World.alloc _ _ = W2 at h2 ⊢
  generalize W1.heap.size = g at h2 ⊢
  have HMK := Lib.hid hmk
  clear hmk
  go_upto_region 3 with (refine wpList_copy_rows rfl (.tmp 10) (.tmp 11) 22 22 rfl 31 11 (by omega) Try.underlying22 pk_size (some ⟨g, 0, none⟩) lb (n + 1) (n + 1) n lq rfl rfl g 0 mk.toList 31 (by rw [Array.toArray_toList]; exact h2.at_ 0 rfl) xs (by rw [HXS.out, show Nat.min n (n + 1) = n from Nat.min_eq_left (by omega)]) (fun h => ⟨rfl, (IsRow.sub (h2.is 1 rfl) (mask_is _ _)).srcs h⟩) (by rw [HMK.out, HXS.out]; omega) HONE.out ?_; intro w3 hw3; have h3 := h2.setRow (os1 := []) (cs' := (splice mk.toList 0 xs).toArray); rw [← hw3] at h3)
  clear hw3 h2
  simp only [List.nil_append] at h3
  have hsl : (splice mk.toList 0 xs).length = (n + 1) * 11 := by rw [length_splice _ _ _ (by rw [HMK.out, HXS.out]; omega), HMK.out]
  have hfin : splice (splice mk.toList 0 xs) (n * 11) [.string a1, .bool a2, .int .i64 a3, .string f1, .int .i64 f2, .int .i64 f3, .int .i64 f4, .string f5, .string f6, .int .i64 f7, .slice vb m vq] = xs ++ [.string a1, .bool a2, .int .i64 a3, .string f1, .int .i64 f2, .int .i64 f3, .int .i64 f4, .string f5, .string f6, .int .i64 f7, .slice vb m vq] :=
    splice_head HXS.out (by rw [HMK.out]; simp only [List.length_cons, List.length_nil]; omega)
  generalize splice mk.toList 0 xs = cur at h3 hsl hfin
  have HSL := Lib.hid hsl
  have HFIN := Lib.hid hfin
  clear hsl hfin
  go_upto_region 4 with (first
    | (refine wpList_load_mid rfl 31 (.tmp 3) rfl w.heap.size 0 rfl [.string a1, .bool a2, .int .i64 a3, .string f1, .int .i64 f2, .int .i64 f3, .int .i64 f4, .string f5, .string f6, .int .i64 f7, .slice vb m vq] _ (h3.is 0 rfl : IsCells _ _ _).range Try.underlying31 rfl rfl ?_)
    | (refine wpList_store_at rfl 31 (.tmp 17) (.tmp 16) rfl g (n * 11) #[.string a1, .bool a2, .int .i64 a3, .string f1, .int .i64 f2, .int .i64 f3, .int .i64 f4, .string f5, .string f6, .int .i64 f7, .slice vb m vq] rfl rfl 31 cur (h3.at_ 0 rfl) rfl (by rw [HSL.out]; simp only [List.size_toArray, List.length_cons, List.length_nil]; omega) (pk_one _ _ _ _ _ _ _ _ _ _ _ _ _) ?_; intro w4 hw4; have h4 := h3.setRow (os1 := []) (cs' := (splice cur (n * 11) [.string a1, .bool a2, .int .i64 a3, .string f1, .int .i64 f2, .int .i64 f3, .int .i64 f4, .string f5, .string f6, .int .i64 f7, .slice vb m vq]).toArray); rw [show w3.setRow g _ = w4 from hw4.symm] at h4))
  clear hw4 h3
  simp only [List.nil_append] at h4
  rw [HFIN.out] at h4
  have hg := h4.at_ 0 rfl
  have h5 := h4.loose (os1 := [])
  have hvx : IsVals (mask S w4) _ _ := h5.is 3 rfl
  have hgn := off_new hS (h4.new 0 rfl)
  have hall := (show Elems 11 rdPk (mask S w4) xs l from h5.is 2 rfl).append (Elems.one (cs := [.string a1, .bool a2, .int .i64 a3, .string f1, .int .i64 f2, .int .i64 f3, .int .i64 f4, .string f5, .string f6, .int .i64 f7, .slice vb m vq]) (a := (⟨a1, a2, a3, ⟨f1, f2, f3, f4, f5, f6, f7, f8⟩⟩ : Pk)) rfl ⟨vb, vq, by simp only [HM.out.1], by simp only [HM.out.1]; exact hvx⟩)
  have hblk : IsRow 11 (mask S w4) (.slice (some ⟨g, 0, none⟩) (n + 1) (n + 1)) (n + 1) _ := row_off (IsRow.block hg (by rw [List.length_append, HXS.out]; simp only [List.length_cons, List.length_nil]; omega) (by unfold maxLen; omega)) hgn
  have hlen : (l ++ [(⟨a1, a2, a3, ⟨f1, f2, f3, f4, f5, f6, f7, f8⟩⟩ : Pk)]).length = n + 1 := by rw [List.length_append, HM.out.2]; rfl
  have hres := IsSeq.of hblk hall hlen.symm
  have hret : (pPks (l ++ [(⟨a1, a2, a3, ⟨f1, f2, f3, f4, f5, f6, f7, f8⟩⟩ : Pk)])).p (.slice (some ⟨g, 0, none⟩) (n + 1) (n + 1)) (mask S w4) := ⟨some ⟨g, 0, none⟩, n + 1, by rw [hlen], hres⟩
  clear hblk hall hvx hg h4 hres hlen
  go_wp2_with fail
  go_ret
  exact ⟨.slice (some ⟨g, 0, none⟩) (n + 1) (n + 1), rfl, hret, h5.below⟩

set_option maxRecDepth 8000 in
set_option maxHeartbeats 4000000 in
theorem without_any (w : World) (S : Nat → Bool) (hS : ∀ k, S k = true → k < w.heap.size) (lb : Option Addr) (lq : Nat) (l : List Pk) (i : Nat) (hl : IsPks (mask S w) (.slice lb l.length lq) l) (hi : i < l.length) (hn : l.length ≤ 1048576) :
    Calls Try.prog 29 #[.slice lb l.length lq, .int .i64 i] w fun e w' => ∃ v', e = .returned v' ∧ (pPks (l.eraseIdx i)).p v' (mask S w') ∧ Below w.heap.size w w' := by
  obtain ⟨xs, hrow, hel⟩ := hl.elems
  have hxs := hel.1
  have hall := (hel.take i (by omega)).append (hel.drop (i + 1) (by omega))
  rw [← List.eraseIdx_eq_take_drop_succ] at hall
  have hone1 : ∀ u ∈ xs.take (i * 11), u.oneCell' = true := fun u hu => hel.ones u (List.mem_of_mem_take hu)
  have hone2 : ∀ u ∈ xs.drop ((i + 1) * 11), u.oneCell' = true := fun u hu => hel.ones u (List.mem_of_mem_drop hu)
  have hlen : (l.eraseIdx i).length = l.length - 1 := List.length_eraseIdx_of_lt hi
  obtain ⟨n, hnn⟩ : ∃ n, l.length = n := ⟨_, rfl⟩
  rw [hnn] at hrow hxs hn hi hlen ⊢
  clear hl hel hnn
  obtain ⟨_, _, erow, -, hcap, hmx, -, -⟩ := id hrow
  cases erow
  unfold maxLen at hmx
  have hr1 := hrow.part 0 i lq (by omega) (by omega) (by omega) (Nat.le_refl _)
  have hr2 := hrow.part (i + 1) n lq (by omega) (Nat.le_refl _) hcap (Nat.le_refl _)
  have e1 : lb.map (fun x => x.add 0) = lb := by cases lb <;> simp [Addr.add]
  rw [Nat.zero_mul, e1, ite_self, List.drop_zero, Nat.sub_zero, Nat.sub_zero] at hr1
  rw [List.take_of_length_le (by omega)] at hr2
  have h0 := (((St.start w).putOld (Mono.off S (Mono.elems rdPk_up _ _)) hall).putOld (Mono.off S (Mono.row 11 _ _ _)) hr2).putOld (Mono.off S (Mono.row 11 _ _ _)) hr1
  have hy1 : (xs.take (i * 11)).length = i * 11 := by rw [List.length_take]; omega
  have hy2 : (xs.drop ((i + 1) * 11)).length = (n - (i + 1)) * 11 := by rw [List.length_drop]; omega
  generalize xs.take (i * 11) = y1 at *
  generalize xs.drop ((i + 1) * 11) = y2 at *
  have HY1 := Lib.hid hy1
  have HY2 := Lib.hid hy2
  have HONE1 := Lib.hid hone1
  have HONE2 := Lib.hid hone2
  have HLEN := Lib.hid hlen
  have hsub : (n : Int) - 1 = ((n - 1 : Nat) : Int) := by omega
  have HSUB := Lib.hid hsub
  have hb8 : 136 * (n - 1) ≤ 281474976710656 := by omega
  have hb9 : n - 1 ≤ 9223372036854775807 := by omega
  have hiq : i ≤ lq := by omega
  clear hr1 hr2 hrow hall hone1 hone2 hy1 hy2 hlen hsub e1 hxs
  go_enter Try.func29, Try.ntmps29
  go_upto_region 2 with (refine wpList_make_rows _ rfl (.tmp 8) (.tmp 8) 22 rfl 31 (.agg #[.string ⟨#[]⟩, .bool false, .int .i64 0, .string ⟨#[]⟩, .int .i64 0, .int .i64 0, .int .i64 0, .string ⟨#[]⟩, .string ⟨#[]⟩, .int .i64 0, .slice none 0 0]) 11 136 Try.underlying22 pk_info .i64 .i64 (n - 1) (congrArg (Value.int .i64) HSUB.out) (congrArg (Value.int .i64) HSUB.out) hb8 hb9 ?_; intro w2 hw2)
  have h2 := h0.alloc (.cells (madeCells #[.string ⟨#[]⟩, .bool false, .int .i64 0, .string ⟨#[]⟩, .int .i64 0, .int .i64 0, .int .i64 0, .string ⟨#[]⟩, .string ⟨#[]⟩, .int .i64 0, .slice none 0 0] ((n - 1) * 11)) 31)
  clear h0
  have hmk : (madeCells #[.string ⟨#[]⟩, .bool false, .int .i64 0, .string ⟨#[]⟩, .int .i64 0, .int .i64 0, .int .i64 0, .string ⟨#[]⟩, .string ⟨#[]⟩, .int .i64 0, .slice none 0 0] ((n - 1) * 11)).toList.length = (n - 1) * 11 := made_length _ _
  generalize madeCells _ _ = mk at h2 hmk ⊢
  generalize hW2 : World.alloc _ _ = W2 at h2 ⊢
  clear hW2
  obtain ⟨g, hg⟩ : ∃ g, w.heap.size = g := ⟨_, rfl⟩
  rw [hg] at h2 ⊢
  have HGS := Lib.hid hg
  clear hg
  have HMK := Lib.hid hmk
  clear hmk
  go_upto_region 3 with (refine wpList_copy_rows rfl (.tmp 10) (.tmp 13) 22 22 rfl 31 11 (by omega) Try.underlying22 pk_size (some ⟨g, 0, none⟩) lb (n - 1) (n - 1) i lq rfl rfl g 0 mk.toList 31 (by rw [Array.toArray_toList]; exact h2.at_ 0 rfl) y1 (by rw [HY1.out, show Nat.min i (n - 1) = i from Nat.min_eq_left (by omega)]) (fun h => ⟨rfl, (IsRow.sub (h2.is 0 rfl) (mask_is _ _)).srcs h⟩) (by rw [HMK.out, HY1.out]; omega) HONE1.out ?_; intro w3 hw3; have h3 := h2.setRow (os1 := []) (cs' := (splice mk.toList 0 y1).toArray); rw [← hw3] at h3)
  clear hw3 h2
  simp only [List.nil_append] at h3
  simp only [Act.put, List.setIfInBounds_toArray, List.set_cons_succ, List.set_cons_zero]
  generalize goInt _ = gz
  have hsl : (splice mk.toList 0 y1).length = (n - 1) * 11 := by rw [length_splice _ _ _ (by rw [HMK.out, HY1.out]; omega), HMK.out]
  have hfin : splice (splice mk.toList 0 y1) (i * 11) y2 = y1 ++ y2 := splice_head HY1.out (by rw [HMK.out, HY2.out]; omega)
  generalize splice mk.toList 0 y1 = cur at h3 hsl hfin
  have HSL := Lib.hid hsl
  have HFIN := Lib.hid hfin
  clear hsl hfin
  have hwr : IntKind.i64.wrap ((i : Int) + 1) = (i : Int) + 1 := by rw [IntKind.wrap_i64]; omega
  have HWR := Lib.hid hwr
  clear hwr
  have h3' : St w w3 ([(g, .cells cur.toArray 31 (0, 0))]) _ := h3
  refine wp_region_st [pVal ?c3_0, pVal ?c3_1, pVal (.slice (if n - 1 = i then some ⟨g, 0, none⟩ else some ⟨g, i * 11, none⟩) (n - 1 - i) (n - 1 - i)), pVal ?c3_3, pVal ?c3_4, pVal (.int .i64 ((i : Int) + 1)), pVal (.slice (if lq = i + 1 then lb else lb.map (·.add ((i + 1) * 11))) (n - (i + 1)) (lq - (i + 1))), pAny] (osX 7 g (.cells cur.toArray 31 (0, 0)) (.cells (y1 ++ y2).toArray 31 (0, 0)) []) 24 [0, 0, 3, 0, 0, 16, 56, 127] [[], [], [(1, 16), (0, 15)], [], [], [(4, 19)], [(5, 20), (3, 18)], [(6, 21), (2, 17)]] [(0, 15), (1, 16), (2, 17), (3, 18), (4, 19), (5, 20), (6, 21), (7, 22)] (by kernel_rfl) (by kernel_rfl) rfl rfl h3' osX0 (osX1 (by decide)) ?ob ?en
  case ob =>
    refine ⟨?_, ?_, ?_, ?_, ?_, ?_, ?_, ?_, trivial⟩
    · -- 0: t15 := Op.move (t5)
      intro zx1 zx2 zx3 zx4 L V W hL hd hw hst 
      refine ob_c rfl ?_ hst rfl
      go_simp
      try with_reducible rfl
    · -- 1: t16 := Op.move (t1)
      intro zx1 zx2 zx3 zx4 L V W hL hd hw hst 
      refine ob_c rfl ?_ hst rfl
      go_simp
      try with_reducible rfl
    · -- 2: t17 := Op.slice 22 (t15) (some (t16)) none none
      intro zx1 zx2 zx3 zx4 L V W hL hd hw hst u0 e0 p0 u1 e1 p1
      obtain rfl : u0 = _ := p0
      obtain rfl : u1 = _ := p1
      refine ob_c rfl ?_ hst rfl
      go_simp
      all_goals exact fun h => absurd h (by omega)
    · -- 3: t18 := Op.move (t0)
      intro zx1 zx2 zx3 zx4 L V W hL hd hw hst 
      refine ob_c rfl ?_ hst rfl
      go_simp
      try with_reducible rfl
    · -- 4: t19 := Op.move (t1)
      intro zx1 zx2 zx3 zx4 L V W hL hd hw hst 
      refine ob_c rfl ?_ hst rfl
      go_simp
      try with_reducible rfl
    · -- 5: t20 := Op.binOp BinOp.add 3 (t19) (const (int IntKind.i64 1)) 3
      intro zx1 zx2 zx3 zx4 L V W hL hd hw hst u4 e4 p4
      obtain rfl : u4 = _ := p4
      refine ob_c rfl ?_ hst rfl
      go_simp
      all_goals rw [HWR.out]
    · -- 6: t21 := Op.slice 22 (t18) (some (t20)) none none
      intro zx1 zx2 zx3 zx4 L V W hL hd hw hst u3 e3 p3 u5 e5 p5
      obtain rfl : u3 = _ := p3
      obtain rfl : u5 = _ := p5
      refine ob_c rfl ?_ hst rfl
      go_simp
      all_goals exact fun h => absurd (h (by omega)) (by omega)
    · -- 7: t22 := Op.call { callee := builtin Builtin.copy, args := #[t17, t21], argTypes := #[22, 22] }
      intro zx1 zx2 zx3 zx4 L V W hL hd hw hst u2 e2 p2 u6 e6 p6
      obtain rfl : u2 = _ := p2
      obtain rfl : u6 = _ := p6
      refine ob_X (v := goInt (Nat.min (n - (i + 1)) (n - 1 - i) : Nat)) rfl hL hst fun hgg => ?_
      rw [← HFIN.out]
      exact run_copy_op (.tmp 17) (.tmp 21) 22 22 rfl 31 11 (by omega) Try.underlying22 pk_size (if n - 1 = i then some ⟨g, 0, none⟩ else some ⟨g, i * 11, none⟩) (if lq = i + 1 then lb else lb.map (·.add ((i + 1) * 11))) (n - 1 - i) (n - 1 - i) (n - (i + 1)) (lq - (i + 1)) (by simp [zx1]) (by simp [zx1]) g (i * 11) cur 31 hgg y2 (by rw [HY2.out, show Nat.min (n - (i + 1)) (n - 1 - i) = n - (i + 1) from Nat.min_eq_left (by omega)]) (fun h => ⟨if_neg (by have := HY2.out; omega), (IsRow.sub (hst.base 1 rfl) ((mask_mono (mask_is _ _)).trans (mask_is _ _))).srcs h⟩) (by rw [HSL.out, HY2.out]; omega) HONE2.out
  case en =>
    intro V W hst u0 e0 p0 u1 e1 p1 u2 e2 p2 u3 e3 p3 u4 e4 p4 u5 e5 p5 u6 e6 p6 u7 e7 p7
    obtain rfl : u0 = _ := p0
    obtain rfl : u1 = _ := p1
    obtain rfl : u2 = _ := p2
    obtain rfl : u3 = _ := p3
    obtain rfl : u4 = _ := p4
    obtain rfl : u5 = _ := p5
    obtain rfl : u6 = _ := p6
    simp only [EndAll, Act.put, List.getElem_toArray, List.getElem_cons_succ, List.getElem_cons_zero, List.setIfInBounds_toArray, List.set_cons_zero, List.set_cons_succ]
    rw [show osX 7 g (.cells cur.toArray 31 (0, 0)) (.cells (y1 ++ y2).toArray 31 (0, 0)) [] (fun _ => true) V = [(g, .cells (y1 ++ y2).toArray 31 (0, 0))] from rfl] at hst
    have hg := hst.at_ 0 rfl
    have h5 := hst.loose (os1 := [])
    have hall : Elems 11 rdPk (mask S W) (y1 ++ y2) (l.eraseIdx i) := h5.is 2 rfl
    have hgn := off_new hS (hst.new 0 rfl)
    have hblk : IsRow 11 (mask S W) (.slice (some ⟨g, 0, none⟩) (n - 1) (n - 1)) (n - 1) _ := row_off (IsRow.block hg (by rw [List.length_append, HY1.out, HY2.out]; omega) (by unfold maxLen; omega)) hgn
    have hres := IsSeq.of hblk hall HLEN.out.symm
    have hret : (pPks (l.eraseIdx i)).p (.slice (some ⟨g, 0, none⟩) (n - 1) (n - 1)) (mask S W) := ⟨some ⟨g, 0, none⟩, n - 1, by rw [HLEN.out], hres⟩
    clear hblk hall hg hst hres h3' h3
    generalize (if n - 1 = i then (some ⟨g, 0, none⟩ : Option Addr) else some ⟨g, i * 11, none⟩) = z1
    generalize (if lq = i + 1 then lb else lb.map (·.add ((i + 1) * 11))) = z2
    go_wp2_with fail
    go_ret
    exact ⟨.slice (some ⟨g, 0, none⟩) (n - 1) (n - 1), rfl, hret, HGS.out ▸ h5.below⟩
end Go.Proofs.Ytihohhjaomoemaa
