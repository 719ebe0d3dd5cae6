/- The walk of the law DiskKeeps. -/
import Derived.Test.YtkfikcppnbfmoaaChecked
import Derived.Test.YtkfikcppnbfmoaaPc30
import Derived.BigQuiet
set_option linter.unusedVariables false
namespace Go.Proofs.Ytkfikcppnbfmoaa
open Go.RowKit

/-- A row of byte slices: its cells, and what they read as. -/
def HasRows (row : Array Value) (ll : List (List UInt8)) (w : World) : Prop := row.size = ll.length ∧ ∀ i (h : i < ll.length), ∃ b q, row[i]? = some (.slice b (ll[i]).length q) ∧ IsBytes w (.slice b (ll[i]).length q) ll[i]
theorem Mono.rows (row : Array Value) (ll : List (List UInt8)) : Mono (HasRows row ll) := fun _ _ h ⟨e, k⟩ => ⟨e, fun i hi => let ⟨b, q, h1, h2⟩ := k i hi; ⟨b, q, h1, h2.sub h⟩⟩
theorem HasRows.set {row : Array Value} {ll : List (List UInt8)} {w : World} (h : HasRows row ll w) (i : Nat) {b : Option Addr} {q : Nat} {l : List UInt8} (hl : IsBytes w (.slice b l.length q) l) : HasRows (row.setIfInBounds i (.slice b l.length q)) (ll.set i l) w := by
  obtain ⟨e, k⟩ := h
  refine ⟨by simp [e], fun j hj => ?_⟩
  rw [List.length_set] at hj
  by_cases hij : i = j
  · subst hij
    refine ⟨b, q, ?_, ?_⟩
    · simp [e, hj]
    · simpa using hl
  · obtain ⟨b', q', h1, h2⟩ := k j hj
    refine ⟨b', q', ?_, ?_⟩
    · rw [List.getElem_set_ne hij, Array.getElem?_setIfInBounds_ne hij]; exact h1
    · rw [List.getElem_set_ne hij]; exact h2
theorem HasRows.nils (n : Nat) (w : World) : HasRows (madeCells #[.slice none 0 0] n) (List.replicate n []) w := by
  have e : (madeCells #[Value.slice none 0 0] n).toList = List.replicate n (.slice none 0 0) := toList_madeCells_one _ n
  have e2 : madeCells #[Value.slice none 0 0] n = (List.replicate n (.slice none 0 0)).toArray := by rw [← e]
  rw [e2]
  refine ⟨by simp, fun i hi => ⟨none, 0, ?_, ?_⟩⟩
  · rw [List.length_replicate] at hi
    simp [hi]
  · simpa using IsBytes.none w
@[reducible] def rowB (row : Array Value) : Obj := .cells row 34 (0, 0)
/-- make([][]byte, n), as a block. -/
theorem run_make_lists (n : Nat) (hn : n ≤ 1048576) (W : World) : (Instr.makeSlice 23 (.int .i64 n) (.int .i64 n)).run Try.prog W = .ok (.slice (some ⟨W.heap.size, 0, none⟩) n n) (W.alloc (.cells (madeCells #[.slice none 0 0] n) 34)) :=
  run_make_row' (P := Try.prog) 23 34 (.slice none 0 0) 24 Try.underlying23 slice_info rfl .i64 .i64 n (by omega) (by omega) W

theorem St.newBytes {w0 W : World} {os : List (Nat × Obj)} {fs : List (World → Prop)} (h : St w0 W os fs) (t : TypeId) (l : List UInt8) (hl : l.length ≤ maxLen) : St w0 (W.alloc (.cells (l.map u8v).toArray t (0, 0))) os ((IsBytes · (.slice (some ⟨W.heap.size, 0, none⟩) l.length l.length) l) :: fs) :=
  (h.box _).put (Mono.bytes _ _) (mask_row (IsBytes.new W t (0, 0) l hl) (fun k hk => by
    have : W.heap.size = k := by cases hk; rfl
    subst this
    rw [inL_no]
    intro hm
    have := h.lt _ hm
    omega))
/-- The first loop: what is kept is laid. -/
def KpInv1 (w0 : World) (n g gl : Nat) (bs : Option Addr) (q : Nat) (D : Dk) (v1 : Value) (l1 : List ActL) (c : Value) (wr : World) : Prop :=
  ∃ (k : Nat) (row : Array Value) (ll : List (List UInt8)), k ≤ n ∧ c = .int .i64 k ∧ ll.length = n ∧ (∀ i, i < k → ll[i]? = some (List.replicate 128 0)) ∧ St w0 wr [(gl, rowB row), (g, dkB bs q D)] [HasRows row ll, (IsDk · (dkS bs q D) D), (IsActs · v1 l1)]
/-- The second loop: the sectors are what is kept. -/
def KpInv2 (w0 : World) (n g gl : Nat) (v1 : Value) (l1 : List ActL) (c : Value) (wr : World) : Prop :=
  ∃ (k : Nat) (row : Array Value) (bs : Option Addr) (q : Nat) (D : Dk), k ≤ l1.length ∧ c = .int .i64 k ∧ D.Ok ∧ D.sec.length = n ∧ D.stopped = false ∧ D.left = -1 ∧ St w0 wr [(gl, rowB row), (g, dkB bs q D)] [HasRows row D.sec, (IsDk · (dkS bs q D) D), (IsActs · v1 l1)]
/-- The third loop: they are read. -/
def KpInv3 (w0 : World) (n g gl : Nat) (row : Array Value) (bs : Option Addr) (q : Nat) (D : Dk) (c : Value) (wr : World) : Prop :=
  ∃ k : Nat, k ≤ n ∧ c = .int .i64 k ∧ St w0 wr [(gl, rowB row), (g, dkB bs q D)] [HasRows row D.sec, (IsDk · (dkS bs q D) D)]

set_option maxHeartbeats 16000000 in
set_option maxRecDepth 100000 in
theorem keeps_walk (w : World) (s0 : Int) (v1 : Value) (l1 : List ActL) (hv1 : IsActs w v1 l1) :
    Calls Try.prog 4 #[.int .i64 s0, v1] w fun e w' => e = .returned (.bool true) ∧ Below w.heap.size w w' := by
  have h0 := (St.start w).putOld (Mono.acts v1 l1) hv1
  have hn := smallN_le s0
  go_enter Try.func4, Try.ntmps4
  go_wp2_with fail
  refine (small_s h0 s0).mono ?_
  rintro e w0 ⟨rfl, rfl⟩
  generalize smallN s0 = n at hn ⊢
  obtain ⟨hn1, hn8⟩ := hn
  go_wp2_with fail
  refine (new_s h0 n (Dk.made n) 0 (dk_made_ok n hn1 (by omega)).2).mono ?_
  rintro e w1 ⟨b1, q1, rfl, h1⟩
  go_upto_region 3 with (refine wpList_store_row rfl 25 (.tmp 6) (.tmp 23) rfl w1.heap.size (dkA b1 q1 (Dk.made n)) rfl rfl 25 _ (heap_alloc_new _ _) disk_info rfl (one4 rfl _ _ _) ?_)
  replace h1 := h1.newVar #[.slice none 0 0, .int .i64 0, .int .i64 0, .bool false] (dkA b1 q1 (Dk.made n)) 25
  generalize World.setRow _ _ _ = W1 at h1 ⊢
  generalize w1.heap.size = g1 at h1 ⊢
  have hok1 := (dk_made_ok n hn1 (by omega)).1
  have hsec1 : (Dk.made n).sec = List.replicate n (List.replicate 128 0) := rfl
  have hst1 : (Dk.made n).stopped = false := rfl
  have hlf1 : (Dk.made n).left = -1 := rfl
  obtain ⟨D1, hD1⟩ : ∃ D1, Dk.made n = D1 := ⟨_, rfl⟩
  rw [hD1] at h1 hok1 hsec1 hst1 hlf1 ⊢
  have HX1 := Lib.hid (And.intro hsec1 (And.intro hst1 hlf1))
  clear hD1 hsec1 hst1 hlf1
  have hmk := run_make_lists n (by omega)
  go_upto_region 6 with fail
  have h2 := h1.alloc (rowB (madeCells #[.slice none 0 0] n))
  replace h2 := h2.put (Mono.rows _ _) (HasRows.nils n _)
  replace h2 := h2.facts (fs' := [HasRows (madeCells #[.slice none 0 0] n) (List.replicate n []), (IsDk · (dkS b1 q1 D1) D1), (IsActs · v1 l1)]) (fun P hP => by simpa using hP)
  generalize World.alloc _ _ = W2 at h2 ⊢
  generalize W1.heap.size = gl at h2 ⊢
  clear hmk
  obtain ⟨mc, hmc⟩ : ∃ mc, mc = (List.map u8v (List.replicate 128 0)).toArray := ⟨_, rfl⟩
  have hmk : ∀ W : World, (Instr.makeSlice 34 (.int .i64 128) (.int .i64 128)).run Try.prog W = .ok (.slice (some ⟨W.heap.size, 0, none⟩) 128 128) (W.alloc (.cells mc 5)) := by rw [hmc]; exact run_make128
  have hnb : ∀ (W : World) os fs, St w W os fs → St w (W.alloc (.cells mc 5)) os ((IsBytes · (.slice (some ⟨W.heap.size, 0, none⟩) (List.replicate 128 (0 : UInt8)).length 128) (List.replicate 128 0)) :: fs) := fun W os fs h => by
    have := h.newBytes 5 (List.replicate 128 0) (by simp [maxLen])
    rw [← hmc] at this
    simpa only [List.length_replicate] using this
  have HNB := Lib.hid hnb
  clear hnb h1 h0 hmc
  go_wp2_with fail
  go_loopw [9] (KpInv1 w n g1 gl b1 q1 D1 v1 l1) (fun c _ => n - (intOf c).toNat)
  case atStart => exact ⟨0, _, _, by omega, rfl, by simp, fun i hi => absurd hi (Nat.not_lt_zero _), h2⟩
  case round =>
    clear h2
    obtain ⟨k, row, ll, hk, rfl, hll, hz, hst⟩ := hrel
    have HLL := Lib.hid (And.intro hll hz)
    clear hll hz
    by_cases hlt : k < n
    · have i1 : (k : Int) < (n : Int) := by omega
      have i0 : (0 : Int) ≤ (k : Int) := by omega
      have hrz : row.size = n := (hst.is 0 rfl : HasRows _ _ _).1.trans HLL.out.1
      have hc : wr.cell? ⟨gl, k, none⟩ = some (row[k]'(by omega)) := by
        rw [cell_of_row _ _ _ _ _ _ (hst.at_ 0 rfl), Array.getElem?_eq_getElem (by omega)]
      have hf : wr.frozen? ⟨gl, k, none⟩ = false := frozen_of_row _ _ _ _ _ (hst.at_ 0 rfl)
      have hsz := hst.lt gl (by simp)
      go_wp2_with fail
      have h3 := HNB.out _ _ _ (hst.setCell (os1 := []) (i := k) (v := .slice (some ⟨wr.heap.size, 0, none⟩) 128 128))
      replace h3 := h3.put (Mono.rows _ _) ((h3.get 1 rfl : HasRows _ _ _).set k (h3.get 0 rfl : IsBytes _ _ _))
      replace h3 := h3.facts (fs' := [HasRows (row.setIfInBounds k (.slice (some ⟨wr.heap.size, 0, none⟩) 128 128)) (ll.set k (List.replicate 128 0)), (IsDk · (dkS b1 q1 D1) D1), (IsActs · v1 l1)]) (fun P hP => by simp only [List.mem_cons, List.not_mem_nil, or_false] at hP ⊢; rcases hP with rfl | rfl | rfl <;> simp)
      clear hc hf
      go_roundw
      case rel =>
        refine ⟨k + 1, _, _, by omega, by go_num, by simpa using HLL.out.1, fun i hi => ?_, h3⟩
        by_cases e : k = i
        · subst e; rw [List.getElem?_set_self (by have := HLL.out.1; omega)]
        · rw [List.getElem?_set_ne e]; exact HLL.out.2 i (by omega)
      case measure => simp [intOf]; omega
    · obtain rfl : k = n := by omega
      have hld : ll = D1.sec := by
        rw [HX1.out.1]
        apply List.ext_getElem?
        intro i
        by_cases hi : i < k
        · rw [HLL.out.2 i hi, List.getElem?_replicate, if_pos hi]
        · rw [List.getElem?_eq_none (by have := HLL.out.1; omega), List.getElem?_eq_none (by simp; omega)]
      rw [hld] at hst
      clear hld
      go_wp2_with fail
      refine (few_s hst v1 l1 60 (hst.get 2 rfl)).mono ?_
      rintro e w3 ⟨b3, q3, rfl, h3⟩
      generalize l1.take 60 = one at h3 ⊢
      replace h3 := h3.facts (fs' := [HasRows row D1.sec, (IsDk · (dkS b1 q1 D1) D1), (IsActs · (.slice b3 one.length q3) one)]) (fun P hP => by simp only [List.mem_cons, List.not_mem_nil, or_false] at hP ⊢; rcases hP with rfl | rfl | rfl <;> simp)
      clear hst
      have hsl1 : D1.sec.length = k := by rw [HX1.out.1, List.length_replicate]
      go_wp2_with fail
      go_loopw [11] (KpInv2 w k g1 gl (.slice b3 one.length q3) one) (fun c _ => one.length - (intOf c).toNat)
      case atStart => exact ⟨0, row, b1, q1, D1, by omega, rfl, hok1, hsl1, HX1.out.2.1, HX1.out.2.2, h3⟩
      case round =>
        clear h3
        obtain ⟨j, row, bs, q, D, hj, rfl, hok, hsl, hfs, hlf, hst⟩ := hrel
        have HP := Lib.hid (And.intro hsl (And.intro hfs hlf))
        clear hsl hfs hlf
        by_cases hlt : j < one.length
        · obtain ⟨_, _, e, hac, ham, hc⟩ := (hst.is 2 rfl : IsActs _ _ _).out
          cases e
          obtain ⟨ab, ao, rfl, -, ac1, ac2, -⟩ := hc j hlt
          clear hc
          have hsm := smallN_le (one[j]).at_
          obtain ⟨m, hm⟩ : ∃ m, smallN (one[j]).at_ = m := ⟨_, rfl⟩
          rw [hm] at hsm
          obtain ⟨hm1, hm8⟩ := hsm
          have HM := Lib.hid hm
          clear hm
          have i1 : (j : Int) < (one.length : Int) := by omega
          have hk0 : (0 : Int) ≤ (j : Int) := by omega
          have hn0 : ¬ k = 0 := by omega
          have hrem : (m : Int).tmod (k : Int) = ((m % k : Nat) : Int) := (Int.ofNat_tmod m k).symm
          have hmn : m % k < D.sec.length := by have := HP.out.1; have := Nat.mod_lt m (show 0 < k by omega); omega
          obtain ⟨r, hr⟩ : ∃ r, m % k = r := ⟨_, rfl⟩
          rw [hr] at hrem hmn
          obtain ⟨Y, hY, hokY, hsecY, hfsY, hlfY⟩ : ∃ Y, D.write (r : Int) (fillL (one[j]).fill 128) = (Y, 0) ∧ Y.Ok ∧ Y.sec = D.sec.set r (fillL (one[j]).fill 128) ∧ Y.stopped = false ∧ Y.left = -1 := by
            obtain ⟨e, ok, sl⟩ := dk_write_ok hok r hmn (fillL (one[j]).fill 128) (fillL_length _ _)
            have e2 := dk_wr_free HP.out.2.1 HP.out.2.2 r hmn (hok.size r hmn) (fillL (one[j]).fill 128) (fillL_length _ _)
            rw [e2] at e ok sl
            exact ⟨_, e, ok, rfl, HP.out.2.1, HP.out.2.2⟩
          have HW := Lib.hid hY
          have HYP := Lib.hid (And.intro hsecY (And.intro hfsY hlfY))
          have HR := Lib.hid hr
          have HMN := Lib.hid hmn
          clear hY hr hmn hsecY hfsY hlfY
          go_wp2_with (first | (go_at_call 9; refine (small_any _ _).mono ?_; rintro e w4 ⟨rfl, rfl⟩; rw [HM.out]))
          --R15
          refine wp_region_st [pVal (dkS bs q D), pVal ?c1, pVal ?c2, pVal ?c3, pVal ?c4, pVal ?c5, pVal ?c6, pBytes (fillL (one[j]).fill 128), pDkT Y 0, pDkT Y 0, pDk Y, pVal ?c11, pPtr, pAny, pVal ?c14] (osN 12 13 10 25 (.cells dkZv.cells 25 (0, 0)) [(gl, rowB row), (g1, dkB bs q D)]) 101 [0, 0, 0, 0, 12, 28, 60, 124, 255, 511, 1023, 1023, 0, 6143, 16383] [[], [], [], [], [(3, 58), (2, 57)], [(4, 59)], [(5, 60)], [(6, 61)], [(7, 62), (1, 56), (0, 55)], [(8, 63)], [(9, 54)], [(9, 54)], [], [(10, 64), (12, 13)], [(11, 65)]] [(0, 55), (1, 56), (2, 57), (3, 58), (4, 59), (5, 60), (6, 61), (7, 62), (8, 63), (9, 54), (10, 64), (11, 65), (12, 13), (14, 14)] (by kernel_rfl) (by kernel_rfl) rfl rfl hst osN0 (osN1 (by decide) (by decide)) ?ob ?en
          case ob =>
            refine ⟨?_, ?_, ?_, ?_, ?_, ?_, ?_, ?_, ?_, ?_, ?_, ?_, ?_, ?_, ?_, trivial⟩
            · -- 0: t55 := Op.load 25 (t6)
              intro X1 X2 X3 X4 L V W hL hd hw hst 
              exact ob_c rfl (run_load_own rfl rfl (hst.find (g := g1) (o := dkB bs q D) (osN_mem (by simp) L V)) Try.underlying25 rfl disk_info) hst rfl
            · -- 1: t56 := Op.move (t12)
              intro X1 X2 X3 X4 L V W hL hd hw hst 
              refine ob_c rfl ?_ hst rfl
              go_simp
              try with_reducible rfl
            · -- 2: t57 := Op.move (t10)
              intro X1 X2 X3 X4 L V W hL hd hw hst 
              refine ob_c rfl ?_ hst rfl
              go_simp
              try with_reducible rfl
            · -- 3: t58 := Op.move (t11)
              intro X1 X2 X3 X4 L V W hL hd hw hst 
              refine ob_c rfl ?_ hst rfl
              go_simp
              try with_reducible rfl
            · -- 4: t59 := Op.indexAddr 22 (t57) (t58)
              intro X1 X2 X3 X4 L V W hL hd hw hst u2 e2 p2 u3 e3 p3
              obtain rfl : u2 = _ := p2
              obtain rfl : u3 = _ := p3
              refine ob_c rfl ?_ hst rfl
              go_simp
              try with_reducible rfl
            · -- 5: t60 := Op.fieldAddr 33 (t59) 2
              intro X1 X2 X3 X4 L V W hL hd hw hst u4 e4 p4
              obtain rfl : u4 = _ := p4
              refine ob_c rfl ?_ hst rfl
              go_simp
              try with_reducible rfl
            · -- 6: t61 := Op.load 5 (t60)
              intro X1 X2 X3 X4 L V W hL hd hw hst u5 e5 p5
              obtain rfl : u5 = _ := p5
              refine ob_c rfl ?_ hst rfl
              have acs := IsActs.cells_at (IsRow.sub (hst.base 2 rfl) (mask_is _ _)) j hlt; have ac2 := acs.2.2.1; clear acs
              go_simp
              try with_reducible rfl
            · -- 7: t62 := Op.call { callee := value (func 17), args := #[t61, const (int IntKind.i64 128)], argTypes := #[5, 3] }
              intro X1 X2 X3 X4 L V W hL hd hw hst u6 e6 p6
              obtain rfl : u6 = _ := p6
              refine ob_call rfl ?_ (fill_p hst (one[j]).fill 128 _ rfl)
              go_simp
            · -- 8: t63 := Op.call { callee := value (func 16), args := #[t55, t56, t62], argTypes := #[25, 3, 34] }
              intro X1 X2 X3 X4 L V W hL hd hw hst u0 e0 p0 u1 e1 p1 u7 e7 p7
              obtain rfl : u0 = _ := p0
              obtain rfl : u1 = _ := p1
              obtain ⟨b7, q7, rfl, hb7⟩ := p7
              refine ob_call rfl ?_ (write_p hst _ D r _ (fillL (one[j]).fill 128) Y 0 HW.out (hst.base 1 rfl) hb7)
              go_simp
            · -- 9: t54 := Op.move (t63)
              intro X1 X2 X3 X4 L V W hL hd hw hst u8 e8 p8
              refine ob_v u8 rfl ?_ hst rfl p8
              go_simp
            · -- 10: t64 := Op.extract (t54) 0
              intro X1 X2 X3 X4 L V W hL hd hw hst u9 e9 p9
              obtain ⟨b9, q9, rfl, hd9⟩ := p9
              refine ob_v (dkS b9 q9 Y) rfl ?_ hst (osN_keep (hw 13 rfl (by decide)) (by decide) (by decide)) ⟨b9, q9, rfl, hd9⟩
              go_simp
            · -- 11: t65 := Op.extract (t54) 1
              intro X1 X2 X3 X4 L V W hL hd hw hst u9 e9 p9
              obtain ⟨b9, q9, rfl, hd9⟩ := p9
              refine ob_c rfl ?_ hst rfl
              go_simp
              try with_reducible rfl
            · -- 12: t13 := Op.alloc 25
              intro X1 X2 X3 X4 L V W hL hd hw hst 
              exact ob_new _ rfl rfl dk_zero_var rfl (by decide) hL (hw 13 rfl (by decide)) rfl hst
            · -- 13: tNone := Op.store 25 (t13) (t64)
              intro X1 X2 X3 X4 L V W hL hd hw hst u12 e12 p12 u10 e10 p10
              obtain ⟨g12, rfl⟩ := p12
              obtain ⟨b10, q10, rfl, hd10⟩ := p10
              exact ob_put (ia := 12) (k := 10) (z := dkZv) rfl rfl rfl rfl e12 e10 rfl (by decide) (by decide) (hd 12 rfl) hL rfl disk_info (one4 rfl _ _ _) hst
            · -- 14: t14 := Op.assign (t65)
              intro X1 X2 X3 X4 L V W hL hd hw hst u11 e11 p11
              obtain rfl : u11 = _ := p11
              refine ob_c rfl ?_ hst rfl
              go_simp
              try with_reducible rfl
          case en =>
            intro V W hst u0 e0 p0 u1 e1 p1 u2 e2 p2 u3 e3 p3 u4 e4 p4 u5 e5 p5 u6 e6 p6 u7 e7 p7 u8 e8 p8 u9 e9 p9 u10 e10 p10 u11 e11 p11 u12 e12 p12 u14 e14 p14
            obtain rfl : u0 = _ := p0
            obtain rfl : u1 = _ := p1
            obtain rfl : u2 = _ := p2
            obtain rfl : u3 = _ := p3
            obtain rfl : u4 = _ := p4
            obtain rfl : u5 = _ := p5
            obtain rfl : u6 = _ := p6
            obtain ⟨b7, q7, rfl, hb7⟩ := p7
            obtain ⟨b8, q8, rfl, hd8⟩ := p8
            obtain ⟨b9, q9, rfl, hd9⟩ := p9
            obtain ⟨b10, q10, rfl, hd10⟩ := p10
            obtain rfl : u11 = _ := p11
            obtain ⟨g12, rfl⟩ := p12
            obtain rfl : u14 = _ := p14
            simp only [EndAll, Act.put, List.getElem_toArray, List.getElem_cons_succ, List.getElem_cons_zero, List.setIfInBounds_toArray, List.set_cons_zero, List.set_cons_succ]
            have h5 := hst.put (Mono.dk _ _) hd10
            rw [osN_end e12 e10] at h5
            replace h5 := h5.facts (fs' := [(IsDk · (dkS b10 q10 Y) Y), HasRows row D.sec, (IsActs · (.slice (some ⟨ab, ao, none⟩) one.length q3) one)]) (fun P hP => by simp only [List.mem_cons, List.not_mem_nil, or_false] at hP ⊢; rcases hP with rfl | rfl | rfl <;> simp)
            clear hst e0 e1 e2 e3 e4 e5 e6 e7 e8 e9 e10 e11 e12 e14
            go_upto_region 19 with (first | (refine wpList_load_row rfl 25 (.tmp 13) rfl g12 rfl 25 _ (0, 0) _ (h5.at_ 0 rfl) Try.underlying25 rfl disk_info ?_) | (refine wpList_store_row rfl 25 (.tmp 6) (.tmp 68) rfl g1 (dkA b10 q10 Y) rfl rfl 25 _ (h5.at_ 2 rfl) disk_info rfl (one4 rfl _ _ _) ?_))
            have h6 := (h5.setRow (os1 := [(g12, dkB b10 q10 Y), (gl, rowB row)]) (cs' := dkA b10 q10 Y)).loose (os1 := [])
            generalize World.setRow _ _ _ = W6 at h6 ⊢
            have acs := IsActs.cells_at (h6.is 2 rfl) j hlt
            have ac2 := acs.2.2.1
            clear acs h5
            have hrz : row.size = k := (h6.is 1 rfl : HasRows _ _ _).1.trans HP.out.1
            have hmk2 : r < k := by have := HMN.out; have := HP.out.1; omega
            have i2 : (r : Int) < (k : Int) := by omega
            have i3 : (0 : Int) ≤ (r : Int) := by omega
            have HRZ := Lib.hid hrz
            clear hrz
            go_wp2_with fail
            refine (fill_s h6 (one[j]).fill 128 128 rfl).mono ?_
            rintro e w7 ⟨bf, qf, rfl, h7⟩
            have hc : w7.cell? ⟨gl, r, none⟩ = some (row[r]'(by have := HRZ.out; omega)) := by
              rw [cell_of_row _ _ _ _ _ _ (h7.at_ 0 rfl), Array.getElem?_eq_getElem (by have := HRZ.out; omega)]
            have hf : w7.frozen? ⟨gl, r, none⟩ = false := frozen_of_row _ _ _ _ _ (h7.at_ 0 rfl)
            go_wp2_with fail
            have h8 := (h7.setCell (os1 := []) (i := r) (v := .slice bf (fillL (one[j]).fill 128).length qf))
            replace h8 := h8.put (Mono.rows _ _) ((h8.get 2 rfl : HasRows _ _ _).set r (h8.get 0 rfl : IsBytes _ _ _))
            rw [← HYP.out.1] at h8
            replace h8 := h8.facts (fs' := [HasRows (row.setIfInBounds r (.slice bf (fillL (one[j]).fill 128).length qf)) Y.sec, (IsDk · (dkS b10 q10 Y) Y), (IsActs · (.slice (some ⟨ab, ao, none⟩) one.length q3) one)]) (fun P hP => by simp only [List.mem_cons, List.not_mem_nil, or_false] at hP ⊢; rcases hP with rfl | rfl | rfl <;> simp)
            clear hc hf h7 h6
            go_roundw
            case rel => exact ⟨j + 1, _, b10, q10, Y, by omega, by go_num, hokY, by rw [HYP.out.1, List.length_set]; exact HP.out.1, HYP.out.2.1, HYP.out.2.2, h8⟩
            case measure => simp [intOf]; omega
--E15
        · obtain rfl : j = one.length := by omega
          replace hst := hst.facts (fs' := [HasRows row D.sec, (IsDk · (dkS bs q D) D)]) (fun P hP => by simp only [List.mem_cons, List.not_mem_nil, or_false] at hP ⊢; rcases hP with rfl | rfl <;> simp)
          go_wp2_with fail
          go_loopw [15] (KpInv3 w k g1 gl row bs q D) (fun c _ => k - (intOf c).toNat)
          case atStart => exact ⟨0, by omega, rfl, hst⟩
          case round =>
            clear hst
            obtain ⟨j, hj, rfl, hst⟩ := hrel
            by_cases hlt : j < k
            · have hjD : j < D.sec.length := by have := HP.out.1; omega
              have hrd : D.read (j : Int) = (D.sec[j], 0) := dk_read_ok hok HP.out.2.1 j hjD
              have HRD := Lib.hid hrd
              clear hrd
              have i1 : (j : Int) < (k : Int) := by omega
              have i0 : (0 : Int) ≤ (j : Int) := by omega
              go_wp2_with (refine wpList_load_row rfl 25 (.tmp 6) rfl g1 rfl 25 _ (0, 0) _ (hst.at_ 1 rfl) Try.underlying25 rfl disk_info ?_)
              refine (read_s hst _ D j _ 0 HRD.out (hst.get 1 rfl)).mono ?_
              rintro e w5 ⟨b5, q5, rfl, h5⟩
              obtain ⟨hrs, hrc⟩ := (h5.is 1 rfl : HasRows _ _ _)
              obtain ⟨br, qr, hr1, hr2⟩ := hrc j hjD
              have hc : w5.cell? ⟨gl, j, none⟩ = some (.slice br (D.sec[j]).length qr) := by
                rw [cell_of_row _ _ _ _ _ _ (h5.at_ 0 rfl)]
                exact hr1
              clear hrs hrc hr1
              go_wp2_with (first | (go_at_call 15; (refine (same_s h5 _ _ (D.sec[j]) (h5.is 0 rfl) hr2).mono ?_); rintro e w6 ⟨rfl, h6⟩))
              go_roundw
              case rel => exact ⟨j + 1, by omega, by go_num, h6.pop⟩
              case measure => simp [intOf]; omega
            · obtain rfl : j = k := by omega
              go_wp2_with fail
              refine (example_any _).mono ?_
              rintro e w6 ⟨rfl, hb⟩
              go_wp2
              go_ret
              exact ⟨rfl, hst.below.trans (hb.mono hst.size)⟩
end Go.Proofs.Ytkfikcppnbfmoaa
