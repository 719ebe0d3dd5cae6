/- The walks over wal.batches and wal.scan. -/
import Derived.Test.YtnfgapdpnihicaaZWe31
import Derived.RegionIn
set_option linter.unusedVariables false
set_option linter.unusedSimpArgs false
namespace Go.Proofs.Ytnfgapdpnihicaa
open Go Go.RowKit
attribute [local go_sem] Oper.semAt_some

set_option maxHeartbeats 1000000 in
theorem batches_any (w : World) (b : Option Addr) (n q : Nat) (left tear : Int) (st : Bool) (f e : Nat) :
    Calls Try.prog 62 #[.agg #[.slice b n q, .int .i64 left, .int .i64 tear, .bool st], .int .i64 f, .int .i64 e] w fun en w' => en = .returned (.func (.func 69) #[] #[.pointer (some ⟨w.heap.size + 1, 0, none⟩), .pointer (some ⟨w.heap.size + 1 + 1, 0, none⟩), .pointer (some ⟨w.heap.size, 0, none⟩)]) ∧
      w' = ((w.alloc (.cells #[.slice b n q, .int .i64 left, .int .i64 tear, .bool st] 24)).alloc (.cells #[.int .i64 f] 3)).alloc (.cells #[.int .i64 e] 3) := by
  go_enter Try.func62, Try.ntmps62
  go_wp2_with fail
  go_ret
  exact ⟨rfl, rfl⟩
theorem leave0 {P : Program} {fn : Func} {R : Ending → World → Prop} {a : Act} {w : World} {v : Value} (hd : a.defers = []) (hv : (results fn a.tmps).run P w = .ok v w) (hR : R (.returned v) w) : bodyPostM Fence.wide 0 P fn R .ret a w := by
  show LeavesInM _ _ _ _ _ _ _ _ _
  rw [hd]
  exact ⟨v, hv, hR⟩
theorem leave1 {P : Program} {fn : Func} {R : Ending → World → Prop} {a : Act} {w : World} {v : Value} {D : Nat} (hd : a.defers = [{ target := .collected D, args := #[] }]) (hK : w.heap[D]? = some (.deferred (some []))) (hv : (results fn a.tmps).run P (w.putObj D (.deferred none)) = .ok v (w.putObj D (.deferred none))) (hR : R (.returned v) (w.putObj D (.deferred none))) : bodyPostM Fence.wide 0 P fn R .ret a w := by
  show LeavesInM _ _ _ _ _ _ _ _ _
  rw [hd]
  refine ⟨by simp, .inl ⟨_, _, rfl, run_takeDeferred hK, ?_⟩⟩
  exact ⟨v, hv, hR⟩
theorem loop_len {l : List UInt8} : ∀ (k : Nat) (x : Int) (acc acc' : List (List UInt8)) (x' : Int), Wl.loop l k x acc = (acc', x', 0) → (acc'.length : Int) + x ≤ acc.length + x'
  | 0, x, acc, acc', x', h => by unfold Wl.loop at h; cases h; omega
  | k + 1, x, acc, acc', x', h => by
    unfold Wl.loop at h
    obtain ⟨⟨s, nx, er⟩, hr⟩ : ∃ r, Wire.readT l x = r := ⟨_, rfl⟩
    rw [hr] at h
    simp only at h
    by_cases he : er = 0
    · rw [if_pos he] at h
      have h1 := loop_len k _ _ _ _ h
      obtain ⟨j, m, e1, e2, h2, h3⟩ := (readT_bd hr).2 he
      rw [List.length_append, List.length_singleton] at h1
      omega
    · rw [if_neg he] at h
      cases h
      exact absurd rfl he
theorem parts_len {l : List UInt8} {rs : List (List UInt8)} (h : Wl.parts l = some rs) : rs.length ≤ l.length := by
  unfold Wl.parts at h
  split at h
  · rename_i hc
    obtain ⟨h1, h2, h3⟩ := hc
    obtain ⟨k, hk, hkl⟩ := readU_bd h1
    obtain ⟨⟨a, x, e⟩, hr⟩ : ∃ r, Wl.loop l (Wire.readU l 0).1 (Wire.readU l 0).2.1 [] = r := ⟨_, rfl⟩
    rw [hr] at h h2 h3
    simp only at h2 h3
    subst h2
    have h4 := loop_len _ _ _ _ _ hr
    obtain rfl : a = rs := by simpa using h
    simp only [List.length_nil] at h4
    omega
  · cases h
theorem batch_len {sec : List (List UInt8)} {p e m : Nat} {rs : List (List UInt8)} (h : Wl.batch sec p e = (m, rs, 0)) : rs.length ≤ (e - p) * 128 := by
  unfold Wl.batch at h
  simp only at h
  split at h
  · cases h
  · rename_i h1
    split at h
    · cases h
    · split at h
      · cases h
      · generalize hc : (List.take (Wire.readU (List.take 127 (sec.getD p [])) 0).1 _ : List UInt8) = cc at h
        cases ho : Wl.parts cc with
        | none => rw [ho] at h; cases h
        | some l =>
          rw [ho] at h
          simp only [Wl.got, Prod.mk.injEq] at h
          obtain ⟨-, rfl, -⟩ := h
          have h2 := parts_len ho
          have h3 : cc.length ≤ (Wire.readU (List.take 127 (sec.getD p [])) 0).1 := by rw [← hc, List.length_take]; omega
          omega
theorem results_ccc {fn : Func} {p q u : Tmp} (h : fn.results = #[.cell p 22, .cell q 3, .cell u 27]) (tmps : Array Value) (w : World) (gp gq gu : Nat) (x y z : Value)
    (hp : tmps.getD p undef = .pointer (some ⟨gp, 0, none⟩)) (hq : tmps.getD q undef = .pointer (some ⟨gq, 0, none⟩)) (hu : tmps.getD u undef = .pointer (some ⟨gu, 0, none⟩))
    (cx : w.cell? ⟨gp, 0, none⟩ = some x) (cy : w.cell? ⟨gq, 0, none⟩ = some y) (cz : w.cell? ⟨gu, 0, none⟩ = some z) : (results fn tmps).run Try.prog w = .ok (.tuple #[x, y, z]) w := by
  have e1 : (loadVar 22 ⟨gp, 0, none⟩).run Try.prog w = .ok x w := by simp [go_sem, cx]
  have e2 : (loadVar 3 ⟨gq, 0, none⟩).run Try.prog w = .ok y w := by simp [go_sem, cy]
  have e3 : (loadVar 27 ⟨gu, 0, none⟩).run Try.prog w = .ok z w := by simp [go_sem, cz]
  have hp' : tmps[p]?.getD undef = .pointer (some ⟨gp, 0, none⟩) := by simpa using hp
  have hq' : tmps[q]?.getD undef = .pointer (some ⟨gq, 0, none⟩) := by simpa using hq
  have hu' : tmps[u]?.getD undef = .pointer (some ⟨gu, 0, none⟩) := by simpa using hu
  unfold results
  simp only [h]
  simp [hp', hq', hu', asAddr, e1, e2, e3, Sem.run_bind, Sem.run_pure, Result.andThen_ok]
theorem cells_off {g : Nat} {cs : Array Value} {A : World} {T : Nat → Bool} (h : IsCells g cs A) (hn : T g = false) : IsCells g cs (mask T A) := fun j v hj => by
  rw [World.cell?_of_block (w := A) (mask_block T A _ hn)]
  exact h j v hj
theorem notin_of {l : List (Nat × Obj)} {B g : Nat} (h : ∀ k ∈ keys l, k < B) (hg : B ≤ g) : inL (keys l) g = false := by
  cases hq : inL (keys l) g with
  | false => rfl
  | true => have := h g (inL_iff.1 hq); omega
theorem elems_one {w : World} {xs : List Value} {l : List (List UInt8)} (h : Elems 1 rdB w xs l) : ∀ u ∈ xs, u.oneCell' = true := fun u hu => by
  obtain ⟨i, hi, rfl⟩ := List.mem_iff_getElem.1 hu
  obtain ⟨u', h1, h2⟩ := h.2 i (by have := h.1; omega)
  rw [Nat.mul_one, List.drop_eq_getElem_cons hi] at h1
  have : xs[i] = u' := by
    have h2 := congrArg (fun l : List Value => l[0]?) h1
    simp only [List.getElem?_take, List.getElem?_drop, List.getElem?_cons_zero] at h2
    simpa using h2
  rw [this]
  exact h2.one
theorem St.dropL {w0 W : World} {oo os : List (Nat × Obj)} {fs : List (World → Prop)} (h : St w0 W (oo ++ os) fs) : St w0 W os fs := by
  induction oo with
  | nil => exact h
  | cons x oo ih => exact ih (St.loose (os1 := []) h)
theorem yield_two {F : Fence} {m : Nat} {P : Program} {l : Nat} {args : Array Value} {W : World} {A B : Ending} {P1 P2 : World → Prop} (h : ∀ R0 : Ending → World → Prop, Hid (∀ W', P1 W' → R0 A W') → Hid (∀ W', P2 W' → R0 B W') → YieldAt F m P l args W R0) : YieldAt F m P l args W (fun en W' => (en = A ∧ P1 W') ∨ (en = B ∧ P2 W')) :=
  h _ (Lib.hid fun W' hh => .inl ⟨rfl, hh⟩) (Lib.hid fun W' hh => .inr ⟨rfl, hh⟩)
theorem allIn_val {F : Fence} {n : Nat} {P : Program} {md : Region.Mode} {ops : Array Oper} {Q : Exit → Act → World → Prop} {fuel : Nat} {listed : Array Bool} {a : Act} {w w' : World} {u : Value} {i : Nat} {o : Oper} {rs : List Nat} (ho : ops[i]? = some o) (hg : o.guard = none) (hab : o.about P w a.eval = none) (hd : ∀ c, o.op ≠ .defer c)
    (hr : (execOp a.eval o).run P w = .ok (.value u) w') (h : wpAnyIn F n P md ops Q fuel (listed.setIfInBounds i true) (a.put o.dst u) w') (hs : AllReadyIn F n P md ops Q fuel listed a w rs) : AllReadyIn F n P md ops Q fuel listed a w (i :: rs) :=
  AllReadyIn.cons ho (fun K' hK => by
    have hw : Region.wanted o (yielded ops a.tmps) = true := by simp [Region.wanted, hg]
    rw [if_pos hw]
    unfold Oper.wpIn
    refine ⟨fun f hf => (by rw [hab] at hf; cases hf), ?_⟩
    rw [Oper.semAt_plain F _ _ hd, hr]
    exact hK _ _ h) hs
theorem allIn_skip {F : Fence} {n : Nat} {P : Program} {md : Region.Mode} {ops : Array Oper} {Q : Exit → Act → World → Prop} {fuel : Nat} {listed : Array Bool} {a : Act} {w w' : World} {i : Nat} {o : Oper} {rs : List Nat} (ho : ops[i]? = some o) (hg : o.guard = none) (hab : o.about P w a.eval = none) (hd : ∀ c, o.op ≠ .defer c)
    (hr : (execOp a.eval o).run P w = .ok .skip w') (h : wpAnyIn F n P md ops Q fuel (listed.setIfInBounds i true) (a.put o.dst undef) w') (hs : AllReadyIn F n P md ops Q fuel listed a w rs) : AllReadyIn F n P md ops Q fuel listed a w (i :: rs) :=
  AllReadyIn.cons ho (fun K' hK => by
    have hw : Region.wanted o (yielded ops a.tmps) = true := by simp [Region.wanted, hg]
    rw [if_pos hw]
    unfold Oper.wpIn
    refine ⟨fun f hf => (by rw [hab] at hf; cases hf), ?_⟩
    rw [Oper.semAt_plain F _ _ hd, hr]
    exact hK _ _ h) hs
theorem Mono.sees (gd g1 g2 : Nat) (b : Option Addr) (n q : Nat) (left tear : Int) (st : Bool) (f e : Nat) (sec : List (List UInt8)) : Mono (Sees gd g1 g2 b n q left tear st f e sec) := fun _ _ k h => h.sub k

set_option maxRecDepth 8000 in
set_option maxHeartbeats 8000000 in
theorem scan_any (w : World) (S : Nat → Bool) (hS : ∀ k, S k = true → k < w.heap.size) (v : Value) (d : Dk) (hv : IsDk w v d) (f m : Int) (hf : -9223372036854775808 ≤ f ∧ f ≤ 9223372036854775807) (hm : -9223372036854775808 ≤ m ∧ m ≤ 9223372036854775807) :
    Calls Try.prog 41 #[v, .int .i64 f, .int .i64 m] w fun en w' => ∃ rv, en = .returned (.tuple #[rv, .int .i64 (d.scan f m).2.1, .int .i64 (d.scan f m).2.2]) ∧ IsLists (mask S w') rv (d.scan f m).1 ∧ Below w.heap.size w w' := by
  obtain ⟨⟨RS, E, C⟩, hR⟩ : ∃ r, d.scan f m = r := ⟨_, rfl⟩
  rw [hR]
  unfold Dk.scan at hR
  have hv' := hv
  obtain ⟨sv, rfl, hl⟩ := hv
  obtain ⟨b, q, rfl, -⟩ := hl.out
  obtain ⟨n, hn⟩ : ∃ n, d.sec.length = n := ⟨_, rfl⟩
  simp only [dkV] at hv' ⊢
  rw [hn] at hv' hl ⊢
  have h0 := (((((St.start w).putOld (Mono.lists _ _) hl).putOld (Mono.dk _ _) hv').alloc (.cells #[.slice b n q, .int .i64 d.left, .int .i64 d.tear, .bool d.stopped] 24)).shut)
  have h1 := ((h0.alloc (.cells #[.slice none 0 0] 22)).alloc (.cells #[.int .i64 0] 3)).alloc (.cells #[.int .i64 0] 27)
  simp only [al_size] at h1
  obtain ⟨c0, c1, c2, c3⟩ := (h1.is 0 rfl : IsCells _ _ _).c4
  have HR := Lib.hid hR
  have HN := Lib.hid hn
  clear hR hn hv' hl h0
  refine callsIn_wide.1 (callsIn_of_wp_marks (n := 0) Try.func41 rfl trivial (wpIn_wide.2 ?_) rfl)
  simp only [Try.ntmps41, List.size_toArray, List.length_cons, List.length_nil, Nat.reduceAdd, Nat.reduceSub, Array.replicate_succ, Array.replicate_zero, List.push_toArray, List.append_toArray, List.nil_append, List.cons_append]
  go_wp2_with fail
  refine (Calls.sV h1 (fits_any _ _ d (h1.is 1 rfl) f m hf hm)).mono ?_
  rintro en w2 ⟨rfl, h2⟩
  clear h1 c0 c1 c2 c3
  obtain ⟨c0, c1, c2, c3⟩ := (h2.is 0 rfl : IsCells _ _ _).c4
  obtain ⟨x6, xf6⟩ := cellF (j := 0) (h2.at_ 2 rfl) rfl
  obtain ⟨x7, xf7⟩ := cellF (j := 0) (h2.at_ 1 rfl) rfl
  obtain ⟨x8, xf8⟩ := cellF (j := 0) (h2.at_ 0 rfl) rfl
  obtain ⟨ft, hft⟩ : ∃ b, d.fits f m = b := ⟨_, rfl⟩
  have hr := HR.out
  rw [hft] at hr ⊢
  cases ft with
  | false =>
    rw [if_pos rfl] at hr
    cases hr
    have h3 := ((h2.setCell (os1 := [_, _]) (i := 0) (v := .slice none 0 0)).setCell (os1 := [_]) (i := 0) (v := .int .i64 0)).setCell (os1 := []) (i := 0) (v := .int .i64 1)
    go_wp2_with fail
    refine leave0 rfl (results_ccc rfl _ _ (w.heap.size + 1) (w.heap.size + 1 + 1) (w.heap.size + 1 + 1 + 1) (.slice none 0 0) (.int .i64 0) (.int .i64 1) rfl rfl rfl (cellF (j := 0) (h3.at_ 2 rfl) rfl).1 (cellF (j := 0) (h3.at_ 1 rfl) rfl).1 (cellF (j := 0) (h3.at_ 0 rfl) rfl).1) ⟨_, rfl, lists_nil _, h3.below⟩
  | true =>
    rw [if_neg (by decide)] at hr
    obtain ⟨hok, p, k, rfl, rfl, hk1, hpk⟩ := Dk.fits_iff hft
    cases hst : d.stopped with
    | true =>
      rw [hst, if_pos rfl] at hr
      cases hr
      rw [hst] at c3
      have h3 := ((h2.setCell (os1 := [_, _]) (i := 0) (v := .slice none 0 0)).setCell (os1 := [_]) (i := 0) (v := .int .i64 0)).setCell (os1 := []) (i := 0) (v := .int .i64 300)
      go_wp2_with fail
      refine leave0 rfl (results_ccc rfl _ _ (w.heap.size + 1) (w.heap.size + 1 + 1) (w.heap.size + 1 + 1 + 1) (.slice none 0 0) (.int .i64 0) (.int .i64 300) rfl rfl rfl (cellF (j := 0) (h3.at_ 2 rfl) rfl).1 (cellF (j := 0) (h3.at_ 1 rfl) rfl).1 (cellF (j := 0) (h3.at_ 0 rfl) rfl).1) ⟨_, rfl, lists_nil _, h3.below⟩
    | false =>
      rw [hst, if_neg (by decide)] at hr
      simp only [Int.toNat_natCast] at hr
      rw [hst] at c3 h2
      have hpk2 : p + k ≤ 4096 := Nat.le_trans hpk hok.many
      have hw1 : IntKind.i64.wrap ((p : Int) + (k : Int)) = ((p + k : Nat) : Int) := by rw [IntKind.wrap_i64]; omega
      have h3 := h2.setCell (os1 := [_]) (i := 0) (v := .int .i64 (p : Int))
      have HR2 := Lib.hid hr
      clear HR hr
      go_upto_region 6 with fail
      clear h2 x6 xf6 x7 xf7 x8 xf8 c0 c1 c2 c3
      generalize World.setCell _ _ _ = W3 at h3 ⊢
      obtain ⟨c0, c1, c2, c3⟩ := (h3.is 0 rfl : IsCells _ _ _).c4
      go_wp2_with fail
      refine (batches_any _ b n q d.left d.tear false p (p + k)).mono ?_
      rintro en w4 ⟨rfl, rfl⟩
      have h4 := ((((h3.perm (List.Perm.refl _)).alloc (.cells #[.slice b n q, .int .i64 d.left, .int .i64 d.tear, .bool false] 24)).shut.alloc (.cells #[.int .i64 p] 3)).shut.alloc (.cells #[.int .i64 ((p + k : Nat) : Int)] 3)).shut
      simp only [al_size] at h4
      have h5 := h4.put (Mono.sees W3.heap.size (W3.heap.size + 1) (W3.heap.size + 1 + 1) b n q d.left d.tear d.stopped p (p + k) d.sec) ⟨by rw [hst]; exact h4.get 2 rfl, (h4.get 1 rfl : IsCells _ _ _) 0 _ rfl, (h4.get 0 rfl : IsCells _ _ _) 0 _ rfl, h4.get 5 rfl⟩
      have h6 := h5.facts (fs' := [Sees W3.heap.size (W3.heap.size + 1) (W3.heap.size + 1 + 1) b n q d.left d.tear d.stopped p (p + k) d.sec]) (fun P hP => by simp only [List.mem_cons, List.not_mem_nil, or_false] at hP ⊢; subst hP; simp)
      clear h3 h4 h5 c0 c1 c2 c3
      generalize World.alloc (World.alloc (World.alloc W3 _) _) _ = W4 at h6 ⊢
      generalize W3.heap.size = gd at h6 ⊢
      generalize w.heap.size + 1 + 1 + 1 = g8 at h6 ⊢
      generalize w.heap.size + 1 + 1 = g7 at h6 ⊢
      generalize w.heap.size + 1 = g6 at h6 ⊢
      go_wp2_with fail
      refine wp_range rfl (enters_of Try.func69 (by kernel_rfl) rfl) fun fn => ?_
      have h7 := (h6.alloc (.deferred (some [])))
      generalize hrc : recOf fn _ _ _ _ _ = rc
      have h8 := h7.alloc (.loop (rc .ready none))
      rw [al_size] at h8
      obtain ⟨l, hl⟩ : ∃ l, W4.heap.size + 1 = l := ⟨_, rfl⟩
      obtain ⟨D, hD⟩ : ∃ D, W4.heap.size = D := ⟨_, rfl⟩
      rw [hl, hD] at h8
      rw [hl, hD]
      clear h6 h7
      have HRC := Lib.hid hrc
      have HLD := Lib.hid (And.intro hl hD)
      clear hrc hl hD
      show CallsIn Fence.wide 0 _ _ #[.func (.yield l) #[] #[], .pointer (some ⟨gd + 1, 0, none⟩), .pointer (some ⟨gd + 1 + 1, 0, none⟩), .pointer (some ⟨gd, 0, none⟩)] _ _
      refine (iter_in d hok gd (gd + 1) (gd + 1 + 1) l b n q p (p + k) (by omega) (by have := HN.out; omega) HN.out hpk
        (fun acc pp W => ∃ (N : Nat) (xs : List Value) (oo : List (Nat × Obj)) (vb : Option Addr) (vq : Nat), acc.length = N ∧ N ≤ pp * 524416 ∧ pp ≤ p + k ∧ OwnP 42 1 (.slice vb N vq) N xs oo ∧ St w W (oo ++ [(l, .loop (rc .ready none)), (D, .deferred (some [])), (g8, .cells #[.int .i64 0] 27 (0, 0)), (g7, .cells #[.int .i64 pp] 3 (0, 0)), (g6, .cells #[.slice vb N vq] 22 (0, 0))]) [(fun x => Elems 1 rdB (mask S x) xs acc), Sees gd (gd + 1) (gd + 1 + 1) b n q d.left d.tear d.stopped p (p + k) d.sec])
        (fun cc W => St w W [(l, .loop (rc .done (some .ret))), (D, .deferred (some [])), (g8, .cells #[.int .i64 cc] 27 (0, 0)), (g7, .cells #[.int .i64 0] 3 (0, 0)), (g6, .cells #[.slice none 0 0] 22 (0, 0))] []) ?_ ?_ ?_ _ ?_).mono ?_
      · rintro acc pp A B ⟨N, xs, oo, vb, vq, e1, e2, e3, e4, e5⟩ hb
        exact ⟨N, xs, oo, vb, vq, e1, e2, e3, e4, e5.call hb⟩
      · rintro acc pp A ⟨N, xs, oo, vb, vq, e1, e2, e3, e4, e5⟩
        exact e5.is 1 rfl
      · rintro acc pp A0 A mm rs cc rv g ⟨N, xs, oo, vb, vq, e1, e2, e3, e4, e5⟩ hb hpp hbt hlr hgA hg6
        refine yield_two fun R0 HT HF => ?_
        have hst := e5.call hb
        have hrl := hlr _ (e5.orLt hS)
        obtain ⟨xs2, hrow2, hel2⟩ := elems_of hrl
        obtain ⟨N2, hN2⟩ : ∃ x, rs.length = x := ⟨_, rfl⟩
        rw [hN2] at hrow2
        obtain ⟨rb, rq, rfl, -⟩ := id hrow2
        have h9 := ((hst.put (Mono.cells g _) (cells_off hg6 (notin_of e5.lt hgA))).put (Mono.elemsOff (S := S) xs2 rs) (hel2.sub rdB_up mask_or2)).put (Mono.row 1 _ _ _) (hrow2.sub (mask_or2.trans (mask_is S _)))
        have hl9 := h9.find (g := l) (o := .loop (rc .ready none)) (by simp)
        have HBT := Lib.hid hbt
        have HE := Lib.hid (And.intro e1 hN2)
        have h10 := (h9.alloc (.cells #[.int .i64 pp, .int .i64 mm, .slice rb N2 rq, .int .i64 cc] 101)).shut
        have hl10 := h10.find (g := l) (o := .loop (rc .ready none)) (by simp)
        have h11 := St.putObj (os1 := oo) (o' := .loop (rc .busy none)) h10
        obtain ⟨W11, hW11⟩ : ∃ x, World.putObj (A.alloc (.cells #[.int .i64 pp, .int .i64 mm, .slice rb N2 rq, .int .i64 cc] 101 (0, 0))) l (.loop (rc .busy none)) = x := ⟨_, rfl⟩
        obtain ⟨g9, hg9⟩ : ∃ x, A.heap.size = x := ⟨_, rfl⟩
        rw [hW11, hg9] at h11
        have hnd := h11.nodup
        simp only [keys, List.map_append, List.map_cons, List.map_nil, List.nodup_append, List.nodup_cons, List.mem_cons, List.not_mem_nil, or_false, not_or] at hnd
        obtain ⟨-, ⟨-, -, ⟨n87, n86⟩, n76, -⟩, -⟩ := hnd
        have n78 := Ne.symm n87
        have n68 := Ne.symm n86
        have n67 := Ne.symm n76
        have hone2 := elems_one hel2
        have hlt := e5.lt
        have hszA := hb.size
        have n96 : g9 ≠ g6 := by have := hlt g6 (by simp [keys]); omega
        have n97 : g9 ≠ g7 := by have := hlt g7 (by simp [keys]); omega
        have n98 : g9 ≠ g8 := by have := hlt g8 (by simp [keys]); omega
        have n69 := Ne.symm n96
        have n79 := Ne.symm n97
        have n89 := Ne.symm n98
        clear h10 hst hlr hrl hrow2 hel2 hg6 e5 hb hbt e1 hN2 hlt hszA
        obtain ⟨t0, t1, t2, t3⟩ := (h11.is 0 rfl : IsCells _ _ _).c4
        obtain ⟨x6, xf6⟩ := cellF (j := 0) (h11.find (g := g6) (o := .cells #[.slice vb N vq] 22 (0, 0)) (by simp)) rfl
        obtain ⟨x7, xf7⟩ := cellF (j := 0) (h11.find (g := g7) (o := .cells #[.int .i64 pp] 3 (0, 0)) (by simp)) rfl
        obtain ⟨x8, xf8⟩ := cellF (j := 0) (h11.find (g := g8) (o := .cells #[.int .i64 0] 27 (0, 0)) (by simp)) rfl
        refine round_told HRC.out hl9 rfl ?_
        simp only [btV]
        clear hl9 h9
        by_cases hcc : cc = 0
        · subst hcc
          have hbd := batch_bd HBT.out hpp
          have hbl := batch_len HBT.out
          rw [HE.out.2] at hbl
          have hmany := hok.many
          have hNb : N ≤ 2148007936 := by omega
          have hN2b : N2 ≤ 524288 := by omega
          have hwm : IntKind.i64.wrap ((pp : Int) + (mm : Int)) = ((pp + mm : Nat) : Int) := by rw [IntKind.wrap_i64]; omega
          gi_wp2_with (gi_at_builtin; go_loud (refine wpListIn_append_any' rfl (.tmp 30) (.tmp 32) 22 22 rfl w.heap.size 42 (.slice none 0 0) 1 24 Try.underlying22 slice_info rfl _ N xs rfl (e4.owns h11) _ N2 xs2 rfl (Src.row Try.underlying22 (h11.is 1 rfl : IsRow _ _ _ _ _) hone2) (by omega) (by unfold maxLen; omega) h11.size ?_); intro v' w' r1 r2 r3; obtain ⟨oo2, k12, h12⟩ := e4.append h11 r1 r2 r3; obtain ⟨vb2, vq2, rfl⟩ := own_slice r1; obtain ⟨s0, s1, s2, s3⟩ := (h12.is 0 rfl : IsCells _ _ _).c4; obtain ⟨y6, yf6⟩ := cellF (j := 0) (h12.find (g := g6) (o := .cells #[.slice vb N vq] 22 (0, 0)) (by simp)) rfl; obtain ⟨y7, yf7⟩ := cellF (j := 0) (h12.find (g := g7) (o := .cells #[.int .i64 pp] 3 (0, 0)) (by simp)) rfl)
          have h13 := St.setCell (os1 := oo2 ++ [(l, .loop (rc .busy none)), (D, .deferred (some [])), (g8, .cells #[.int .i64 0] 27 (0, 0)), (g7, .cells #[.int .i64 pp] 3 (0, 0))]) (os2 := []) (i := 0) (v := .slice vb2 (N + N2) vq2) (by rw [List.append_assoc]; exact h12)
          rw [List.append_assoc] at h13
          have h14 := St.setCell (os1 := oo2 ++ [(l, .loop (rc .busy none)), (D, .deferred (some [])), (g8, .cells #[.int .i64 0] 27 (0, 0))]) (os2 := [_]) (i := 0) (v := .int .i64 ((pp : Int) + (mm : Int))) (by rw [List.append_assoc]; exact h13)
          rw [List.append_assoc] at h14
          have h15 := St.putObj (os1 := oo2) (o' := .loop (rc .ready none)) h14
          have h16 := h15.put (Mono.elemsOff (S := S) _ _) (Elems.append (h15.get 4 rfl) (h15.get 2 rfl))
          refine ⟨h14.find (by simp), HT.out _ ⟨trivial, ⟨N + N2, _, oo2, vb2, vq2, by rw [List.length_append, HE.out.1, HE.out.2], by omega, by omega, k12, ?_⟩, h15.is 3 rfl⟩⟩
          exact h16.facts (fun P hP => by simp only [List.mem_cons, List.not_mem_nil, or_false] at hP ⊢; rcases hP with rfl | rfl <;> simp)
        · have hcc' := bne_of hcc
          gi_wp2
          have h12 := h11.drew
          clear t0 t1 t2 t3 x6 x7 x8 xf6 xf7 xf8
          obtain ⟨t0, t1, t2, t3⟩ := (h12.is 0 rfl : IsCells _ _ _).c4
          obtain ⟨x6, xf6⟩ := cellF (j := 0) (h12.find (g := g6) (o := .cells #[.slice vb N vq] 22 (0, 0)) (by simp)) rfl
          obtain ⟨x7, xf7⟩ := cellF (j := 0) (h12.find (g := g7) (o := .cells #[.int .i64 pp] 3 (0, 0)) (by simp)) rfl
          obtain ⟨x8, xf8⟩ := cellF (j := 0) (h12.find (g := g8) (o := .cells #[.int .i64 0] 27 (0, 0)) (by simp)) rfl
          have h13 := St.setCell (os1 := oo ++ [(l, .loop (rc .busy none)), (D, .deferred (some [])), (g8, .cells #[.int .i64 0] 27 (0, 0)), (g7, .cells #[.int .i64 pp] 3 (0, 0))]) (os2 := []) (i := 0) (v := .slice none 0 0) (by rw [List.append_assoc]; exact h12)
          rw [List.append_assoc] at h13
          have h14 := St.setCell (os1 := oo ++ [(l, .loop (rc .busy none)), (D, .deferred (some [])), (g8, .cells #[.int .i64 0] 27 (0, 0))]) (os2 := [_]) (i := 0) (v := .int .i64 0) (by rw [List.append_assoc]; exact h13)
          rw [List.append_assoc] at h14
          obtain ⟨q0, q1, q2, q3⟩ := (h13.is 0 rfl : IsCells _ _ _).c4
          obtain ⟨r0, r1, r2, r3⟩ := (h14.is 0 rfl : IsCells _ _ _).c4
          obtain ⟨y7, yf7⟩ := cellF (j := 0) (h13.find (g := g7) (o := .cells #[.int .i64 pp] 3 (0, 0)) (by simp)) rfl
          obtain ⟨z8, zf8⟩ := cellF (j := 0) (h14.find (g := g8) (o := .cells #[.int .i64 0] 27 (0, 0)) (by simp)) rfl
          have h15 := St.setCell (os1 := oo ++ [(l, .loop (rc .busy none)), (D, .deferred (some []))]) (os2 := [_, _]) (i := 0) (v := .int .i64 cc) (by rw [List.append_assoc]; exact h14)
          rw [List.append_assoc] at h15
          have h16 := St.putObj (os1 := oo) (o' := .loop (rc .done (some .ret))) h15
          have hx := (St.dropL h16).facts (fs' := []) (fun P hP => by cases hP)
          clear h13 h14 h16
          have hbusy := h15.find (g := l) (o := .loop (rc .busy none)) (by simp)
          have HXX := Lib.hid (And.intro hbusy (And.intro hcc hx))
          clear h15 hx hbusy hcc HRC HLD HBT HE HR2 HN hone2 h11 h12 hl10 hW11 hg9 e4 hpp hgA hok hf hm hft hpk hpk2 hw1 hk1 e2 e3 r0 r1 r2 q0 q1 q2 t0 t1 t2
          refine wpIn_region_any (by kernel_rfl) ?_
          change wpAnyIn _ _ _ _ _ _ _ _ _ (World.drew _)
          generalize World.drew W11 = W12 at *
          refine wpAnyIn_ready (rs := [0, 2]) (by kernel_rfl) (by decide) ?_
          refine allIn_val (u := .pointer (some ⟨g9, 3, none⟩)) (w' := W12) rfl rfl (by simp [Oper.about]) (fun c h => by cases h) (by go_simp) ?_ (allIn_skip (w' := (W12.setCell ⟨g6, 0, none⟩ (.slice none 0 0))) rfl rfl (by simp [Oper.about]) (fun c h => by cases h) (by go_simp) ?_ AllReadyIn.nil)
          · simp only [Act.put, List.getElem_toArray, List.getElem_cons_succ, List.getElem_cons_zero, List.setIfInBounds_toArray, List.set_cons_zero, List.set_cons_succ]
            refine wpAnyIn_ready (rs := [1, 2]) (by kernel_rfl) (by decide) ?_
            refine allIn_val (u := .int .i64 cc) (w' := W12) rfl rfl (by simp [Oper.about]) (fun c h => by cases h) (by go_simp) ?_ (allIn_skip (w' := (W12.setCell ⟨g6, 0, none⟩ (.slice none 0 0))) rfl rfl (by simp [Oper.about]) (fun c h => by cases h) (by go_simp) ?_ AllReadyIn.nil)
            · simp only [Act.put, List.getElem_toArray, List.getElem_cons_succ, List.getElem_cons_zero, List.setIfInBounds_toArray, List.set_cons_zero, List.set_cons_succ]
              refine wpAnyIn_ready (rs := [2]) (by kernel_rfl) (by decide) ?_
              refine allIn_skip (w' := (W12.setCell ⟨g6, 0, none⟩ (.slice none 0 0))) rfl rfl (by simp [Oper.about]) (fun c h => by cases h) (by go_simp) ?_ AllReadyIn.nil
              simp only [Act.put, List.getElem_toArray, List.getElem_cons_succ, List.getElem_cons_zero, List.setIfInBounds_toArray, List.set_cons_zero, List.set_cons_succ]
              refine wpAnyIn_ready (rs := [3]) (by kernel_rfl) (by decide) ?_
              refine allIn_skip (w' := ((W12.setCell ⟨g6, 0, none⟩ (.slice none 0 0)).setCell ⟨g7, 0, none⟩ (.int .i64 0))) rfl rfl (by simp [Oper.about]) (fun c h => by cases h) (by go_simp) ?_ AllReadyIn.nil
              simp only [Act.put, List.getElem_toArray, List.getElem_cons_succ, List.getElem_cons_zero, List.setIfInBounds_toArray, List.set_cons_zero, List.set_cons_succ]
              refine wpAnyIn_ready (rs := [4]) (by kernel_rfl) (by decide) ?_
              refine allIn_skip (w' := (((W12.setCell ⟨g6, 0, none⟩ (.slice none 0 0)).setCell ⟨g7, 0, none⟩ (.int .i64 0)).setCell ⟨g8, 0, none⟩ (.int .i64 cc))) rfl rfl (by simp [Oper.about]) (fun c h => by cases h) (by go_simp) ?_ AllReadyIn.nil
              simp only [Act.put, List.getElem_toArray, List.getElem_cons_succ, List.getElem_cons_zero, List.setIfInBounds_toArray, List.set_cons_zero, List.set_cons_succ]
              refine wpAnyIn_done (by kernel_rfl) ?_ _
              gi_wp2
              exact ⟨HXX.out.1, HF.out _ HXX.out.2⟩
            · simp only [Act.put, List.getElem_toArray, List.getElem_cons_succ, List.getElem_cons_zero, List.setIfInBounds_toArray, List.set_cons_zero, List.set_cons_succ]
              refine wpAnyIn_ready (rs := [1, 3]) (by kernel_rfl) (by decide) ?_
              refine allIn_val (u := .int .i64 cc) (w' := (W12.setCell ⟨g6, 0, none⟩ (.slice none 0 0))) rfl rfl (by simp [Oper.about]) (fun c h => by cases h) (by go_simp) ?_ (allIn_skip (w' := ((W12.setCell ⟨g6, 0, none⟩ (.slice none 0 0)).setCell ⟨g7, 0, none⟩ (.int .i64 0))) rfl rfl (by simp [Oper.about]) (fun c h => by cases h) (by go_simp) ?_ AllReadyIn.nil)
              · simp only [Act.put, List.getElem_toArray, List.getElem_cons_succ, List.getElem_cons_zero, List.setIfInBounds_toArray, List.set_cons_zero, List.set_cons_succ]
                refine wpAnyIn_ready (rs := [3]) (by kernel_rfl) (by decide) ?_
                refine allIn_skip (w' := ((W12.setCell ⟨g6, 0, none⟩ (.slice none 0 0)).setCell ⟨g7, 0, none⟩ (.int .i64 0))) rfl rfl (by simp [Oper.about]) (fun c h => by cases h) (by go_simp) ?_ AllReadyIn.nil
                simp only [Act.put, List.getElem_toArray, List.getElem_cons_succ, List.getElem_cons_zero, List.setIfInBounds_toArray, List.set_cons_zero, List.set_cons_succ]
                refine wpAnyIn_ready (rs := [4]) (by kernel_rfl) (by decide) ?_
                refine allIn_skip (w' := (((W12.setCell ⟨g6, 0, none⟩ (.slice none 0 0)).setCell ⟨g7, 0, none⟩ (.int .i64 0)).setCell ⟨g8, 0, none⟩ (.int .i64 cc))) rfl rfl (by simp [Oper.about]) (fun c h => by cases h) (by go_simp) ?_ AllReadyIn.nil
                simp only [Act.put, List.getElem_toArray, List.getElem_cons_succ, List.getElem_cons_zero, List.setIfInBounds_toArray, List.set_cons_zero, List.set_cons_succ]
                refine wpAnyIn_done (by kernel_rfl) ?_ _
                gi_wp2
                exact ⟨HXX.out.1, HF.out _ HXX.out.2⟩
              · simp only [Act.put, List.getElem_toArray, List.getElem_cons_succ, List.getElem_cons_zero, List.setIfInBounds_toArray, List.set_cons_zero, List.set_cons_succ]
                refine wpAnyIn_ready (rs := [1]) (by kernel_rfl) (by decide) ?_
                refine allIn_val (u := .int .i64 cc) (w' := ((W12.setCell ⟨g6, 0, none⟩ (.slice none 0 0)).setCell ⟨g7, 0, none⟩ (.int .i64 0))) rfl rfl (by simp [Oper.about]) (fun c h => by cases h) (by go_simp) ?_ AllReadyIn.nil
                simp only [Act.put, List.getElem_toArray, List.getElem_cons_succ, List.getElem_cons_zero, List.setIfInBounds_toArray, List.set_cons_zero, List.set_cons_succ]
                refine wpAnyIn_ready (rs := [4]) (by kernel_rfl) (by decide) ?_
                refine allIn_skip (w' := (((W12.setCell ⟨g6, 0, none⟩ (.slice none 0 0)).setCell ⟨g7, 0, none⟩ (.int .i64 0)).setCell ⟨g8, 0, none⟩ (.int .i64 cc))) rfl rfl (by simp [Oper.about]) (fun c h => by cases h) (by go_simp) ?_ AllReadyIn.nil
                simp only [Act.put, List.getElem_toArray, List.getElem_cons_succ, List.getElem_cons_zero, List.setIfInBounds_toArray, List.set_cons_zero, List.set_cons_succ]
                refine wpAnyIn_done (by kernel_rfl) ?_ _
                gi_wp2
                exact ⟨HXX.out.1, HF.out _ HXX.out.2⟩
          · simp only [Act.put, List.getElem_toArray, List.getElem_cons_succ, List.getElem_cons_zero, List.setIfInBounds_toArray, List.set_cons_zero, List.set_cons_succ]
            refine wpAnyIn_ready (rs := [0, 3]) (by kernel_rfl) (by decide) ?_
            refine allIn_val (u := .pointer (some ⟨g9, 3, none⟩)) (w' := (W12.setCell ⟨g6, 0, none⟩ (.slice none 0 0))) rfl rfl (by simp [Oper.about]) (fun c h => by cases h) (by go_simp) ?_ (allIn_skip (w' := ((W12.setCell ⟨g6, 0, none⟩ (.slice none 0 0)).setCell ⟨g7, 0, none⟩ (.int .i64 0))) rfl rfl (by simp [Oper.about]) (fun c h => by cases h) (by go_simp) ?_ AllReadyIn.nil)
            · simp only [Act.put, List.getElem_toArray, List.getElem_cons_succ, List.getElem_cons_zero, List.setIfInBounds_toArray, List.set_cons_zero, List.set_cons_succ]
              refine wpAnyIn_ready (rs := [1, 3]) (by kernel_rfl) (by decide) ?_
              refine allIn_val (u := .int .i64 cc) (w' := (W12.setCell ⟨g6, 0, none⟩ (.slice none 0 0))) rfl rfl (by simp [Oper.about]) (fun c h => by cases h) (by go_simp) ?_ (allIn_skip (w' := ((W12.setCell ⟨g6, 0, none⟩ (.slice none 0 0)).setCell ⟨g7, 0, none⟩ (.int .i64 0))) rfl rfl (by simp [Oper.about]) (fun c h => by cases h) (by go_simp) ?_ AllReadyIn.nil)
              · simp only [Act.put, List.getElem_toArray, List.getElem_cons_succ, List.getElem_cons_zero, List.setIfInBounds_toArray, List.set_cons_zero, List.set_cons_succ]
                refine wpAnyIn_ready (rs := [3]) (by kernel_rfl) (by decide) ?_
                refine allIn_skip (w' := ((W12.setCell ⟨g6, 0, none⟩ (.slice none 0 0)).setCell ⟨g7, 0, none⟩ (.int .i64 0))) rfl rfl (by simp [Oper.about]) (fun c h => by cases h) (by go_simp) ?_ AllReadyIn.nil
                simp only [Act.put, List.getElem_toArray, List.getElem_cons_succ, List.getElem_cons_zero, List.setIfInBounds_toArray, List.set_cons_zero, List.set_cons_succ]
                refine wpAnyIn_ready (rs := [4]) (by kernel_rfl) (by decide) ?_
                refine allIn_skip (w' := (((W12.setCell ⟨g6, 0, none⟩ (.slice none 0 0)).setCell ⟨g7, 0, none⟩ (.int .i64 0)).setCell ⟨g8, 0, none⟩ (.int .i64 cc))) rfl rfl (by simp [Oper.about]) (fun c h => by cases h) (by go_simp) ?_ AllReadyIn.nil
                simp only [Act.put, List.getElem_toArray, List.getElem_cons_succ, List.getElem_cons_zero, List.setIfInBounds_toArray, List.set_cons_zero, List.set_cons_succ]
                refine wpAnyIn_done (by kernel_rfl) ?_ _
                gi_wp2
                exact ⟨HXX.out.1, HF.out _ HXX.out.2⟩
              · simp only [Act.put, List.getElem_toArray, List.getElem_cons_succ, List.getElem_cons_zero, List.setIfInBounds_toArray, List.set_cons_zero, List.set_cons_succ]
                refine wpAnyIn_ready (rs := [1]) (by kernel_rfl) (by decide) ?_
                refine allIn_val (u := .int .i64 cc) (w' := ((W12.setCell ⟨g6, 0, none⟩ (.slice none 0 0)).setCell ⟨g7, 0, none⟩ (.int .i64 0))) rfl rfl (by simp [Oper.about]) (fun c h => by cases h) (by go_simp) ?_ AllReadyIn.nil
                simp only [Act.put, List.getElem_toArray, List.getElem_cons_succ, List.getElem_cons_zero, List.setIfInBounds_toArray, List.set_cons_zero, List.set_cons_succ]
                refine wpAnyIn_ready (rs := [4]) (by kernel_rfl) (by decide) ?_
                refine allIn_skip (w' := (((W12.setCell ⟨g6, 0, none⟩ (.slice none 0 0)).setCell ⟨g7, 0, none⟩ (.int .i64 0)).setCell ⟨g8, 0, none⟩ (.int .i64 cc))) rfl rfl (by simp [Oper.about]) (fun c h => by cases h) (by go_simp) ?_ AllReadyIn.nil
                simp only [Act.put, List.getElem_toArray, List.getElem_cons_succ, List.getElem_cons_zero, List.setIfInBounds_toArray, List.set_cons_zero, List.set_cons_succ]
                refine wpAnyIn_done (by kernel_rfl) ?_ _
                gi_wp2
                exact ⟨HXX.out.1, HF.out _ HXX.out.2⟩
            · simp only [Act.put, List.getElem_toArray, List.getElem_cons_succ, List.getElem_cons_zero, List.setIfInBounds_toArray, List.set_cons_zero, List.set_cons_succ]
              refine wpAnyIn_ready (rs := [0]) (by kernel_rfl) (by decide) ?_
              refine allIn_val (u := .pointer (some ⟨g9, 3, none⟩)) (w' := ((W12.setCell ⟨g6, 0, none⟩ (.slice none 0 0)).setCell ⟨g7, 0, none⟩ (.int .i64 0))) rfl rfl (by simp [Oper.about]) (fun c h => by cases h) (by go_simp) ?_ AllReadyIn.nil
              simp only [Act.put, List.getElem_toArray, List.getElem_cons_succ, List.getElem_cons_zero, List.setIfInBounds_toArray, List.set_cons_zero, List.set_cons_succ]
              refine wpAnyIn_ready (rs := [1]) (by kernel_rfl) (by decide) ?_
              refine allIn_val (u := .int .i64 cc) (w' := ((W12.setCell ⟨g6, 0, none⟩ (.slice none 0 0)).setCell ⟨g7, 0, none⟩ (.int .i64 0))) rfl rfl (by simp [Oper.about]) (fun c h => by cases h) (by go_simp) ?_ AllReadyIn.nil
              simp only [Act.put, List.getElem_toArray, List.getElem_cons_succ, List.getElem_cons_zero, List.setIfInBounds_toArray, List.set_cons_zero, List.set_cons_succ]
              refine wpAnyIn_ready (rs := [4]) (by kernel_rfl) (by decide) ?_
              refine allIn_skip (w' := (((W12.setCell ⟨g6, 0, none⟩ (.slice none 0 0)).setCell ⟨g7, 0, none⟩ (.int .i64 0)).setCell ⟨g8, 0, none⟩ (.int .i64 cc))) rfl rfl (by simp [Oper.about]) (fun c h => by cases h) (by go_simp) ?_ AllReadyIn.nil
              simp only [Act.put, List.getElem_toArray, List.getElem_cons_succ, List.getElem_cons_zero, List.setIfInBounds_toArray, List.set_cons_zero, List.set_cons_succ]
              refine wpAnyIn_done (by kernel_rfl) ?_ _
              gi_wp2
              exact ⟨HXX.out.1, HF.out _ HXX.out.2⟩
      · exact ⟨0, [], [], none, 0, rfl, by omega, by omega, ⟨by simp, .inl ⟨rfl, rfl, rfl⟩⟩, h8.put (Mono.elemsOff (S := S) _ _) Elems.nil⟩
      · rintro en w9 ⟨⟨v9, rfl⟩, ⟨acc, pp, hsc, N, xs, oo, vb, vq, e1, e2, e3, e4, e5⟩ | ⟨cc, hcc, hsc, e5⟩⟩
        · refine ⟨⟨_, rfl⟩, .inl ⟨e5.find (by simp), ?_⟩⟩
          rename_i Q_ K_ hK_
          have hp0 : p + k - p = k := by omega
          rw [hp0] at hsc
          have hfin := HR2.out.symm.trans hsc
          clear hsc HR2
          cases hfin
          have h11 := (St.putObj (os1 := oo) (o' := .loop (rc .exhausted none)) e5).drew
          have hnd := h11.nodup
          simp only [keys, List.map_append, List.map_cons, List.map_nil, List.nodup_append, List.nodup_cons, List.mem_cons, List.not_mem_nil, or_false, not_or] at hnd
          obtain ⟨-, ⟨-, ⟨d8, d7, d6⟩, ⟨n87, n86⟩, n76, -⟩, -⟩ := hnd
          have n78 := Ne.symm n87
          have n68 := Ne.symm n86
          have n67 := Ne.symm n76
          obtain ⟨x6, xf6⟩ := cellF (j := 0) (h11.find (g := g6) (o := .cells #[.slice vb N vq] 22 (0, 0)) (by simp)) rfl
          obtain ⟨x7, xf7⟩ := cellF (j := 0) (h11.find (g := g7) (o := .cells #[.int .i64 E] 3 (0, 0)) (by simp)) rfl
          obtain ⟨x8, xf8⟩ := cellF (j := 0) (h11.find (g := g8) (o := .cells #[.int .i64 0] 27 (0, 0)) (by simp)) rfl
          have h13 := St.setCell (os1 := oo ++ [(l, .loop (rc .exhausted none)), (D, .deferred (some [])), (g8, .cells #[.int .i64 0] 27 (0, 0)), (g7, .cells #[.int .i64 E] 3 (0, 0))]) (os2 := []) (i := 0) (v := .slice vb N vq) (by rw [List.append_assoc]; exact h11)
          rw [List.append_assoc] at h13
          obtain ⟨y7, yf7⟩ := cellF (j := 0) (h13.find (g := g7) (o := .cells #[.int .i64 E] 3 (0, 0)) (by simp)) rfl
          obtain ⟨y8, yf8⟩ := cellF (j := 0) (h13.find (g := g8) (o := .cells #[.int .i64 0] 27 (0, 0)) (by simp)) rfl
          have h14 := St.setCell (os1 := oo ++ [(l, .loop (rc .exhausted none)), (D, .deferred (some [])), (g8, .cells #[.int .i64 0] 27 (0, 0))]) (os2 := [_]) (i := 0) (v := .int .i64 E) (by rw [List.append_assoc]; exact h13)
          rw [List.append_assoc] at h14
          obtain ⟨z8, zf8⟩ := cellF (j := 0) (h14.find (g := g8) (o := .cells #[.int .i64 0] 27 (0, 0)) (by simp)) rfl
          have h15 := St.setCell (os1 := oo ++ [(l, .loop (rc .exhausted none)), (D, .deferred (some []))]) (os2 := [_, _]) (i := 0) (v := .int .i64 0) (by rw [List.append_assoc]; exact h14)
          rw [List.append_assoc] at h15
          have hK := h15.find (g := D) (o := .deferred (some [])) (by simp)
          have h16 := St.putObj (os1 := oo ++ [(l, .loop (rc .exhausted none))]) (o' := .deferred none) (by rw [List.append_assoc]; exact h15)
          rw [List.append_assoc] at h16
          have hrow := e4.owns h16
          have hgeq := fun kk hk => (World.ownsRow.lt hrow kk hk).1
          have h17 := e4.done h16
          have hls : IsLists (mask S _) (.slice vb N vq) RS := lists_of (mask_row (h17.is 0 rfl : IsRow _ _ _ _ _) fun kk hk => by
            cases hq : S kk with
            | false => rfl
            | true => have := hS kk hq; have := hgeq kk hk; omega) (h17.is 1 rfl) e1.symm
          have HEND := Lib.hid (And.intro hK (And.intro (cellF (j := 0) (h16.find (g := g6) (o := .cells #[.slice vb N vq] 22 (0, 0)) (by simp)) rfl).1 (And.intro (cellF (j := 0) (h16.find (g := g7) (o := .cells #[.int .i64 E] 3 (0, 0)) (by simp)) rfl).1 (And.intro (cellF (j := 0) (h16.find (g := g8) (o := .cells #[.int .i64 0] 27 (0, 0)) (by simp)) rfl).1 (And.intro hls h17.below)))))
          have HXF := Lib.hid (And.intro x7 (And.intro n76 n78))
          obtain ⟨W12, hW12⟩ : ∃ x, World.drew (w9.putObj l (.loop (rc .exhausted none))) = x := ⟨_, rfl⟩
          rw [hW12] at x6 xf6 x7 xf7 x8 xf8 y7 yf7 y8 yf8 z8 zf8 HEND
          show K_ _ _
          apply hK_
          clear h11 h13 h14 h15 h16 h17 hls hrow hgeq hK e4 e5 HXF HN hK_ HRC HLD h8 e2 e3 hpk hpk2 hw1 hft hok hf hm hk1
          apply (wpIn_wide (n := 0)).1
          refine wpIn_seq ?_
          refine wpIn_region_any (by kernel_rfl) ?_
          change wpAnyIn _ _ _ _ _ _ _ _ _ (World.drew _)
          rw [hW12]
          clear hW12
          refine wpAnyIn_ready (rs := [0, 1]) (by kernel_rfl) (by decide) ?_
          refine allIn_val (u := .slice vb N vq) (w' := W12) rfl rfl (by simp [Oper.about]) (fun c h => by cases h) (by go_simp) ?_ (allIn_val (u := .int .i64 E) (w' := W12) rfl rfl (by simp [Oper.about]) (fun c h => by cases h) (by go_simp) ?_ AllReadyIn.nil)
          · simp only [Act.put, List.getElem_toArray, List.getElem_cons_succ, List.getElem_cons_zero, List.setIfInBounds_toArray, List.set_cons_zero, List.set_cons_succ]
            refine wpAnyIn_ready (rs := [1, 2]) (by kernel_rfl) (by decide) ?_
            refine allIn_val (u := .int .i64 E) (w' := W12) rfl rfl (by simp [Oper.about]) (fun c h => by cases h) (by go_simp) ?_ (allIn_skip (w' := (W12.setCell ⟨g6, 0, none⟩ (.slice vb N vq))) rfl rfl (by simp [Oper.about]) (fun c h => by cases h) (by go_simp) ?_ AllReadyIn.nil)
            · simp only [Act.put, List.getElem_toArray, List.getElem_cons_succ, List.getElem_cons_zero, List.setIfInBounds_toArray, List.set_cons_zero, List.set_cons_succ]
              refine wpAnyIn_ready (rs := [2]) (by kernel_rfl) (by decide) ?_
              refine allIn_skip (w' := (W12.setCell ⟨g6, 0, none⟩ (.slice vb N vq))) rfl rfl (by simp [Oper.about]) (fun c h => by cases h) (by go_simp) ?_ AllReadyIn.nil
              simp only [Act.put, List.getElem_toArray, List.getElem_cons_succ, List.getElem_cons_zero, List.setIfInBounds_toArray, List.set_cons_zero, List.set_cons_succ]
              refine wpAnyIn_ready (rs := [3]) (by kernel_rfl) (by decide) ?_
              refine allIn_skip (w' := ((W12.setCell ⟨g6, 0, none⟩ (.slice vb N vq)).setCell ⟨g7, 0, none⟩ (.int .i64 E))) rfl rfl (by simp [Oper.about]) (fun c h => by cases h) (by go_simp) ?_ AllReadyIn.nil
              simp only [Act.put, List.getElem_toArray, List.getElem_cons_succ, List.getElem_cons_zero, List.setIfInBounds_toArray, List.set_cons_zero, List.set_cons_succ]
              refine wpAnyIn_ready (rs := [4]) (by kernel_rfl) (by decide) ?_
              refine allIn_skip (w' := (((W12.setCell ⟨g6, 0, none⟩ (.slice vb N vq)).setCell ⟨g7, 0, none⟩ (.int .i64 E)).setCell ⟨g8, 0, none⟩ (.int .i64 0))) rfl rfl (by simp [Oper.about]) (fun c h => by cases h) (by go_simp) ?_ AllReadyIn.nil
              simp only [Act.put, List.getElem_toArray, List.getElem_cons_succ, List.getElem_cons_zero, List.setIfInBounds_toArray, List.set_cons_zero, List.set_cons_succ]
              refine wpAnyIn_done (by kernel_rfl) ?_ _
              gi_wp2
              exact leave1 rfl HEND.out.1 (results_ccc rfl _ _ g6 g7 g8 _ _ _ rfl rfl rfl HEND.out.2.1 HEND.out.2.2.1 HEND.out.2.2.2.1) ⟨_, rfl, HEND.out.2.2.2.2.1, HEND.out.2.2.2.2.2⟩
            · simp only [Act.put, List.getElem_toArray, List.getElem_cons_succ, List.getElem_cons_zero, List.setIfInBounds_toArray, List.set_cons_zero, List.set_cons_succ]
              refine wpAnyIn_ready (rs := [1]) (by kernel_rfl) (by decide) ?_
              refine allIn_val (u := .int .i64 E) (w' := (W12.setCell ⟨g6, 0, none⟩ (.slice vb N vq))) rfl rfl (by simp [Oper.about]) (fun c h => by cases h) (by go_simp) ?_ AllReadyIn.nil
              simp only [Act.put, List.getElem_toArray, List.getElem_cons_succ, List.getElem_cons_zero, List.setIfInBounds_toArray, List.set_cons_zero, List.set_cons_succ]
              refine wpAnyIn_ready (rs := [3]) (by kernel_rfl) (by decide) ?_
              refine allIn_skip (w' := ((W12.setCell ⟨g6, 0, none⟩ (.slice vb N vq)).setCell ⟨g7, 0, none⟩ (.int .i64 E))) rfl rfl (by simp [Oper.about]) (fun c h => by cases h) (by go_simp) ?_ AllReadyIn.nil
              simp only [Act.put, List.getElem_toArray, List.getElem_cons_succ, List.getElem_cons_zero, List.setIfInBounds_toArray, List.set_cons_zero, List.set_cons_succ]
              refine wpAnyIn_ready (rs := [4]) (by kernel_rfl) (by decide) ?_
              refine allIn_skip (w' := (((W12.setCell ⟨g6, 0, none⟩ (.slice vb N vq)).setCell ⟨g7, 0, none⟩ (.int .i64 E)).setCell ⟨g8, 0, none⟩ (.int .i64 0))) rfl rfl (by simp [Oper.about]) (fun c h => by cases h) (by go_simp) ?_ AllReadyIn.nil
              simp only [Act.put, List.getElem_toArray, List.getElem_cons_succ, List.getElem_cons_zero, List.setIfInBounds_toArray, List.set_cons_zero, List.set_cons_succ]
              refine wpAnyIn_done (by kernel_rfl) ?_ _
              gi_wp2
              exact leave1 rfl HEND.out.1 (results_ccc rfl _ _ g6 g7 g8 _ _ _ rfl rfl rfl HEND.out.2.1 HEND.out.2.2.1 HEND.out.2.2.2.1) ⟨_, rfl, HEND.out.2.2.2.2.1, HEND.out.2.2.2.2.2⟩
          · simp only [Act.put, List.getElem_toArray, List.getElem_cons_succ, List.getElem_cons_zero, List.setIfInBounds_toArray, List.set_cons_zero, List.set_cons_succ]
            refine wpAnyIn_ready (rs := [0]) (by kernel_rfl) (by decide) ?_
            refine allIn_val (u := .slice vb N vq) (w' := W12) rfl rfl (by simp [Oper.about]) (fun c h => by cases h) (by go_simp) ?_ AllReadyIn.nil
            simp only [Act.put, List.getElem_toArray, List.getElem_cons_succ, List.getElem_cons_zero, List.setIfInBounds_toArray, List.set_cons_zero, List.set_cons_succ]
            refine wpAnyIn_ready (rs := [2]) (by kernel_rfl) (by decide) ?_
            refine allIn_skip (w' := (W12.setCell ⟨g6, 0, none⟩ (.slice vb N vq))) rfl rfl (by simp [Oper.about]) (fun c h => by cases h) (by go_simp) ?_ AllReadyIn.nil
            simp only [Act.put, List.getElem_toArray, List.getElem_cons_succ, List.getElem_cons_zero, List.setIfInBounds_toArray, List.set_cons_zero, List.set_cons_succ]
            refine wpAnyIn_ready (rs := [3]) (by kernel_rfl) (by decide) ?_
            refine allIn_skip (w' := ((W12.setCell ⟨g6, 0, none⟩ (.slice vb N vq)).setCell ⟨g7, 0, none⟩ (.int .i64 E))) rfl rfl (by simp [Oper.about]) (fun c h => by cases h) (by go_simp) ?_ AllReadyIn.nil
            simp only [Act.put, List.getElem_toArray, List.getElem_cons_succ, List.getElem_cons_zero, List.setIfInBounds_toArray, List.set_cons_zero, List.set_cons_succ]
            refine wpAnyIn_ready (rs := [4]) (by kernel_rfl) (by decide) ?_
            refine allIn_skip (w' := (((W12.setCell ⟨g6, 0, none⟩ (.slice vb N vq)).setCell ⟨g7, 0, none⟩ (.int .i64 E)).setCell ⟨g8, 0, none⟩ (.int .i64 0))) rfl rfl (by simp [Oper.about]) (fun c h => by cases h) (by go_simp) ?_ AllReadyIn.nil
            simp only [Act.put, List.getElem_toArray, List.getElem_cons_succ, List.getElem_cons_zero, List.setIfInBounds_toArray, List.set_cons_zero, List.set_cons_succ]
            refine wpAnyIn_done (by kernel_rfl) ?_ _
            gi_wp2
            exact leave1 rfl HEND.out.1 (results_ccc rfl _ _ g6 g7 g8 _ _ _ rfl rfl rfl HEND.out.2.1 HEND.out.2.2.1 HEND.out.2.2.2.1) ⟨_, rfl, HEND.out.2.2.2.2.1, HEND.out.2.2.2.2.2⟩
        · refine ⟨⟨_, rfl⟩, .inr ⟨e5.find (by simp), ?_⟩⟩
          have hp0 : p + k - p = k := by omega
          rw [hp0] at hsc
          have hfin := HR2.out.symm.trans hsc
          clear hsc HR2
          cases hfin
          have h11 := St.putObj (os1 := []) (o' := .loop (rc .exhausted (some .ret))) e5
          have hK := h11.find (g := D) (o := .deferred (some [])) (by simp)
          have h16 := St.putObj (os1 := [_]) (o' := .deferred none) h11
          go_wp2_with fail
          exact leave1 rfl hK (results_ccc rfl _ _ g6 g7 g8 (.slice none 0 0) (.int .i64 0) (.int .i64 C) rfl rfl rfl (cellF (j := 0) (h16.find (g := g6) (o := .cells #[.slice none 0 0] 22 (0, 0)) (by simp)) rfl).1 (cellF (j := 0) (h16.find (g := g7) (o := .cells #[.int .i64 0] 3 (0, 0)) (by simp)) rfl).1 (cellF (j := 0) (h16.find (g := g8) (o := .cells #[.int .i64 C] 27 (0, 0)) (by simp)) rfl).1) ⟨_, rfl, lists_nil _, h16.below⟩
end Go.Proofs.Ytnfgapdpnihicaa
