/- append onto a slice that the call owns, or onto one that must grow, from a slice, a nil slice or a string: laws for the walk, over whatever program. -/
import Derived.Test.YtihohhjaomoemaaMem
namespace Go.Proofs.Ytihohhjaomoemaa
open Go.RowKit

/-- What an append reads: m elements, the cells news. -/
structure Src (P : Program) (size : Nat) (w : World) (t2 : TypeId) (x : Value) (m : Nat) (news : List Value) : Prop where
  desc : (∃ e2, P.underlying t2 = some (.slice e2)) ∨ P.underlying t2 = some .string
  len : ∀ w', (Builtin.lenOf x).run P w' = .ok m w'
  cells : (Builtin.firstCells size m x).run P w = .ok news.toArray w
  cells' : (Builtin.firstCells size m x).run P w.drew = .ok news.toArray w.drew
  many : news.length = m * size
  one : ∀ u ∈ news, u.oneCell' = true

theorem Src.row {P : Program} {size : Nat} {w : World} {t2 e2 : TypeId} {x : Value} {m : Nat} {news : List Value} (ht : P.underlying t2 = some (.slice e2)) (h : IsRow size w x m news) (h1 : ∀ u ∈ news, u.oneCell' = true) : Src P size w t2 x m news := by
  obtain ⟨base, cap, rfl, hx, hl, hm, hn, hc⟩ := h
  refine ⟨.inl ⟨_, ht⟩, fun w' => rfl, ?_, ?_, hx, h1⟩
  · cases base with
    | none =>
      have : news = [] := List.eq_nil_of_length_eq_zero (by rw [hx]; have := hn rfl; rw [show m = 0 from by omega]; simp)
      subst this
      exact run_firstCells_none _ _ _ _ _
    | some b =>
      refine run_firstCells_some _ _ _ _ _ _ _ hx fun j u hu => ?_
      obtain ⟨hj, hu'⟩ := List.getElem?_eq_some_iff.1 hu
      obtain ⟨b', off, e, hcell⟩ := hc j hj
      cases e
      rw [Addr.add_lit, hcell, hu']
  · cases base with
    | none =>
      have : news = [] := List.eq_nil_of_length_eq_zero (by rw [hx]; have := hn rfl; rw [show m = 0 from by omega]; simp)
      subst this
      exact run_firstCells_none _ _ _ _ _
    | some b =>
      refine run_firstCells_some _ _ _ _ _ _ _ hx fun j u hu => ?_
      obtain ⟨hj, hu'⟩ := List.getElem?_eq_some_iff.1 hu
      obtain ⟨b', off, e, hcell⟩ := hc j hj
      cases e
      rw [Addr.add_lit]
      show w.cell? _ = _
      rw [hcell, hu']

theorem Src.str {P : Program} {w : World} {t2 : TypeId} {s : ByteArray} (ht : P.underlying t2 = some .string) : Src P 1 w t2 (.string s) s.size (s.data.toList.map u8v) := by
  have h : ∀ w', (Builtin.firstCells 1 s.size (.string s)).run P w' = .ok (s.data.toList.map u8v).toArray w' := by
    intro w'
    simp only [Builtin.firstCells, Sem.run_pure]
    congr 1
    have e : s.extract 0 s.size = s := by simp
    rw [e]
    apply Array.ext'
    simp
  refine ⟨.inr ht, fun w' => rfl, h w, h w.drew, by simp, fun u hu => ?_⟩
  obtain ⟨b, _, rfl⟩ := List.mem_map.1 hu
  rfl

section
variable {P : Program} {w : World}

theorem run_append_grows (t ty t2 e : TypeId) (z : Value) (size bytes : Nat) (ht : P.underlying t = some (.slice e)) (hinfo : (P.info? e).map (fun i => (i.zero, i.size, i.bytes)) = some (some z, size, bytes)) (hzs : z.cells.size = size)
    (base : Option Addr) (n cap : Nat) (xs : List Value) (hs : IsRow size w (.slice base n cap) n xs) (x : Value) (m : Nat) (news : List Value) (hx : Src P size w t2 x m news)
    (hg : cap < n + m) (hbytes : (n + m) * bytes ≤ 140737488355328) (h63 : n + m ≤ maxLen) :
    ∃ v' w', (Builtin.append_ #[t, t2] ty #[.slice base n cap, x]).run P w = .ok v' w' ∧ w'.ownsRow w.heap.size e size v' (n + m) (xs ++ news) ∧ w.grownBy w' none ∧ w.heap.size < w'.heap.size := by
  obtain ⟨i, hi, hz, rfl, rfl⟩ := info_parts hinfo
  obtain ⟨hd, hlen, hcells, hcells', hmany, _⟩ := hx
  have hn : ¬ (n + m ≤ cap) := by omega
  have h63' : ¬ (9223372036854775807 < ((n : Int) + (m : Int))) := by simp only [maxLen] at h63; omega
  have h48' : ¬ (281474976710656 < Builtin.nextslicecap (n + m) cap * i.bytes) := by have := growslice_fits hg hbytes; omega
  obtain ⟨base', cap', hv, hxl, hl, hm', hnil, hc⟩ := hs
  simp only [Value.slice.injEq, true_and] at hv
  obtain ⟨rfl, rfl⟩ := hv
  have hold : (Builtin.firstCells i.size n (.slice base n cap)).run P w.drew = .ok xs.toArray w.drew := by
    cases base with
    | none =>
      have : xs = [] := List.eq_nil_of_length_eq_zero (by rw [hxl]; have := hnil rfl; rw [show n = 0 from by omega]; simp)
      subst this
      exact run_firstCells_none _ _ _ _ _
    | some b =>
      refine run_firstCells_some _ _ _ _ _ _ _ hxl fun j u hu => ?_
      obtain ⟨hj, hu'⟩ := List.getElem?_eq_some_iff.1 hu
      obtain ⟨b', off, e, hcell⟩ := hc j hj
      cases e
      rw [Addr.add_lit]
      show w.cell? _ = _
      rw [hcell, hu']
  have hge := grownCap_ge w (n + m) cap e
  have hcm := grownCap_le_maxLen w (n + m) cap e h63
  refine ⟨.slice (some ⟨w.heap.size, 0, none⟩) (n + m) (grownCap w (n + m) cap e), w.drew.alloc (.cells (xs.toArray ++ (news.toArray ++ Builtin.zeroCells z.cells (grownCap w (n + m) cap e - (n + m)))) e), ?_, ?_, ?_, by simp⟩
  · rcases hd with ⟨e2, hd⟩ | hd <;>
      (simp [Builtin.append_, run_underlying ht, run_underlying hd, sizeOf, typeInfo, zeroValue, hi, hz, hlen, hn, h63', h48', Question.forced, hold, hcells', newRow, grownCap])
  · have hlen' : (xs ++ news).length = (n + m) * i.size := by rw [List.length_append, hxl, hmany, Nat.add_mul]
    refine ⟨hlen', .inr ⟨w.heap.size, _, _, rfl, Nat.le_refl _, heap_alloc_new w.drew _, hge, hcm, ?_, ?_⟩⟩
    · simp only [Array.size_append, List.size_toArray, size_zeroCells, hzs, hxl, hmany, ← Nat.add_mul]
      congr 1
      omega
    · simp only [Array.toList_append]
      rw [← List.append_assoc, ← hlen']
      exact List.take_left
  · exact ⟨rfl, rfl, rfl, by simp, fun k hk _ => Below.heap_alloc w.drew _ k hk⟩

/-- An owned row reads as a row. -/
theorem ownsRow_isRow {base e size n : Nat} {v : Value} {xs : List Value} (h : w.ownsRow base e size v n xs) : IsRow size w v n xs := by
  obtain ⟨hx, hr⟩ := h
  rcases hr with ⟨rfl, rfl⟩ | ⟨g, cap, cur, rfl, hb, hg, hnc, hcm, hcs, htake⟩
  · have : xs = [] := List.eq_nil_of_length_eq_zero (by simpa using hx)
    subst this
    exact IsRow.nil size w
  · refine ⟨_, _, rfl, hx, hnc, hcm, (fun h => by cases h), fun i hi => ⟨g, 0, rfl, ?_⟩⟩
    rw [Nat.zero_add, cell_of_row w g i cur e (0, 0) hg, ← Array.getElem?_toList]
    have : (cur.toList.take (n * size))[i]? = some xs[i] := by rw [htake]; exact List.getElem?_eq_getElem hi
    rw [List.getElem?_take] at this
    split at this
    · exact this
    · cases this

theorem run_append_any (base : Nat) (t ty t2 e : TypeId) (z : Value) (size bytes : Nat) (ht : P.underlying t = some (.slice e)) (hinfo : (P.info? e).map (fun i => (i.zero, i.size, i.bytes)) = some (some z, size, bytes)) (hzs : z.cells.size = size)
    (v : Value) (n : Nat) (xs : List Value) (hown : w.ownsRow base e size v n xs) (x : Value) (m : Nat) (news : List Value) (hx : Src P size w t2 x m news)
    (hbytes : (n + m) * bytes ≤ 140737488355328) (h63 : n + m ≤ maxLen) (hbase : base ≤ w.heap.size) :
    ∃ v' w', (Builtin.append_ #[t, t2] ty #[v, x]).run P w = .ok v' w' ∧ w'.ownsRow base e size v' (n + m) (xs ++ news) ∧ w.grownBy w' v.ownBlock := by
  have hrow := ownsRow_isRow hown
  obtain ⟨bs, cap, rfl, _⟩ := hrow
  by_cases hg : cap < n + m
  · obtain ⟨v', w', h1, h2, h3, h4⟩ := run_append_grows (w := w) (ty := ty) t t2 e z size bytes ht hinfo hzs bs n cap xs (ownsRow_isRow hown) x m news hx hg hbytes h63
    refine ⟨v', w', h1, ⟨h2.1, ?_⟩, ⟨h3.os, h3.tape, h3.output, h3.size, fun k hk _ => h3.block k hk (by simp)⟩⟩
    rcases h2.2 with hh | ⟨g, cap', cur, a, b, r⟩
    · exact .inl hh
    · exact .inr ⟨g, cap', cur, a, by omega, r⟩
  · obtain ⟨i, hi, hz, rfl, rfl⟩ := info_parts hinfo
    obtain ⟨hd, hlen, hcells, hcells', hmany, hone⟩ := hx
    have hroom : n + m ≤ cap := by omega
    obtain ⟨hxl, hr⟩ := hown
    rcases hr with ⟨hv, rfl⟩ | ⟨g, cap', cur, hv, hb, hgg, hnc, hcm, hcs, htake⟩
    · simp only [Value.slice.injEq] at hv
      obtain ⟨rfl, -, rfl⟩ := hv
      have hm0 : m = 0 := by omega
      subst hm0
      have hnn : news = [] := List.eq_nil_of_length_eq_zero (by simpa using hmany)
      have hxx : xs = [] := List.eq_nil_of_length_eq_zero (by simpa using hxl)
      subst hnn hxx
      refine ⟨.slice none 0 0, w, ?_, World.ownsRow_nil w base e i.size, ⟨rfl, rfl, rfl, Nat.le_refl _, fun _ _ _ => rfl⟩⟩
      rcases hd with ⟨e2, hd⟩ | hd <;> simp [Builtin.append_, run_underlying ht, run_underlying hd, sizeOf, typeInfo, hi, hlen, hcells]
    · simp only [Value.slice.injEq, true_and] at hv
      obtain ⟨rfl, rfl⟩ := hv
      have hfit : n * i.size + news.length ≤ cur.size := by rw [hmany, hcs, ← Nat.add_mul]; exact Nat.mul_le_mul_right _ hroom
      have hst := run_storeCells_at P g (n * i.size) e news 0 cur w hgg (by simpa using hfit) hone
      simp only [Nat.add_zero] at hst
      refine ⟨.slice (some ⟨g, 0, none⟩) (n + m) cap, w.setRow g (cur.toList.take (n * i.size) ++ news ++ cur.toList.drop (n * i.size + news.length)).toArray, ?_, ⟨?_, .inr ⟨g, cap, _, rfl, hb, setRow_heap w g cur _ e _ hgg, hroom, hcm, ?_, ?_⟩⟩, ⟨rfl, rfl, rfl, by simp, fun k _ hk => setRow_other w g k _ (fun e => hk (by simp [Value.ownBlock, e]))⟩⟩
      · rcases hd with ⟨e2, hd⟩ | hd <;> simp [Builtin.append_, run_underlying ht, run_underlying hd, sizeOf, typeInfo, hi, hlen, hcells, hroom, Addr.add_lit, hst]
      · rw [List.length_append, hxl, hmany, Nat.add_mul]
      · simp only [List.size_toArray, List.length_append, List.length_take, List.length_drop, Array.length_toList]
        omega
      · have hlen' : (xs ++ news).length = (n + m) * i.size := by rw [List.length_append, hxl, hmany, Nat.add_mul]
        rw [htake, ← hlen']
        exact List.take_left

theorem wpList_append_any {ops : Array Oper} {rest : List Oper} {o : Oper} {a : Act} {Q : Exit → Act → World → Prop} (hw : Region.wanted o (yielded ops a.tmps) = true) (s x : Operand) (t t2 : TypeId)
    (ho : o.op = .call { callee := .builtin .append, args := #[s, x], argTypes := #[t, t2] })
    (base : Nat) (e : TypeId) (z : Value) (size bytes : Nat) (ht : P.underlying t = some (.slice e)) (hinfo : (P.info? e).map (fun i => (i.zero, i.size, i.bytes)) = some (some z, size, bytes)) (hzs : z.cells.size = size)
    (v : Value) (n : Nat) (xs : List Value) (hs : a.eval s = v) (hown : w.ownsRow base e size v n xs) (u : Value) (m : Nat) (news : List Value) (hx : a.eval x = u) (hsrc : Src P size w t2 u m news)
    (hbytes : (n + m) * bytes ≤ 140737488355328) (h63 : n + m ≤ maxLen) (hbase : base ≤ w.heap.size)
    (h : ∀ v' w', w'.ownsRow base e size v' (n + m) (xs ++ news) → w.grownBy w' v.ownBlock → wpList P ops Q rest (a.put o.dst v') w') : wpList P ops Q (o :: rest) a w := by
  obtain ⟨v', w', hr, h2, h3⟩ := run_append_any (w := w) base t o.type t2 e z size bytes ht hinfo hzs v n xs hown u m news hsrc hbytes h63 hbase
  unfold wpList
  rw [if_pos hw]
  refine .inl ?_
  unfold Oper.wp execOp
  simp only [ho, resolve, invoke, builtin, Sem.run_bind, Sem.run_pure, Result.andThen_ok, List.map_toArray, List.map_cons, List.map_nil, hs, hx, hr]
  exact h v' w' h2 h3

theorem wpList_append_grow {ops : Array Oper} {rest : List Oper} {o : Oper} {a : Act} {Q : Exit → Act → World → Prop} (hw : Region.wanted o (yielded ops a.tmps) = true) (s x : Operand) (t t2 : TypeId)
    (ho : o.op = .call { callee := .builtin .append, args := #[s, x], argTypes := #[t, t2] })
    (e : TypeId) (z : Value) (size bytes : Nat) (ht : P.underlying t = some (.slice e)) (hinfo : (P.info? e).map (fun i => (i.zero, i.size, i.bytes)) = some (some z, size, bytes)) (hzs : z.cells.size = size)
    (bs : Option Addr) (n cap : Nat) (xs : List Value) (hs : a.eval s = .slice bs n cap) (hrow : IsRow size w (.slice bs n cap) n xs) (u : Value) (m : Nat) (news : List Value) (hx : a.eval x = u) (hsrc : Src P size w t2 u m news)
    (hg : cap < n + m) (hbytes : (n + m) * bytes ≤ 140737488355328) (h63 : n + m ≤ maxLen)
    (h : ∀ v' w', w'.ownsRow w.heap.size e size v' (n + m) (xs ++ news) → w.grownBy w' none → w.heap.size < w'.heap.size → wpList P ops Q rest (a.put o.dst v') w') : wpList P ops Q (o :: rest) a w := by
  obtain ⟨v', w', hr, h2, h3, h4⟩ := run_append_grows (w := w) (ty := o.type) t t2 e z size bytes ht hinfo hzs bs n cap xs hrow u m news hsrc hg hbytes h63
  unfold wpList
  rw [if_pos hw]
  refine .inl ?_
  unfold Oper.wp execOp
  simp only [ho, resolve, invoke, builtin, Sem.run_bind, Sem.run_pure, Result.andThen_ok, List.map_toArray, List.map_cons, List.map_nil, hs, hx, hr]
  exact h v' w' h2 h3 h4
/-- Where the row of an append lies: where it lay, or in a new block. -/
theorem run_append_any' (base : Nat) (t ty t2 e : TypeId) (z : Value) (size bytes : Nat) (ht : P.underlying t = some (.slice e)) (hinfo : (P.info? e).map (fun i => (i.zero, i.size, i.bytes)) = some (some z, size, bytes)) (hzs : z.cells.size = size)
    (v : Value) (n : Nat) (xs : List Value) (hown : w.ownsRow base e size v n xs) (x : Value) (m : Nat) (news : List Value) (hx : Src P size w t2 x m news)
    (hbytes : (n + m) * bytes ≤ 140737488355328) (h63 : n + m ≤ maxLen) (hbase : base ≤ w.heap.size) :
    ∃ v' w', (Builtin.append_ #[t, t2] ty #[v, x]).run P w = .ok v' w' ∧ w'.ownsRow base e size v' (n + m) (xs ++ news) ∧ w.grownBy w' v.ownBlock ∧ (v'.ownBlock = v.ownBlock ∨ ∃ k, w.heap.size ≤ k ∧ v'.ownBlock = some k) := by
  have hrow := ownsRow_isRow hown
  obtain ⟨bs, cap, rfl, _⟩ := hrow
  by_cases hg : cap < n + m
  · obtain ⟨v', w', h1, h2, h3, h4⟩ := run_append_grows (w := w) (ty := ty) t t2 e z size bytes ht hinfo hzs bs n cap xs (ownsRow_isRow hown) x m news hx hg hbytes h63
    refine ⟨v', w', h1, ⟨h2.1, ?_⟩, ⟨h3.os, h3.tape, h3.output, h3.size, fun k hk _ => h3.block k hk (by simp)⟩, ?_⟩
    · rcases h2.2 with hh | ⟨g, cap', cur, a, b, r⟩
      · exact .inl hh
      · exact .inr ⟨g, cap', cur, a, by omega, r⟩
    · rcases h2.2 with ⟨hh, h0⟩ | ⟨g, cap', cur, rfl, b, r⟩
      · omega
      · exact .inr ⟨g, b, rfl⟩
  · obtain ⟨v', w', h1, h2, h3⟩ := run_append_any (w := w) base t ty t2 e z size bytes ht hinfo hzs _ n xs hown x m news hx hbytes h63 hbase
    refine ⟨v', w', h1, h2, h3, .inl ?_⟩
    obtain ⟨i, hi, hz, rfl, rfl⟩ := info_parts hinfo
    obtain ⟨hd, hlen, hcells, hcells', hmany, hone⟩ := hx
    have hroom : n + m ≤ cap := by omega
    obtain ⟨hxl, hr⟩ := hown
    rcases hr with ⟨hv, rfl⟩ | ⟨g, cap', cur, hv, hb, hgg, hnc, hcm, hcs, htake⟩
    · simp only [Value.slice.injEq] at hv
      obtain ⟨rfl, -, rfl⟩ := hv
      have hm0 : m = 0 := by omega
      subst hm0
      have hnn : news = [] := List.eq_nil_of_length_eq_zero (by simpa using hmany)
      subst hnn
      have : (Builtin.append_ #[t, t2] ty #[.slice none 0 0, x]).run P w = .ok (.slice none 0 0) w := by
        rcases hd with ⟨e2, hd⟩ | hd <;> simp [Builtin.append_, run_underlying ht, run_underlying hd, sizeOf, typeInfo, hi, hlen, hcells]
      rw [this] at h1
      cases h1
      rfl
    · simp only [Value.slice.injEq, true_and] at hv
      obtain ⟨rfl, rfl⟩ := hv
      have hfit : n * i.size + news.length ≤ cur.size := by rw [hmany, hcs, ← Nat.add_mul]; exact Nat.mul_le_mul_right _ hroom
      have hst := run_storeCells_at P g (n * i.size) e news 0 cur w hgg (by simpa using hfit) hone
      simp only [Nat.add_zero] at hst
      have : ∃ w2, (Builtin.append_ #[t, t2] ty #[.slice (some ⟨g, 0, none⟩) n cap, x]).run P w = .ok (.slice (some ⟨g, 0, none⟩) (n + m) cap) w2 := by
        rcases hd with ⟨e2, hd⟩ | hd <;> simp [Builtin.append_, run_underlying ht, run_underlying hd, sizeOf, typeInfo, hi, hlen, hcells, hroom, Addr.add_lit, hst]
      obtain ⟨w2, this⟩ := this
      rw [this] at h1
      cases h1
      rfl

theorem wpList_append_any' {ops : Array Oper} {rest : List Oper} {o : Oper} {a : Act} {Q : Exit → Act → World → Prop} (hw : Region.wanted o (yielded ops a.tmps) = true) (s x : Operand) (t t2 : TypeId)
    (ho : o.op = .call { callee := .builtin .append, args := #[s, x], argTypes := #[t, t2] })
    (base : Nat) (e : TypeId) (z : Value) (size bytes : Nat) (ht : P.underlying t = some (.slice e)) (hinfo : (P.info? e).map (fun i => (i.zero, i.size, i.bytes)) = some (some z, size, bytes)) (hzs : z.cells.size = size)
    (v : Value) (n : Nat) (xs : List Value) (hs : a.eval s = v) (hown : w.ownsRow base e size v n xs) (u : Value) (m : Nat) (news : List Value) (hx : a.eval x = u) (hsrc : Src P size w t2 u m news)
    (hbytes : (n + m) * bytes ≤ 140737488355328) (h63 : n + m ≤ maxLen) (hbase : base ≤ w.heap.size)
    (h : ∀ v' w', w'.ownsRow base e size v' (n + m) (xs ++ news) → w.grownBy w' v.ownBlock → (v'.ownBlock = v.ownBlock ∨ ∃ k, w.heap.size ≤ k ∧ v'.ownBlock = some k) → wpList P ops Q rest (a.put o.dst v') w') : wpList P ops Q (o :: rest) a w := by
  obtain ⟨v', w', hr, h2, h3, h4⟩ := run_append_any' (w := w) base t o.type t2 e z size bytes ht hinfo hzs v n xs hown u m news hsrc hbytes h63 hbase
  unfold wpList
  rw [if_pos hw]
  refine .inl ?_
  unfold Oper.wp execOp
  simp only [ho, resolve, invoke, builtin, Sem.run_bind, Sem.run_pure, Result.andThen_ok, List.map_toArray, List.map_cons, List.map_nil, hs, hx, hr]
  exact h v' w' h2 h3 h4

/-- append, as one step of a region that draws. -/
theorem step_append_any' {ops : Array Oper} {o : Oper} {a : Act} {K : Act → World → Prop} {Q : Exit → Act → World → Prop} {E : Prop} (hgd : o.guard = none) (s x : Operand) (t t2 : TypeId)
    (ho : o.op = .call { callee := .builtin .append, args := #[s, x], argTypes := #[t, t2] })
    (base : Nat) (e : TypeId) (z : Value) (size bytes : Nat) (ht : P.underlying t = some (.slice e)) (hinfo : (P.info? e).map (fun i => (i.zero, i.size, i.bytes)) = some (some z, size, bytes)) (hzs : z.cells.size = size)
    (v : Value) (n : Nat) (xs : List Value) (hs : a.eval s = v) (hown : w.ownsRow base e size v n xs) (u : Value) (m : Nat) (news : List Value) (hx : a.eval x = u) (hsrc : Src P size w t2 u m news)
    (hbytes : (n + m) * bytes ≤ 140737488355328) (h63 : n + m ≤ maxLen) (hbase : base ≤ w.heap.size)
    (h : ∀ v' w', w'.ownsRow base e size v' (n + m) (xs ++ news) → w.grownBy w' v.ownBlock → (v'.ownBlock = v.ownBlock ∨ ∃ k, w.heap.size ≤ k ∧ v'.ownBlock = some k) → K (a.put o.dst v') w') :
    if Region.wanted o (yielded ops a.tmps) = true then Oper.wp P o a w K Q else E := by
  have hw : Region.wanted o (yielded ops a.tmps) = true := by simp [Region.wanted, hgd]
  rw [if_pos hw]
  obtain ⟨v', w', hr, h2, h3, h4⟩ := run_append_any' (w := w) base t o.type t2 e z size bytes ht hinfo hzs v n xs hown u m news hsrc hbytes h63 hbase
  unfold Oper.wp execOp
  simp only [ho, resolve, invoke, builtin, Sem.run_bind, Sem.run_pure, Result.andThen_ok, List.map_toArray, List.map_cons, List.map_nil, hs, hx, hr]
  exact h v' w' h2 h3 h4
end

/-- A slice of bytes that the call owns from block B on. -/
def OwnBytes (E B : Nat) (w : World) (v : Value) (l : List UInt8) : Prop := w.ownsRow B E 1 v l.length (l.map u8v)
theorem OwnBytes.is {E B : Nat} {w : World} {v : Value} {l : List UInt8} (h : OwnBytes E B w v l) : IsBytes w v l := ownsRow_isRow h
theorem OwnBytes.nil (E B : Nat) (w : World) : OwnBytes E B w (.slice none 0 0) [] := World.ownsRow_nil w B E 1
theorem u8v_one (l : List UInt8) : ∀ u ∈ l.map u8v, u.oneCell' = true := by
  intro u hu
  obtain ⟨b, _, rfl⟩ := List.mem_map.1 hu
  rfl
theorem IsBytes.src {P : Program} {w : World} {t2 e2 : TypeId} {x : Value} {l : List UInt8} (ht : P.underlying t2 = some (.slice e2)) (h : IsBytes w x l) : Src P 1 w t2 x l.length (l.map u8v) := Src.row ht h (u8v_one l)
theorem OwnBytes.made (E : Nat) (w : World) (B : Nat) (hB : B ≤ w.heap.size) : OwnBytes E B (w.alloc (.cells #[] E)) (.slice (some ⟨w.heap.size, 0, none⟩) 0 0) [] := World.ownsRow_made w #[] 0 hB (by simp [maxLen]) (by simp)

/-- append of bytes onto bytes of the call's own. -/
theorem wpList_append_bytes {P : Program} {w : World} {ops : Array Oper} {rest : List Oper} {o : Oper} {a : Act} {Q : Exit → Act → World → Prop} (hw : Region.wanted o (yielded ops a.tmps) = true) (s x : Operand) (t t2 : TypeId)
    (ho : o.op = .call { callee := .builtin .append, args := #[s, x], argTypes := #[t, t2] })
    (base : Nat) (e : TypeId) (ht : P.underlying t = some (.slice e)) (hinfo : (P.info? e).map (fun i => (i.zero, i.size, i.bytes)) = some (some (.int .u8 0), 1, 1))
    (v : Value) (l : List UInt8) (hs : a.eval s = v) (hown : OwnBytes e base w v l) (u : Value) (m : List UInt8) (hx : a.eval x = u) (hsrc : Src P 1 w t2 u m.length (m.map u8v))
    (hbytes : l.length + m.length ≤ 140737488355328) (hbase : base ≤ w.heap.size)
    (h : ∀ v' w', OwnBytes e base w' v' (l ++ m) → w.grownBy w' v.ownBlock → wpList P ops Q rest (a.put o.dst v') w') : wpList P ops Q (o :: rest) a w := by
  refine wpList_append_any hw s x t t2 ho base e (.int .u8 0) 1 1 ht hinfo rfl v l.length (l.map u8v) hs hown u m.length (m.map u8v) hx hsrc (by omega) (by simp only [maxLen]; omega) hbase ?_
  intro v' w' h1 h2
  refine h v' w' ?_ h2
  unfold OwnBytes
  rw [List.length_append, List.map_append]
  exact h1

/-- make([]byte, n). -/
theorem wpList_make_bytes {P : Program} {w : World} {ops : Array Oper} {rest : List Oper} {o : Oper} {a : Act} {Q : Exit → Act → World → Prop}
    (hg : o.guard = none) (x c : Operand) (t : TypeId) (hop : o.op = Op.makeSlice t x c)
    (base : Nat) (e : TypeId) (h1 : P.underlying t = some (.slice e)) (hinfo : (P.info? e).map (fun i => (i.zero, i.size, i.bytes)) = some (some (.int .u8 0), 1, 1))
    (n : Nat) (hl : a.eval x = .int .i64 n) (hc : a.eval c = .int .i64 n) (hn : n ≤ 281474976710656) (hbase : base ≤ w.heap.size)
    (hK : ∀ w', OwnBytes e base w' (.slice (some ⟨w.heap.size, 0, none⟩) n n) (List.replicate n 0) → w.grownBy w' none → wpList P ops Q rest (a.put o.dst (.slice (some ⟨w.heap.size, 0, none⟩) n n)) w') :
    wpList P ops Q (o :: rest) a w := by
  obtain ⟨i, hi, hz, hs, hb⟩ := info_parts hinfo
  refine wpList_make_full w hg x c t hop base e i (.int .u8 0) 1 h1 hi hz hs .i64 .i64 n n n hl hc rfl rfl (by rw [hb]; omega) (by simp only [maxLen]; omega) hbase ?_
  intro w' ho hgr
  refine hK w' ?_ hgr
  unfold OwnBytes
  rw [List.length_replicate, List.map_replicate]
  have e : (madeCells (Value.int .u8 0).cells (n * 1)).toList = List.replicate n (u8v 0) := by
    rw [Nat.mul_one]; exact toList_madeCells_one _ n
  rw [← e]
  exact ho

theorem OwnBytes.cellAt {E B g cap : Nat} {w : World} {n : Nat} {l : List UInt8} (h : OwnBytes E B w (.slice (some ⟨g, 0, none⟩) n cap) l) (j : Nat) (hj : j < l.length) : w.cell? ⟨g, j, none⟩ = some (.int .u8 (l[j].toNat : Int)) := by
  have hn : n = l.length := by
    obtain ⟨_, hr⟩ := h
    rcases hr with ⟨hv, _⟩ | ⟨_, _, _, hv, _⟩ <;> simp only [Value.slice.injEq] at hv
    · simp at hv
    · exact hv.2.1
  subst hn
  have := World.ownsRow.cellAt h j (by omega)
  rw [this, List.getElem?_map, List.getElem?_eq_getElem hj]
  rfl
theorem OwnBytes.frozenAt {E B g cap : Nat} {w : World} {n : Nat} {l : List UInt8} (h : OwnBytes E B w (.slice (some ⟨g, 0, none⟩) n cap) l) (j : Nat) : w.frozen? ⟨g, j, none⟩ = false := by
  have hn : n = l.length := by
    obtain ⟨_, hr⟩ := h
    rcases hr with ⟨hv, _⟩ | ⟨_, _, _, hv, _⟩ <;> simp only [Value.slice.injEq] at hv
    · simp at hv
    · exact hv.2.1
  subst hn
  exact World.ownsRow.frozenAt h j
theorem OwnBytes.stored {E B g cap : Nat} {w : World} {n : Nat} {l : List UInt8} (h : OwnBytes E B w (.slice (some ⟨g, 0, none⟩) n cap) l) (j : Nat) (x : UInt8) : OwnBytes E B (w.setCell ⟨g, j, none⟩ (.int .u8 (x.toNat : Int))) (.slice (some ⟨g, 0, none⟩) n cap) (l.set j x) := by
  have hn : n = l.length := by
    obtain ⟨_, hr⟩ := h
    rcases hr with ⟨hv, _⟩ | ⟨_, _, _, hv, _⟩ <;> simp only [Value.slice.injEq] at hv
    · simp at hv
    · exact hv.2.1
  subst hn
  have := World.ownsRow.stored h j (u8v x)
  unfold OwnBytes
  rw [List.length_set, List.map_set]
  exact this.1

theorem OwnBytes.shape {E B : Nat} {w : World} {v : Value} {l : List UInt8} (h : OwnBytes E B w v l) (hl : l ≠ []) : ∃ g cap, v = .slice (some ⟨g, 0, none⟩) l.length cap ∧ B ≤ g := by
  obtain ⟨_, hr⟩ := h
  rcases hr with ⟨hv, hn⟩ | ⟨g, cap, _, hv, hB, _⟩
  · exact absurd (List.eq_nil_of_length_eq_zero hn) hl
  · exact ⟨g, cap, hv, hB⟩

/-- What is owned stays, where nothing of what there was turns. -/
theorem OwnBytes.later {E B : Nat} {w w' : World} {v : Value} {l : List UInt8} (h : OwnBytes E B w v l) (hb : Below w.heap.size w w') : OwnBytes E B w' v l := by
  obtain ⟨hx, hr⟩ := h
  refine ⟨hx, ?_⟩
  rcases hr with hn | ⟨g, cap, cur, hv, hB, hg, rest⟩
  · exact .inl hn
  · exact .inr ⟨g, cap, cur, hv, hB, by rw [hb.block g (Array.getElem?_eq_some_iff.1 hg).1]; exact hg, rest⟩

end Go.Proofs.Ytihohhjaomoemaa
