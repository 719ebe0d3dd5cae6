/- The walks over package disk: Read, Write, Fail, Restart, for every disk. -/
import Derived.Test.YtkfikcppnbfmoaaChecked
import Derived.Test.YtkfikcppnbfmoaaCheckD
namespace Go.Proofs.Ytkfikcppnbfmoaa
open Go.RowKit

def Dk.zero : Dk := ⟨[], 0, 0, false⟩
def Dk.read (d : Dk) (i : Int) : List UInt8 × Int :=
  if d.valid = false ∨ i < 0 ∨ (d.sec.length : Int) ≤ i then ([], 1) else if d.stopped then ([], 300) else (d.sec.getD i.toNat [], 0)
def Dk.write (d : Dk) (i : Int) (b : List UInt8) : Dk × Int :=
  if d.valid = false ∨ i < 0 ∨ (d.sec.length : Int) ≤ i ∨ b.length ≠ 128 then (Dk.zero, 1) else d.wr i.toNat b
def Dk.fail (d : Dk) (left tear : Int) : Dk × Int :=
  if d.valid = false ∨ left < 0 ∨ 1099511627776 < left ∨ tear < 0 ∨ 128 < tear then (Dk.zero, 1) else if d.stopped then (Dk.zero, 300) else ({ d with left := left, tear := tear }, 0)
def Dk.restart (d : Dk) : Dk := if d.valid then { d with left := -1, tear := 0, stopped := false } else Dk.zero

theorem box_cells {w w1 : World} {sv : Value} {left tear : Int} {st : Bool} (hb : Below (w.alloc (.cells #[sv, .int .i64 left, .int .i64 tear, .bool st] 25)).heap.size (w.alloc (.cells #[sv, .int .i64 left, .int .i64 tear, .bool st] 25)) w1) :
    w1.cell? ⟨w.heap.size, 0, none⟩ = some sv ∧ w1.cell? ⟨w.heap.size, 1, none⟩ = some (.int .i64 left) ∧ w1.cell? ⟨w.heap.size, 2, none⟩ = some (.int .i64 tear) ∧ w1.cell? ⟨w.heap.size, 3, none⟩ = some (.bool st) := by
  have h : w.heap.size < (w.alloc (.cells #[sv, .int .i64 left, .int .i64 tear, .bool st] 25)).heap.size := by simp
  refine ⟨?_, ?_, ?_, ?_⟩ <;> rw [hb.cell h, cell_new] <;> rfl
theorem dk_head {d : Dk} (h : d.valid = true) : d.Ok := (Dk.valid_iff d).1 h

theorem cell_lt {w : World} {a : Addr} {v : Value} (h : w.cell? a = some v) : a.block < w.heap.size := by
  rcases Nat.lt_or_ge a.block w.heap.size with h' | h'
  · exact h'
  · simp [World.cell?, Array.getElem?_eq_none h'] at h

set_option maxHeartbeats 1000000 in
theorem read_any (S : Nat → Bool) (w : World) (hS : ∀ k, S k = true → k < w.heap.size) (v : Value) (d : Dk) (i : Int) (hv : IsDk w v d) :
    Calls Try.prog 13 #[v, .int .i64 i] w fun e w' => ∃ bv, e = .returned (.tuple #[bv, .int .i64 (d.read i).2]) ∧ IsBytes (mask S w') bv (d.read i).1 ∧ Below w.heap.size w w' := by
  have hv' := hv
  obtain ⟨sv, rfl, hl⟩ := hv
  have hB0 : Below w.heap.size w (w.alloc (.cells #[sv, .int .i64 d.left, .int .i64 d.tear, .bool d.stopped] 25)) := (Below.refl _ _).alloc (Nat.le_refl _) _
  have hv0 := hv'.below hB0 rfl
  have hl0 := hl.below hB0 rfl
  have hc := check_any _ _ d hv0
  cases hval : d.valid with
  | false =>
    rw [hval] at hc
    have hr : d.read i = ([], 1) := by simp [Dk.read, hval]
    rw [hr]
    clear hv' hv0
    simp only [dkV] at *
    go_enter Try.func13, Try.ntmps13
    go_wp2_with fail
    refine hc.mono ?_
    rintro e w1 ⟨rfl, hb1⟩
    go_wp2
    go_ret2
    exact ⟨_, rfl, IsBytes.none _, hB0.trans (hb1.mono hB0.size)⟩
  | true =>
    rw [hval] at hc
    have hok := dk_head hval
    have h128 := hok.size
    have hmany := hok.many
    have hone := hok.one
    obtain ⟨sec, left, tear, st⟩ := d
    obtain ⟨base, cap, rfl, hl1, hcap, -, hcell⟩ := hl0.out
    have HC := Lib.hid hcell
    have HV := Lib.hid hval
    have HL := Lib.hid hl0
    clear hv' hv0 hl hcell hok hval hl0
    unfold maxLen at hcap
    simp only [dkV] at *
    by_cases k1 : i < 0
    · have hr : Dk.read ⟨sec, left, tear, st⟩ i = ([], 1) := by simp [Dk.read, k1]
      rw [hr]
      go_enter Try.func13, Try.ntmps13
      go_wp2_with fail
      refine hc.mono ?_
      rintro e w1 ⟨rfl, hb1⟩
      obtain ⟨c0, c1, c2, c3⟩ := box_cells hb1
      go_wp2
      go_ret2
      exact ⟨_, rfl, IsBytes.none _, hB0.trans (hb1.mono hB0.size)⟩
    by_cases k2 : (sec.length : Int) ≤ i
    · have hr : Dk.read ⟨sec, left, tear, st⟩ i = ([], 1) := by simp [Dk.read, k2]
      rw [hr]
      go_enter Try.func13, Try.ntmps13
      go_wp2_with fail
      refine hc.mono ?_
      rintro e w1 ⟨rfl, hb1⟩
      obtain ⟨c0, c1, c2, c3⟩ := box_cells hb1
      go_wp2
      go_ret2
      exact ⟨_, rfl, IsBytes.none _, hB0.trans (hb1.mono hB0.size)⟩
    obtain ⟨n, rfl⟩ : ∃ n : Nat, i = (n : Int) := ⟨i.toNat, by omega⟩
    have hn : n < sec.length := by omega
    cases st with
    | true =>
      have hr : Dk.read ⟨sec, left, tear, true⟩ n = ([], 300) := by simp [Dk.read, HV.out, k2]
      rw [hr]
      go_enter Try.func13, Try.ntmps13
      go_wp2_with fail
      refine hc.mono ?_
      rintro e w1 ⟨rfl, hb1⟩
      obtain ⟨c0, c1, c2, c3⟩ := box_cells hb1
      go_wp2
      go_ret2
      exact ⟨_, rfl, IsBytes.none _, hB0.trans (hb1.mono hB0.size)⟩
    | false =>
      have hr : Dk.read ⟨sec, left, tear, false⟩ n = (sec[n], 0) := by simp [Dk.read, HV.out, hn]
      rw [hr]
      obtain ⟨b, off, u, rfl, hx, hu⟩ := HC.out n hn
      have hu' := hu
      obtain ⟨ub, uc, rfl, -, -, -, -⟩ := hu'.out
      have hne : sec[n] ≠ [] := by intro e; have := h128 n hn; rw [e] at this; simp at this
      have hle : (sec[n]).length ≤ 1048576 := by rw [h128 n hn]; omega
      have HU := Lib.hid hu
      clear hu hu' h128
      go_enter Try.func13, Try.ntmps13
      go_wp2_with fail
      refine hc.mono ?_
      rintro e w1 ⟨rfl, hb1⟩
      obtain ⟨c0, c1, c2, c3⟩ := box_cells hb1
      have hx1 := (hb1.cell (cell_lt hx)).trans hx
      clear hx
      go_wp2_with fail
      refine (clone_bytes _ _ _ (HU.out.below hb1 rfl) hne hle).mono ?_
      rintro e w2 ⟨v2, rfl, ho2, hb2⟩
      go_wp2
      go_ret2
      exact ⟨_, rfl, ho2.mask (fun k hk => Nat.lt_of_lt_of_le (hS k hk) (Nat.le_trans hB0.size hb1.size)), (hB0.trans (hb1.mono hB0.size)).trans (hb2.mono (Nat.le_trans hB0.size hb1.size))⟩

theorem disk_info : (Try.prog.info? 25).map (·.size) = some 4 := by kernel_rfl
theorem results_cell_row_tmp {P : Program} {fn : Func} {p u : Tmp} {ty : TypeId} (h : fn.results = #[.cell p ty, .tmp u]) (tmps : Array Value) (w : World) (g : Nat) (t : TypeId) (cs : Array Value) (fr : Nat × Nat) (d : TypeDesc)
    (hp : tmps.getD p undef = .pointer (some ⟨g, 0, none⟩)) (hg : w.heap[g]? = some (.cells cs t fr))
    (hu : P.underlying ty = some d) (hd : (match d with | .struct _ | .array _ _ => true | _ => false) = true) (hi : (P.info? ty).map (·.size) = some cs.size) :
    (results fn tmps).run P w = .ok (.tuple #[.agg cs, tmps.getD u undef]) w := by
  rw [results_cell_tmp h]
  simp only [hp, asAddr, Sem.run_pure, Result.andThen_ok, run_loadVar_row w g t ty cs fr d hg hu hd hi]

theorem ret_disk {fn : Func} {R : Ending → World → Prop} {a : Act} {w : World} {p u : Tmp} (g : Nat) (sv : Value) (l t : Int) (st : Bool) (h : fn.results = #[.cell p 25, .tmp u]) (hp : a.tmps.getD p undef = .pointer (some ⟨g, 0, none⟩))
    (hg : w.heap[g]? = some (.cells #[sv, .int .i64 l, .int .i64 t, .bool st] 25)) (hd : a.defers = []) (hR : R (.returned (.tuple #[dkV sv l t st, a.tmps.getD u undef])) w) : bodyPost Try.prog fn R .ret a w :=
  bodyPost_ret (results_cell_row_tmp h _ _ g 25 _ (0, 0) _ hp hg Try.underlying25 rfl disk_info) hd hR
theorem IsLists.one {w : World} {v : Value} {ll : List (List UInt8)} (h : IsLists w v ll) : v.oneCell' = true := by
  obtain ⟨_, _, rfl, _⟩ := h.out; rfl
theorem one4 {sv : Value} (h : sv.oneCell' = true) (l t : Int) (s : Bool) : (#[sv, .int .i64 l, .int .i64 t, .bool s] : Array Value).all (·.oneCell') = true := by
  rw [Array.all_eq_true_iff_forall_mem]
  intro x hx
  simp only [List.mem_toArray, List.mem_cons, List.not_mem_nil, or_false] at hx
  rcases hx with rfl | rfl | rfl | rfl
  · exact h
  all_goals rfl

/-- A disk's block. -/
def dkO (sv : Value) (left tear : Int) (st : Bool) : Obj := .cells #[sv, .int .i64 left, .int .i64 tear, .bool st] 25
theorem dkO_cells {w : World} {g : Nat} {sv : Value} {left tear : Int} {st : Bool} (hp : w.heap[g]? = some (dkO sv left tear st)) :
    w.cell? ⟨g, 0, none⟩ = some sv ∧ w.cell? ⟨g, 1, none⟩ = some (.int .i64 left) ∧ w.cell? ⟨g, 2, none⟩ = some (.int .i64 tear) ∧ w.cell? ⟨g, 3, none⟩ = some (.bool st) ∧ w.frozen? ⟨g, 1, none⟩ = false ∧ w.frozen? ⟨g, 2, none⟩ = false := by
  refine ⟨?_, ?_, ?_, ?_, frozen_of_row _ _ _ _ _ hp, frozen_of_row _ _ _ _ _ hp⟩ <;> rw [cell_of_row _ _ _ _ _ _ hp] <;> rfl
theorem box2_a {w w1 : World} {A B : Obj} (hb : Below ((w.alloc A).alloc B).heap.size ((w.alloc A).alloc B) w1) : w1.heap[w.heap.size]? = some A :=
  (hb.block _ (by simp; omega)).trans (heap_alloc2_old w A B)
theorem box2_b {w w1 : World} {A B : Obj} (hb : Below ((w.alloc A).alloc B).heap.size ((w.alloc A).alloc B) w1) : w1.heap[w.heap.size + 1]? = some B :=
  (hb.block _ (by simp)).trans (heap_alloc2_new w A B)
theorem dk_zero (w : World) : IsDk w (.agg #[.slice none 0 0, .int .i64 0, .int .i64 0, .bool false]) Dk.zero :=
  ⟨_, rfl, [], IsRow.nil 1 w, fun i h => absurd h (by simp [Dk.zero])⟩

end Go.Proofs.Ytkfikcppnbfmoaa
