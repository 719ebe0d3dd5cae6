/- The walks over package disk: Clone, put, write. -/
import Derived.Test.YtnfgapdpnihicaaChecked
import Derived.Test.YtnfgapdpnihicaaZGA
import Derived.Lib.LazyBuf
import Derived.Deep.OwnRows
namespace Go.Proofs.Ytnfgapdpnihicaa
open Go.RowKit

theorem byte_rows : (Try.prog.info? 5).map (·.size) = some 1 := by kernel_rfl
theorem byte_info : (Try.prog.info? 5).map (fun i => (i.zero, i.size, i.bytes)) = some (some (.int .u8 0), 1, 1) := by kernel_rfl
theorem slice_info : (Try.prog.info? 42).map (fun i => (i.zero, i.size, i.bytes)) = some (some (.slice none 0 0), 1, 24) := by kernel_rfl

set_option maxHeartbeats 400000 in
theorem clone_bytes (w : World) (v : Value) (l : List UInt8) (hv : IsBytes w v l) (hl : l ≠ []) (hlen : l.length ≤ 1048576) :
    Calls Try.prog 76 #[v] w fun e w' => ∃ v', e = .returned v' ∧ OwnBytes 5 w.heap.size w' v' l ∧ Below w.heap.size w w' := by
  obtain ⟨base, cap, rfl, hl1, hcap, hnil, hcell⟩ := hv.out
  obtain ⟨b, off, rfl, -⟩ := hcell 0 (List.length_pos_iff.2 hl)
  clear hcell hnil
  have hq := fun w : World => run_eql_slice_nil (P := Try.prog) w 42 5 (some ⟨b, off, none⟩) l.length cap Try.underlying42
  have ho0 := OwnBytes.made 5 w w.heap.size (Nat.le_refl _)
  have hb0 : Below w.heap.size w (w.alloc (.cells #[] 5)) := (Below.refl _ _).alloc (Nat.le_refl _) _
  have hv0 := hv.below hb0 rfl
  clear hv
  go_enter Try.func76, Try.ntmps76
  go_wp2_with (at_builtin; refine wpList_append_bytes rfl (.tmp 5) (.tmp 6) 42 42 rfl w.heap.size 5 Try.underlying42 byte_info _ [] rfl ho0 _ l rfl (hv0.src Try.underlying42) (by simp only [List.length_nil]; omega) hb0.size ?_; intro v3 w1 ho1 hg1)
  go_ret
  exact ⟨_, rfl, ho1, Below.grown hb0 hg1 hb0.size (fun k hk => (World.ownsRow.lt ho0 k hk).1)⟩

set_option maxHeartbeats 400000 in
theorem clone_lists (w : World) (v : Value) (n : Nat) (vs : List Value) (hv : IsRow 1 w v n vs) (hone : ∀ u ∈ vs, u.oneCell' = true) (hn0 : n ≠ 0) (hlen : n ≤ 4096) :
    Calls Try.prog 77 #[v] w fun e w' => ∃ g cap, e = .returned (.slice (some ⟨g, 0, none⟩) n cap) ∧ w.heap.size ≤ g ∧ w'.ownsRow w.heap.size 42 1 (.slice (some ⟨g, 0, none⟩) n cap) n vs ∧ Below w.heap.size w w' := by
  have hv' := hv
  obtain ⟨base, cap, rfl, hxl, hl1, hcap, hnil, hcell⟩ := hv
  obtain ⟨b, off, rfl, -⟩ := hcell 0 (by omega)
  clear hcell hnil
  have hq := fun w : World => run_eql_slice_nil (P := Try.prog) w 22 42 (some ⟨b, off, none⟩) n cap Try.underlying22
  have ho0 : (w.alloc (.cells #[] 42)).ownsRow w.heap.size 42 1 (.slice (some ⟨w.heap.size, 0, none⟩) 0 0) 0 [] := World.ownsRow_made w #[] 0 (Nat.le_refl _) (by simp [maxLen]) (by simp)
  have hb0 : Below w.heap.size w (w.alloc (.cells #[] 42)) := (Below.refl _ _).alloc (Nat.le_refl _) _
  have hsrc : Src Try.prog 1 _ 22 _ n vs := Src.row Try.underlying22 (hv'.below hb0 rfl) hone
  clear hv'
  go_enter Try.func77, Try.ntmps77
  go_wp2_with (at_builtin; refine wpList_append_any rfl (.tmp 5) (.tmp 6) 22 22 rfl w.heap.size 42 (.slice none 0 0) 1 24 Try.underlying22 slice_info rfl _ 0 [] rfl ho0 _ n vs rfl hsrc (by omega) (by simp only [maxLen]; omega) hb0.size ?_; intro v3 w1 ho1 hg1)
  go_ret
  have hb1 := Below.grown hb0 hg1 hb0.size (fun k hk => (World.ownsRow.lt ho0 k hk).1)
  have ho2 : w1.ownsRow w.heap.size 42 1 v3 n vs := by simpa using ho1
  have ho2' := ho2
  obtain ⟨_, hr⟩ := ho2'
  rcases hr with ⟨_, hn⟩ | ⟨g, cap', _, rfl, hB, _⟩
  · exact absurd hn hn0
  · exact ⟨g, cap', rfl, hB, ho2, hb1⟩

/-- A disk's content. -/
structure Dk where
  sec : List (List UInt8)
  left : Int
  tear : Int
  stopped : Bool
deriving Repr, DecidableEq

/-- The valid disks of the chapter. -/
structure Dk.Ok (d : Dk) : Prop where
  one : 1 ≤ d.sec.length
  many : d.sec.length ≤ 4096
  size : ∀ i (h : i < d.sec.length), (d.sec[i]).length = 128
  left1 : -1 ≤ d.left
  left2 : d.left ≤ 1099511627776
  tear1 : 0 ≤ d.tear
  tear2 : d.tear ≤ 128
  tears : d.left = -1 → d.tear = 0
  stops : d.stopped = true → d.left = 0

def putAt (ll : List (List UInt8)) (i : Nat) (b : List UInt8) : List (List UInt8) := ll.set i (b ++ (ll.getD i []).drop b.length)

/-- A sector write, as far as it is performed. -/
def Dk.wr (d : Dk) (i : Nat) (b : List UInt8) : Dk × Int :=
  if d.stopped then (d, 300)
  else if d.left = 0 then ({ d with sec := putAt d.sec i (b.take d.tear.toNat), stopped := true }, 300)
  else ({ d with sec := putAt d.sec i b, left := if 0 < d.left then d.left - 1 else d.left }, 0)

/-- The writer's block. -/
def wtr (sv : Value) (left tear : Int) (st : Bool) : Obj := .cells #[sv, .int .i64 left, .int .i64 tear, .bool st] 93

set_option maxHeartbeats 400000 in
theorem put_any (S S' : Nat → Bool) (w0 w : World) (hS1 : ∀ k, S' k = true → S k = true ∨ w0.heap.size ≤ k) (hS2 : ∀ k, S' k = true → k < w.heap.size) (hB : Below w0.heap.size w0 w) (p : Nat) (hpB : w0.heap.size ≤ p) (sv : Value) (left tear : Int) (st : Bool) (ll : List (List UInt8)) (hp : w.heap[p]? = some (wtr sv left tear st)) (hsv : IsLists (mask S w0) sv ll) (hll : ll.length ≤ 4096) (i : Nat) (hi : i < ll.length) (h128 : (ll[i]).length ≤ 128) (h1 : ll[i] ≠ [])
    (bv : Value) (b : List UInt8) (hb : IsBytes w0 bv b) (hbl : b.length ≤ (ll[i]).length) :
    Calls Try.prog 67 #[.pointer (some ⟨p, 0, none⟩), .int .i64 i, bv] w fun e w' => e = .returned (.tuple #[]) ∧ ∃ sv', w'.heap[p]? = some (wtr sv' left tear st) ∧ IsLists (mask S' w') sv' (ll.set i (b ++ ll[i].drop b.length)) ∧ Below w0.heap.size w0 w' ∧ ∀ k, k < w.heap.size → k ≠ p → w'.heap[k]? = w.heap[k]? := by
  have hsw := (hsv.sub (mask_is S w0)).below hB rfl
  have hbw := hb.below hB rfl
  obtain ⟨base, cap, rfl, hl1, hcap, hnil, hcell⟩ := hsw.out
  obtain ⟨b0, off, u0, rfl, hc0, hu0⟩ := hcell i hi
  have hu0' := hu0
  obtain ⟨ub, ucap, rfl, hul, hucap, -, hucell⟩ := hu0.out
  clear hcell hnil hucell
  have hplt : p < w.heap.size := (Array.getElem?_eq_some_iff.1 hp).1
  have cp0 : w.cell? ⟨p, 0, none⟩ = some (.slice (some ⟨b0, off, none⟩) ll.length cap) := by rw [cell_of_row _ _ _ _ _ _ hp]; rfl
  unfold maxLen at hcap
  have hine : ll ≠ [] := by intro e; subst e; simp at hi
  generalize hli : ll[i] = li at *
  go_enter Try.func67, Try.ntmps67
  go_wp2_with fail
  refine (clone_bytes _ _ li hu0' h1 (by omega)).mono ?_
  rintro e w1 ⟨sx, rfl, hos, hb1⟩
  obtain ⟨gs, cs, rfl, hgs⟩ := hos.shape h1
  have hB1 := hB.trans (hb1.mono hB.size)
  have hbw1 := hbw.below hb1 rfl
  have cp1 : w1.cell? ⟨p, 0, none⟩ = some (.slice (some ⟨b0, off, none⟩) ll.length cap) := by rw [hb1.cell hplt]; exact cp0
  have hgw : w.heap.size ≤ w1.heap.size := hb1.size
  go_wp2_with (refine wpList_copy_bytes rfl (.tmp 16) (.tmp 17) 42 42 rfl 5 Try.underlying42 byte_rows w.heap.size gs li.length cs li rfl hos _ b rfl hbw1 hbl ?_; intro w2 ho2 hg2; have cp2 : w2.cell? ⟨p, 0, none⟩ = some (.slice (some ⟨b0, off, none⟩) ll.length cap) := (World.cell?_of_block (hg2.block p (Nat.lt_of_lt_of_le hplt hgw) (fun e => by cases e; omega))).trans cp1)
  have hb2 : Below w.heap.size w w2 := Below.grown hb1 hg2 hgw (fun k hk => by cases hk; exact hgs)
  obtain ⟨vs, hrow, hone, hvs⟩ := hsv.parts
  have HVS := Lib.hid hvs
  clear hvs
  have hrow2 := (hrow.sub (mask_is S w0)).below (hB.trans (hb2.mono hB.size)) rfl
  refine (clone_lists _ _ ll.length vs hrow2 hone (by omega) hll).mono ?_
  rintro e w3 ⟨gy, cy, rfl, hgy, hol, hb3⟩
  have ho3 := ho2.later hb3
  have hp2 : w2.heap[p]? = w.heap[p]? := hb2.block p hplt
  have hgw2 : w.heap.size ≤ w2.heap.size := hb2.size
  have hp3 : w3.heap[p]? = some (wtr (.slice (some ⟨b0, off, none⟩) ll.length cap) left tear st) := by
    rw [hb3.block p (Nat.lt_of_lt_of_le hplt hgw2), hp2]; exact hp
  have cp3 : w3.cell? ⟨p, 0, none⟩ = some (.slice (some ⟨b0, off, none⟩) ll.length cap) := by rw [cell_of_row _ _ _ _ _ _ hp3]; rfl
  have fp3 : w3.frozen? ⟨p, 0, none⟩ = false := frozen_of_row _ _ _ _ _ hp3
  have hpgy : p ≠ gy := by omega
  have hb30 : Below w0.heap.size w0 w3 := hB.trans ((hb2.trans (hb3.mono hgw2)).mono hB.size)
  have hgs2 : gs < w2.heap.size := (World.ownsRow.lt ho2 gs rfl).2
  have hol4 := hol.kept (setCell_grown w3 ⟨p, 0, none⟩ (.slice (some ⟨gy, 0, none⟩) ll.length cy)) (.inr (fun e => hpgy (by cases e; rfl)))
  obtain ⟨uo, huo1, huo2⟩ := HVS.out i hi
  obtain ⟨uob, uoc, rfl, -⟩ := huo2.out
  have cp4 := (World.ownsRow.cellAt hol4 i (by omega)).trans huo1
  have fp4 := World.ownsRow.frozenAt hol4 i
  have HOL4 := Lib.hid hol4
  clear hol4 hol
  go_wp2_with fail
  have hol4 := HOL4.out
  have hgyw : gy < w3.heap.size := by
    have := (World.ownsRow.lt hol4 gy rfl).2
    simpa [World.setCell] using this
  have hgsgy : gs ≠ gy := by omega
  have hgsp : gs ≠ p := by omega
  have hst := (World.ownsRow.stored hol4 i (.slice (some ⟨gs, 0, none⟩) li.length cs)).1
  have hbw' : Below w0.heap.size w0 ((w3.setCell ⟨p, 0, none⟩ (.slice (some ⟨gy, 0, none⟩) ll.length cy)).setCell ⟨gy, i, none⟩ (.slice (some ⟨gs, 0, none⟩) li.length cs)) :=
    (hb30.setCell hpB _).setCell (by show _ ≤ gy; have := hB.size; omega) _
  have hlen' : (b ++ li.drop b.length).length = li.length := by rw [List.length_append, List.length_drop]; omega
  refine bodyPost_end (v := .tuple #[]) (results_none rfl _ _ _) rfl ⟨rfl, .slice (some ⟨gy, 0, none⟩) ll.length cy, ?_, ?_, hbw', fun k hk hkp => ?_⟩
  · rw [heap_setCell_other _ _ _ _ hpgy]
    rw [heap_setCell_same _ p 0 _ _ _ hp3]
    rfl
  · have hL : (ll.set i (b ++ li.drop b.length)).length = ll.length := List.length_set
    have hoff : ∀ x : Nat, w.heap.size ≤ x → S' x = false := fun x hx => by
      cases h : S' x with
      | false => rfl
      | true => have := hS2 x h; omega
    refine isLists_of_row (vs := vs.set i (.slice (some ⟨gs, 0, none⟩) li.length cs)) (by rw [hL]; exact ownsRow_mask hst (fun k hk => hoff k (by
      have : gy = k := by cases hk; rfl
      omega))) (fun j hj => ?_)
    rw [hL] at hj
    have hvl : vs.length = ll.length := by obtain ⟨_, _, _, h, _⟩ := hrow; omega
    by_cases e : i = j
    · subst e
      refine ⟨_, by rw [List.getElem?_set, if_pos rfl, if_pos (by omega)], ?_⟩
      rw [List.getElem_set_self]
      have hh := ((ho3.is).setCell ⟨p, 0, none⟩ (.slice (some ⟨gy, 0, none⟩) ll.length cy) (fun bb hbb => by cases hbb; exact hgsp)).setCell ⟨gy, i, none⟩ (.slice (some ⟨gs, 0, none⟩) li.length cs) (fun bb hbb => by cases hbb; exact hgsgy)
      exact mask_row hh (fun k hk => hoff k (by
        have : gs = k := by cases hk; rfl
        omega))
    · obtain ⟨x, k1, k2⟩ := HVS.out j hj
      refine ⟨x, by rw [List.getElem?_set, if_neg e]; exact k1, ?_⟩
      rw [List.getElem_set_ne e]
      exact k2.sub (mask_more hbw' rfl hS1)
  · rw [heap_setCell_other _ _ _ _ (by show k ≠ gy; omega), heap_setCell_other _ _ _ _ hkp]
    exact (hb3.block k (by omega)).trans (hb2.block k hk)

theorem wtr_cells {w : World} {p : Nat} {sv : Value} {left tear : Int} {st : Bool} (hp : w.heap[p]? = some (wtr sv left tear st)) :
    w.cell? ⟨p, 0, none⟩ = some sv ∧ w.cell? ⟨p, 1, none⟩ = some (.int .i64 left) ∧ w.cell? ⟨p, 2, none⟩ = some (.int .i64 tear) ∧ w.cell? ⟨p, 3, none⟩ = some (.bool st) ∧
    w.frozen? ⟨p, 1, none⟩ = false ∧ w.frozen? ⟨p, 3, none⟩ = false := by
  refine ⟨?_, ?_, ?_, ?_, frozen_of_row _ _ _ _ _ hp, frozen_of_row _ _ _ _ _ hp⟩ <;> rw [cell_of_row _ _ _ _ _ _ hp] <;> rfl

set_option maxHeartbeats 400000 in
theorem write_any (S S' : Nat → Bool) (w0 w : World) (hS1 : ∀ k, S' k = true → S k = true ∨ w0.heap.size ≤ k) (hS2 : ∀ k, S' k = true → k < w.heap.size) (hB : Below w0.heap.size w0 w) (p : Nat) (hSp : S' p = true) (hpB : w0.heap.size ≤ p) (d : Dk) (hd : d.Ok) (sv : Value) (hp : w.heap[p]? = some (wtr sv d.left d.tear d.stopped)) (hsv : IsLists (mask S w0) sv d.sec) (i : Nat) (hi : i < d.sec.length)
    (bv : Value) (b : List UInt8) (hb : IsBytes w0 bv b) (hbl : b.length = 128) :
    Calls Try.prog 60 #[.pointer (some ⟨p, 0, none⟩), .int .i64 i, bv] w fun e w' => e = .returned (.int .i64 (d.wr i b).2) ∧ ∃ sv', w'.heap[p]? = some (wtr sv' (d.wr i b).1.left (d.wr i b).1.tear (d.wr i b).1.stopped) ∧ IsLists (mask S' w') sv' (d.wr i b).1.sec ∧ Below w0.heap.size w0 w' ∧ ∀ k, k < w.heap.size → k ≠ p → w'.heap[k]? = w.heap[k]? := by
  obtain ⟨c0, c1, c2, c3, f1, f3⟩ := wtr_cells hp
  have hplt : p < w.heap.size := (Array.getElem?_eq_some_iff.1 hp).1
  have h128 := hd.size i hi
  obtain ⟨sec, left, tear, st⟩ := d
  obtain ⟨-, hmany, -, hl1, hl2, ht1, ht2, -, -⟩ := hd
  simp only at *
  obtain ⟨t, rfl⟩ : ∃ t : Nat, tear = (t : Int) := ⟨tear.toNat, by omega⟩
  have hne : sec[i] ≠ [] := by intro e; rw [e] at h128; simp at h128
  have hgetD : sec[i]?.getD [] = sec[i] := by simp [hi]
  have hbw := hb.below hB rfl
  cases st with
  | true =>
    go_enter Try.func60, Try.ntmps60
    go_wp2
    go_ret
    refine ⟨by simp [Dk.wr], sv, by simpa [Dk.wr] using hp, by simpa [Dk.wr] using hsv.sub (mask_more hB rfl hS1), hB, fun _ _ _ => rfl⟩
  | false =>
    by_cases h0 : left = 0
    · subst h0
      obtain ⟨bb, bc, rfl, hblc, -, -, -⟩ := hb.out
      have htk : (b.take t).length = t := by rw [List.length_take]; omega
      have hq := fun w : World => run_slice_row_to (P := Try.prog) (t := 42) Try.underlying42 byte_rows w bb b.length bc .i64 t (by omega)
      have hbt : IsBytes w0 (.slice bb t bc) (b.take t) := hb.take t (by omega)
      go_enter Try.func60, Try.ntmps60
      go_wp2_with fail
      refine (put_any S S' w0 _ hS1 hS2 hB p hpB sv _ _ _ sec hp hsv hmany i hi (by omega) hne _ (b.take t) hbt (by omega)).mono ?_
      rintro e w1 ⟨rfl, sv1, hp1, hs1, hB1, hK1⟩
      obtain ⟨c0', c1', c2', c3', f1', f3'⟩ := wtr_cells hp1
      go_wp2_with fail
      go_ret
      refine ⟨by simp [Dk.wr], sv1, ?_, ?_, hB1.setCell hpB _, fun k hk hkp => (heap_setCell_other _ _ _ _ hkp).trans (hK1 k hk hkp)⟩
      · simp only [Dk.wr]
        rw [heap_setCell_same _ p 3 _ _ _ hp1]
        rfl
      · have := hs1.sub (mask_set ⟨p, 3, none⟩ (.bool true) hSp)
        simpa [Dk.wr, putAt, hgetD] using this
    · go_enter Try.func60, Try.ntmps60
      go_wp2_with fail
      refine (put_any S S' w0 _ hS1 hS2 hB p hpB sv _ _ _ sec hp hsv hmany i hi (by omega) hne _ b hb (by omega)).mono ?_
      rintro e w1 ⟨rfl, sv1, hp1, hs1, hB1, hK1⟩
      obtain ⟨c0', c1', c2', c3', f1', f3'⟩ := wtr_cells hp1
      by_cases hlt : 0 < left
      · go_wp2_with fail
        go_ret
        refine ⟨by simp [Dk.wr, h0], sv1, ?_, ?_, hB1.setCell hpB _, fun k hk hkp => (heap_setCell_other _ _ _ _ hkp).trans (hK1 k hk hkp)⟩
        · simp only [Dk.wr, h0, hlt]
          rw [heap_setCell_same _ p 1 _ _ _ hp1]
          rfl
        · have := hs1.sub (mask_set ⟨p, 1, none⟩ (.int .i64 (left - 1)) hSp)
          simpa [Dk.wr, putAt, hgetD, h0, hlt] using this
      · go_wp2_with fail
        go_ret
        refine ⟨by simp [Dk.wr, h0], sv1, ?_, ?_, hB1, hK1⟩
        · have e : (if 0 < left then left - 1 else left) = left := if_neg (by omega)
          simpa [Dk.wr, h0, e] using hp1
        · have := hs1
          simpa [Dk.wr, putAt, hgetD, h0, hlt] using this

end Go.Proofs.Ytnfgapdpnihicaa
/- The walks over package disk: Check, for every disk. -/
set_option linter.unusedVariables false
namespace Go.Proofs.Ytnfgapdpnihicaa
open Go.RowKit

/-- The chapter's test, as a Boolean. -/
def Dk.valid (d : Dk) : Bool :=
  decide (1 ≤ d.sec.length ∧ d.sec.length ≤ 4096 ∧ -1 ≤ d.left ∧ d.left ≤ 1099511627776 ∧ 0 ≤ d.tear ∧ d.tear ≤ 128 ∧ (d.left = -1 → d.tear = 0) ∧ (d.stopped = true → d.left = 0)) && d.sec.all (fun s => s.length == 128)

theorem Dk.valid_iff (d : Dk) : d.valid = true ↔ d.Ok := by
  simp only [Dk.valid, Bool.and_eq_true, decide_eq_true_eq, List.all_eq_true, beq_iff_eq]
  constructor
  · rintro ⟨⟨h1, h2, h3, h4, h5, h6, h7, h8⟩, h9⟩
    exact ⟨h1, h2, fun i h => h9 _ (List.getElem_mem h), h3, h4, h5, h6, h7, h8⟩
  · rintro ⟨h1, h2, h9, h3, h4, h5, h6, h7, h8⟩
    refine ⟨⟨h1, h2, h3, h4, h5, h6, h7, h8⟩, fun s hs => ?_⟩
    obtain ⟨i, hi, rfl⟩ := List.getElem_of_mem hs
    exact h9 i hi

/-- A disk's value. -/
def dkV (sv : Value) (left tear : Int) (st : Bool) : Value := .agg #[sv, .int .i64 left, .int .i64 tear, .bool st]
def IsDk (w : World) (v : Value) (d : Dk) : Prop := ∃ sv, v = dkV sv d.left d.tear d.stopped ∧ IsLists w sv d.sec
theorem IsDk.below {B : Nat} {w w' : World} {v : Value} {d : Dk} (h : IsDk w v d) (hb : Below B w w') (hB : B = w.heap.size) : IsDk w' v d := by
  obtain ⟨sv, h1, h2⟩ := h
  exact ⟨sv, h1, h2.below hb hB⟩

theorem IsDk.sub {w w' : World} {v : Value} {d : Dk} (h : IsDk w v d) (k : Sub w w') : IsDk w' v d := by
  obtain ⟨sv, h1, h2⟩ := h
  exact ⟨sv, h1, h2.sub k⟩

set_option maxHeartbeats 400000 in
theorem check_good1 (w : World) (base : Option Addr) (cap : Nat) (sec : List (List UInt8)) (left tear : Int) (st : Bool) (hcap : cap ≤ 9223372036854775807) (hl1 : sec.length ≤ cap) (k1 : ¬ (sec.length : Int) < 1) (k2 : ¬ (4096 : Int) < (sec.length : Int)) (HC : Hid (∀ i (h : i < sec.length), ∃ b off u, base = some ⟨b, off, none⟩ ∧ (w.alloc (.cells #[.slice base sec.length cap, .int .i64 (-1), .int .i64 0, .bool false] 24)).cell? ⟨b, off + i, none⟩ = some u ∧ IsBytes w u sec[i])) (r : Int) (hr : Hid (r = if sec.all (fun s => s.length == 128) then 0 else 1)) :
    Calls Try.prog 55 #[.agg #[.slice base sec.length cap, .int .i64 (-1), .int .i64 0, .bool false]] w fun e w' => e = .returned (.int .i64 r) ∧ Below w.heap.size w w' := by
  have hB0 : Below w.heap.size w (w.alloc (.cells #[.slice base sec.length cap, .int .i64 (-1), .int .i64 0, .bool false] 24)) := (Below.refl _ _).alloc (Nat.le_refl _) _
  go_enter Try.func55, Try.ntmps55
  go_wp2
  go_loop [4, 56] (fun s c => ∃ k : Nat, k ≤ sec.length ∧ c = .int .i64 k ∧ ∀ j (h : j < sec.length), j < k → (sec[j]).length = 128) (fun _ c => sec.length - (intOf c).toNat)
  case atStart => exact ⟨0, by omega, rfl, fun j _ h => absurd h (by omega)⟩
  case round =>
    obtain ⟨k, hk, rfl, hall⟩ := hrel
    have HA := Lib.hid hall
    clear hall
    by_cases hlt : k < sec.length
    · obtain ⟨b, off, u, rfl, hx, hu⟩ := HC.out k hlt
      obtain ⟨ub, uc, rfl, -, -, -, -⟩ := hu.out
      clear hu
      obtain ⟨m, hm⟩ : ∃ m, (sec[k]).length = m := ⟨_, rfl⟩
      have HM := Lib.hid hm
      rw [hm] at hx
      clear hm
      cases h128 : ((m : Int) != 128)
      · go_wp2
        go_round
        case rel => exact ⟨k + 1, by omega, by go_num, fun j hj hjk => by
          by_cases e : j = k
          · subst e; have := HM.out; simp only [bne_eq_false_iff_eq] at h128; omega
          · exact HA.out j hj (by omega)⟩
        case measure => simp [intOf]; omega
      · go_wp2
        go_ret
        refine ⟨?_, hB0⟩
        have : sec.all (fun s => s.length == 128) = false := by
          rw [List.all_eq_false]
          exact ⟨_, List.getElem_mem hlt, by simp only [beq_iff_eq]; have := HM.out; simp only [bne_iff_ne] at h128; omega⟩
        rw [hr.out, this]; rfl
    · obtain rfl : k = sec.length := by omega
      go_wp2
      go_ret
      refine ⟨?_, hB0⟩
      have : sec.all (fun s => s.length == 128) = true := by
        rw [List.all_eq_true]
        intro s hs
        obtain ⟨i, hi, rfl⟩ := List.getElem_of_mem hs
        simp only [beq_iff_eq]
        exact HA.out i hi hi
      rw [hr.out, this]; rfl

set_option maxHeartbeats 400000 in
theorem check_good2 (w : World) (base : Option Addr) (cap : Nat) (sec : List (List UInt8)) (left tear : Int) (st : Bool) (hcap : cap ≤ 9223372036854775807) (hl1 : sec.length ≤ cap) (k1 : ¬ (sec.length : Int) < 1) (k2 : ¬ (4096 : Int) < (sec.length : Int)) (k5 : ¬ tear < 0) (k6 : ¬ (128 : Int) < tear) (HC : Hid (∀ i (h : i < sec.length), ∃ b off u, base = some ⟨b, off, none⟩ ∧ (w.alloc (.cells #[.slice base sec.length cap, .int .i64 0, .int .i64 tear, .bool true] 24)).cell? ⟨b, off + i, none⟩ = some u ∧ IsBytes w u sec[i])) (r : Int) (hr : Hid (r = if sec.all (fun s => s.length == 128) then 0 else 1)) :
    Calls Try.prog 55 #[.agg #[.slice base sec.length cap, .int .i64 0, .int .i64 tear, .bool true]] w fun e w' => e = .returned (.int .i64 r) ∧ Below w.heap.size w w' := by
  have hB0 : Below w.heap.size w (w.alloc (.cells #[.slice base sec.length cap, .int .i64 0, .int .i64 tear, .bool true] 24)) := (Below.refl _ _).alloc (Nat.le_refl _) _
  go_enter Try.func55, Try.ntmps55
  go_wp2
  go_loop [4, 56] (fun s c => ∃ k : Nat, k ≤ sec.length ∧ c = .int .i64 k ∧ ∀ j (h : j < sec.length), j < k → (sec[j]).length = 128) (fun _ c => sec.length - (intOf c).toNat)
  case atStart => exact ⟨0, by omega, rfl, fun j _ h => absurd h (by omega)⟩
  case round =>
    obtain ⟨k, hk, rfl, hall⟩ := hrel
    have HA := Lib.hid hall
    clear hall
    by_cases hlt : k < sec.length
    · obtain ⟨b, off, u, rfl, hx, hu⟩ := HC.out k hlt
      obtain ⟨ub, uc, rfl, -, -, -, -⟩ := hu.out
      clear hu
      obtain ⟨m, hm⟩ : ∃ m, (sec[k]).length = m := ⟨_, rfl⟩
      have HM := Lib.hid hm
      rw [hm] at hx
      clear hm
      cases h128 : ((m : Int) != 128)
      · go_wp2
        go_round
        case rel => exact ⟨k + 1, by omega, by go_num, fun j hj hjk => by
          by_cases e : j = k
          · subst e; have := HM.out; simp only [bne_eq_false_iff_eq] at h128; omega
          · exact HA.out j hj (by omega)⟩
        case measure => simp [intOf]; omega
      · go_wp2
        go_ret
        refine ⟨?_, hB0⟩
        have : sec.all (fun s => s.length == 128) = false := by
          rw [List.all_eq_false]
          exact ⟨_, List.getElem_mem hlt, by simp only [beq_iff_eq]; have := HM.out; simp only [bne_iff_ne] at h128; omega⟩
        rw [hr.out, this]; rfl
    · obtain rfl : k = sec.length := by omega
      go_wp2
      go_ret
      refine ⟨?_, hB0⟩
      have : sec.all (fun s => s.length == 128) = true := by
        rw [List.all_eq_true]
        intro s hs
        obtain ⟨i, hi, rfl⟩ := List.getElem_of_mem hs
        simp only [beq_iff_eq]
        exact HA.out i hi hi
      rw [hr.out, this]; rfl

set_option maxHeartbeats 400000 in
theorem check_good3 (w : World) (base : Option Addr) (cap : Nat) (sec : List (List UInt8)) (left tear : Int) (st : Bool) (hcap : cap ≤ 9223372036854775807) (hl1 : sec.length ≤ cap) (k1 : ¬ (sec.length : Int) < 1) (k2 : ¬ (4096 : Int) < (sec.length : Int)) (k3 : ¬ left < -1) (k4 : ¬ (1099511627776 : Int) < left) (k5 : ¬ tear < 0) (k6 : ¬ (128 : Int) < tear) (k7 : left ≠ -1) (HC : Hid (∀ i (h : i < sec.length), ∃ b off u, base = some ⟨b, off, none⟩ ∧ (w.alloc (.cells #[.slice base sec.length cap, .int .i64 left, .int .i64 tear, .bool false] 24)).cell? ⟨b, off + i, none⟩ = some u ∧ IsBytes w u sec[i])) (r : Int) (hr : Hid (r = if sec.all (fun s => s.length == 128) then 0 else 1)) :
    Calls Try.prog 55 #[.agg #[.slice base sec.length cap, .int .i64 left, .int .i64 tear, .bool false]] w fun e w' => e = .returned (.int .i64 r) ∧ Below w.heap.size w w' := by
  have hB0 : Below w.heap.size w (w.alloc (.cells #[.slice base sec.length cap, .int .i64 left, .int .i64 tear, .bool false] 24)) := (Below.refl _ _).alloc (Nat.le_refl _) _
  go_enter Try.func55, Try.ntmps55
  go_wp2
  go_loop [4, 56] (fun s c => ∃ k : Nat, k ≤ sec.length ∧ c = .int .i64 k ∧ ∀ j (h : j < sec.length), j < k → (sec[j]).length = 128) (fun _ c => sec.length - (intOf c).toNat)
  case atStart => exact ⟨0, by omega, rfl, fun j _ h => absurd h (by omega)⟩
  case round =>
    obtain ⟨k, hk, rfl, hall⟩ := hrel
    have HA := Lib.hid hall
    clear hall
    by_cases hlt : k < sec.length
    · obtain ⟨b, off, u, rfl, hx, hu⟩ := HC.out k hlt
      obtain ⟨ub, uc, rfl, -, -, -, -⟩ := hu.out
      clear hu
      obtain ⟨m, hm⟩ : ∃ m, (sec[k]).length = m := ⟨_, rfl⟩
      have HM := Lib.hid hm
      rw [hm] at hx
      clear hm
      cases h128 : ((m : Int) != 128)
      · go_wp2
        go_round
        case rel => exact ⟨k + 1, by omega, by go_num, fun j hj hjk => by
          by_cases e : j = k
          · subst e; have := HM.out; simp only [bne_eq_false_iff_eq] at h128; omega
          · exact HA.out j hj (by omega)⟩
        case measure => simp [intOf]; omega
      · go_wp2
        go_ret
        refine ⟨?_, hB0⟩
        have : sec.all (fun s => s.length == 128) = false := by
          rw [List.all_eq_false]
          exact ⟨_, List.getElem_mem hlt, by simp only [beq_iff_eq]; have := HM.out; simp only [bne_iff_ne] at h128; omega⟩
        rw [hr.out, this]; rfl
    · obtain rfl : k = sec.length := by omega
      go_wp2
      go_ret
      refine ⟨?_, hB0⟩
      have : sec.all (fun s => s.length == 128) = true := by
        rw [List.all_eq_true]
        intro s hs
        obtain ⟨i, hi, rfl⟩ := List.getElem_of_mem hs
        simp only [beq_iff_eq]
        exact HA.out i hi hi
      rw [hr.out, this]; rfl

set_option maxHeartbeats 400000 in
theorem check_bad1 (w : World) (base : Option Addr) (cap : Nat) (sec : List (List UInt8)) (left tear : Int) (st : Bool) (hcap : cap ≤ 9223372036854775807) (hl1 : sec.length ≤ cap) (k1 : (sec.length : Int) < 1) :
    Calls Try.prog 55 #[.agg #[.slice base sec.length cap, .int .i64 left, .int .i64 tear, .bool st]] w fun e w' => e = .returned (.int .i64 1) ∧ Below w.heap.size w w' := by
  have hB0 : Below w.heap.size w (w.alloc (.cells #[.slice base sec.length cap, .int .i64 left, .int .i64 tear, .bool st] 24)) := (Below.refl _ _).alloc (Nat.le_refl _) _
  go_enter Try.func55, Try.ntmps55
  go_wp2
  go_ret
  exact ⟨rfl, hB0⟩

set_option maxHeartbeats 400000 in
theorem check_bad2 (w : World) (base : Option Addr) (cap : Nat) (sec : List (List UInt8)) (left tear : Int) (st : Bool) (hcap : cap ≤ 9223372036854775807) (hl1 : sec.length ≤ cap) (k1 : ¬ (sec.length : Int) < 1) (k2 : (4096 : Int) < (sec.length : Int)) :
    Calls Try.prog 55 #[.agg #[.slice base sec.length cap, .int .i64 left, .int .i64 tear, .bool st]] w fun e w' => e = .returned (.int .i64 1) ∧ Below w.heap.size w w' := by
  have hB0 : Below w.heap.size w (w.alloc (.cells #[.slice base sec.length cap, .int .i64 left, .int .i64 tear, .bool st] 24)) := (Below.refl _ _).alloc (Nat.le_refl _) _
  go_enter Try.func55, Try.ntmps55
  go_wp2
  go_ret
  exact ⟨rfl, hB0⟩

set_option maxHeartbeats 400000 in
theorem check_bad3 (w : World) (base : Option Addr) (cap : Nat) (sec : List (List UInt8)) (left tear : Int) (st : Bool) (hcap : cap ≤ 9223372036854775807) (hl1 : sec.length ≤ cap) (k1 : ¬ (sec.length : Int) < 1) (k2 : ¬ (4096 : Int) < (sec.length : Int)) (k3 : left < -1) :
    Calls Try.prog 55 #[.agg #[.slice base sec.length cap, .int .i64 left, .int .i64 tear, .bool st]] w fun e w' => e = .returned (.int .i64 1) ∧ Below w.heap.size w w' := by
  have hB0 : Below w.heap.size w (w.alloc (.cells #[.slice base sec.length cap, .int .i64 left, .int .i64 tear, .bool st] 24)) := (Below.refl _ _).alloc (Nat.le_refl _) _
  go_enter Try.func55, Try.ntmps55
  go_wp2
  go_ret
  exact ⟨rfl, hB0⟩

set_option maxHeartbeats 400000 in
theorem check_bad4 (w : World) (base : Option Addr) (cap : Nat) (sec : List (List UInt8)) (left tear : Int) (st : Bool) (hcap : cap ≤ 9223372036854775807) (hl1 : sec.length ≤ cap) (k1 : ¬ (sec.length : Int) < 1) (k2 : ¬ (4096 : Int) < (sec.length : Int)) (k3 : ¬ left < -1) (k4 : (1099511627776 : Int) < left) :
    Calls Try.prog 55 #[.agg #[.slice base sec.length cap, .int .i64 left, .int .i64 tear, .bool st]] w fun e w' => e = .returned (.int .i64 1) ∧ Below w.heap.size w w' := by
  have hB0 : Below w.heap.size w (w.alloc (.cells #[.slice base sec.length cap, .int .i64 left, .int .i64 tear, .bool st] 24)) := (Below.refl _ _).alloc (Nat.le_refl _) _
  go_enter Try.func55, Try.ntmps55
  go_wp2
  go_ret
  exact ⟨rfl, hB0⟩

set_option maxHeartbeats 400000 in
theorem check_bad5 (w : World) (base : Option Addr) (cap : Nat) (sec : List (List UInt8)) (left tear : Int) (st : Bool) (hcap : cap ≤ 9223372036854775807) (hl1 : sec.length ≤ cap) (k1 : ¬ (sec.length : Int) < 1) (k2 : ¬ (4096 : Int) < (sec.length : Int)) (k3 : ¬ left < -1) (k4 : ¬ (1099511627776 : Int) < left) (k5 : tear < 0) :
    Calls Try.prog 55 #[.agg #[.slice base sec.length cap, .int .i64 left, .int .i64 tear, .bool st]] w fun e w' => e = .returned (.int .i64 1) ∧ Below w.heap.size w w' := by
  have hB0 : Below w.heap.size w (w.alloc (.cells #[.slice base sec.length cap, .int .i64 left, .int .i64 tear, .bool st] 24)) := (Below.refl _ _).alloc (Nat.le_refl _) _
  go_enter Try.func55, Try.ntmps55
  go_wp2
  go_ret
  exact ⟨rfl, hB0⟩

set_option maxHeartbeats 400000 in
theorem check_bad6 (w : World) (base : Option Addr) (cap : Nat) (sec : List (List UInt8)) (left tear : Int) (st : Bool) (hcap : cap ≤ 9223372036854775807) (hl1 : sec.length ≤ cap) (k1 : ¬ (sec.length : Int) < 1) (k2 : ¬ (4096 : Int) < (sec.length : Int)) (k3 : ¬ left < -1) (k4 : ¬ (1099511627776 : Int) < left) (k5 : ¬ tear < 0) (k6 : (128 : Int) < tear) :
    Calls Try.prog 55 #[.agg #[.slice base sec.length cap, .int .i64 left, .int .i64 tear, .bool st]] w fun e w' => e = .returned (.int .i64 1) ∧ Below w.heap.size w w' := by
  have hB0 : Below w.heap.size w (w.alloc (.cells #[.slice base sec.length cap, .int .i64 left, .int .i64 tear, .bool st] 24)) := (Below.refl _ _).alloc (Nat.le_refl _) _
  go_enter Try.func55, Try.ntmps55
  go_wp2
  go_ret
  exact ⟨rfl, hB0⟩

set_option maxHeartbeats 400000 in
theorem check_bad7 (w : World) (base : Option Addr) (cap : Nat) (sec : List (List UInt8)) (left tear : Int) (st : Bool) (hcap : cap ≤ 9223372036854775807) (hl1 : sec.length ≤ cap) (k1 : ¬ (sec.length : Int) < 1) (k2 : ¬ (4096 : Int) < (sec.length : Int)) (k5 : ¬ tear < 0) (k6 : ¬ (128 : Int) < tear) (k8 : tear ≠ 0) :
    Calls Try.prog 55 #[.agg #[.slice base sec.length cap, .int .i64 (-1), .int .i64 tear, .bool st]] w fun e w' => e = .returned (.int .i64 1) ∧ Below w.heap.size w w' := by
  have hB0 : Below w.heap.size w (w.alloc (.cells #[.slice base sec.length cap, .int .i64 (-1), .int .i64 tear, .bool st] 24)) := (Below.refl _ _).alloc (Nat.le_refl _) _
  go_enter Try.func55, Try.ntmps55
  go_wp2
  go_ret
  exact ⟨rfl, hB0⟩

set_option maxHeartbeats 400000 in
theorem check_bad8 (w : World) (base : Option Addr) (cap : Nat) (sec : List (List UInt8)) (left tear : Int) (st : Bool) (hcap : cap ≤ 9223372036854775807) (hl1 : sec.length ≤ cap) (k1 : ¬ (sec.length : Int) < 1) (k2 : ¬ (4096 : Int) < (sec.length : Int)) :
    Calls Try.prog 55 #[.agg #[.slice base sec.length cap, .int .i64 (-1), .int .i64 0, .bool true]] w fun e w' => e = .returned (.int .i64 1) ∧ Below w.heap.size w w' := by
  have hB0 : Below w.heap.size w (w.alloc (.cells #[.slice base sec.length cap, .int .i64 (-1), .int .i64 0, .bool true] 24)) := (Below.refl _ _).alloc (Nat.le_refl _) _
  go_enter Try.func55, Try.ntmps55
  go_wp2
  go_ret
  exact ⟨rfl, hB0⟩

set_option maxHeartbeats 400000 in
theorem check_bad9 (w : World) (base : Option Addr) (cap : Nat) (sec : List (List UInt8)) (left tear : Int) (st : Bool) (hcap : cap ≤ 9223372036854775807) (hl1 : sec.length ≤ cap) (k1 : ¬ (sec.length : Int) < 1) (k2 : ¬ (4096 : Int) < (sec.length : Int)) (k3 : ¬ left < -1) (k4 : ¬ (1099511627776 : Int) < left) (k5 : ¬ tear < 0) (k6 : ¬ (128 : Int) < tear) (k7 : left ≠ -1) (k8 : left ≠ 0) :
    Calls Try.prog 55 #[.agg #[.slice base sec.length cap, .int .i64 left, .int .i64 tear, .bool true]] w fun e w' => e = .returned (.int .i64 1) ∧ Below w.heap.size w w' := by
  have hB0 : Below w.heap.size w (w.alloc (.cells #[.slice base sec.length cap, .int .i64 left, .int .i64 tear, .bool true] 24)) := (Below.refl _ _).alloc (Nat.le_refl _) _
  go_enter Try.func55, Try.ntmps55
  go_wp2
  go_ret
  exact ⟨rfl, hB0⟩

theorem check_any (w : World) (v : Value) (d : Dk) (hv : IsDk w v d) :
    Calls Try.prog 55 #[v] w fun e w' => e = .returned (.int .i64 (if d.valid then 0 else 1)) ∧ Below w.heap.size w w' := by
  obtain ⟨sv, rfl, hl⟩ := hv
  obtain ⟨sec, left, tear, st⟩ := d
  simp only [dkV] at *
  obtain ⟨base, cap, rfl, hl1, hcap, -, hcell⟩ := hl.out
  unfold maxLen at hcap
  have hcap : cap ≤ 9223372036854775807 := hcap
  have HC : ∀ l t s, Hid (∀ i (h : i < sec.length), ∃ b off u, base = some ⟨b, off, none⟩ ∧ (w.alloc (.cells #[.slice base sec.length cap, .int .i64 l, .int .i64 t, .bool s] 24)).cell? ⟨b, off + i, none⟩ = some u ∧ IsBytes w u sec[i]) := by
    refine fun l t s => Lib.hid (fun i hi => ?_)
    obtain ⟨b, off, u, h1, h2, h3⟩ := hcell i hi
    refine ⟨b, off, u, h1, ?_, h3⟩
    have hb : b < w.heap.size := by
      rcases Nat.lt_or_ge b w.heap.size with h | h
      · exact h
      · simp [World.cell?, Array.getElem?_eq_none h] at h2
    rw [World.cell?_of_block (w := w) (Below.heap_alloc w _ b hb)]
    exact h2
  by_cases g : 1 ≤ sec.length ∧ sec.length ≤ 4096 ∧ -1 ≤ left ∧ left ≤ 1099511627776 ∧ 0 ≤ tear ∧ tear ≤ 128 ∧ (left = -1 → tear = 0) ∧ (st = true → left = 0)
  · have hval : Dk.valid ⟨sec, left, tear, st⟩ = sec.all (fun s => s.length == 128) := by simp only [Dk.valid]; rw [decide_eq_true g, Bool.true_and]
    rw [hval]
    obtain ⟨g1, g2, g3, g4, g5, g6, g7, g8⟩ := g
    by_cases e : left = -1
    · subst e
      have e := g7 rfl
      subst e
      cases st
      · exact check_good1 w base cap sec (-1) 0 false hcap hl1 (by omega) (by omega) (HC _ _ _) _ (Lib.hid rfl)
      · have := g8 rfl
        omega
    · cases st
      · exact check_good3 w base cap sec left tear false hcap hl1 (by omega) (by omega) (by omega) (by omega) (by omega) (by omega) e (HC _ _ _) _ (Lib.hid rfl)
      · obtain rfl := g8 rfl
        exact check_good2 w base cap sec 0 tear true hcap hl1 (by omega) (by omega) (by omega) (by omega) (HC _ _ _) _ (Lib.hid rfl)
  · have hval : Dk.valid ⟨sec, left, tear, st⟩ = false := by simp only [Dk.valid, decide_eq_false g, Bool.false_and]
    rw [hval]
    by_cases k1 : (sec.length : Int) < 1
    · exact check_bad1 w base cap sec left tear st hcap hl1 k1
    by_cases k2 : (4096 : Int) < (sec.length : Int)
    · exact check_bad2 w base cap sec left tear st hcap hl1 k1 k2
    by_cases k3 : left < -1
    · exact check_bad3 w base cap sec left tear st hcap hl1 k1 k2 k3
    by_cases k4 : (1099511627776 : Int) < left
    · exact check_bad4 w base cap sec left tear st hcap hl1 k1 k2 k3 k4
    by_cases k5 : tear < 0
    · exact check_bad5 w base cap sec left tear st hcap hl1 k1 k2 k3 k4 k5
    by_cases k6 : (128 : Int) < tear
    · exact check_bad6 w base cap sec left tear st hcap hl1 k1 k2 k3 k4 k5 k6
    by_cases k7 : left = -1
    · subst k7
      by_cases k8 : tear = 0
      · subst k8
        cases st
        · exact absurd ⟨by omega, by omega, by omega, by omega, by omega, by omega, fun _ => rfl, fun h => by simp at h⟩ g
        · exact check_bad8 w base cap sec (-1) 0 true hcap hl1 k1 k2
      · exact check_bad7 w base cap sec (-1) tear st hcap hl1 k1 k2 k5 k6 k8
    · cases st
      · exact absurd ⟨by omega, by omega, by omega, by omega, by omega, by omega, fun h => absurd h k7, fun h => by simp at h⟩ g
      · by_cases k8 : left = 0
        · exact absurd ⟨by omega, by omega, by omega, by omega, by omega, by omega, fun h => absurd h k7, fun _ => k8⟩ g
        · exact check_bad9 w base cap sec left tear true hcap hl1 k1 k2 k3 k4 k5 k6 k7 k8

end Go.Proofs.Ytnfgapdpnihicaa
/- The walks over package disk: Read, Write, Fail, Restart, for every disk. -/
namespace Go.Proofs.Ytnfgapdpnihicaa
open Go.RowKit

def Dk.zero : Dk := ⟨[], 0, 0, false⟩
def Dk.read (d : Dk) (i : Int) : List UInt8 × Int :=
  if d.valid = false ∨ i < 0 ∨ (d.sec.length : Int) ≤ i then ([], 1) else if d.stopped then ([], 300) else (d.sec.getD i.toNat [], 0)
def Dk.write (d : Dk) (i : Int) (b : List UInt8) : Dk × Int :=
  if d.valid = false ∨ i < 0 ∨ (d.sec.length : Int) ≤ i ∨ b.length ≠ 128 then (Dk.zero, 1) else d.wr i.toNat b
def Dk.fail (d : Dk) (left tear : Int) : Dk × Int :=
  if d.valid = false ∨ left < 0 ∨ 1099511627776 < left ∨ tear < 0 ∨ 128 < tear then (Dk.zero, 1) else if d.stopped then (Dk.zero, 300) else ({ d with left := left, tear := tear }, 0)
def Dk.restart (d : Dk) : Dk := if d.valid then { d with left := -1, tear := 0, stopped := false } else Dk.zero

theorem box_cells {w w1 : World} {sv : Value} {left tear : Int} {st : Bool} (hb : Below (w.alloc (.cells #[sv, .int .i64 left, .int .i64 tear, .bool st] 24)).heap.size (w.alloc (.cells #[sv, .int .i64 left, .int .i64 tear, .bool st] 24)) w1) :
    w1.cell? ⟨w.heap.size, 0, none⟩ = some sv ∧ w1.cell? ⟨w.heap.size, 1, none⟩ = some (.int .i64 left) ∧ w1.cell? ⟨w.heap.size, 2, none⟩ = some (.int .i64 tear) ∧ w1.cell? ⟨w.heap.size, 3, none⟩ = some (.bool st) := by
  have h : w.heap.size < (w.alloc (.cells #[sv, .int .i64 left, .int .i64 tear, .bool st] 24)).heap.size := by simp
  refine ⟨?_, ?_, ?_, ?_⟩ <;> rw [hb.cell h, cell_new] <;> rfl
theorem dk_head {d : Dk} (h : d.valid = true) : d.Ok := (Dk.valid_iff d).1 h

theorem cell_lt {w : World} {a : Addr} {v : Value} (h : w.cell? a = some v) : a.block < w.heap.size := by
  rcases Nat.lt_or_ge a.block w.heap.size with h' | h'
  · exact h'
  · simp [World.cell?, Array.getElem?_eq_none h'] at h

theorem disk_info : (Try.prog.info? 24).map (·.size) = some 4 := by kernel_rfl
theorem results_cell_row_tmp {P : Program} {fn : Func} {p u : Tmp} {ty : TypeId} (h : fn.results = #[.cell p ty, .tmp u]) (tmps : Array Value) (w : World) (g : Nat) (t : TypeId) (cs : Array Value) (fr : Nat × Nat) (d : TypeDesc)
    (hp : tmps.getD p undef = .pointer (some ⟨g, 0, none⟩)) (hg : w.heap[g]? = some (.cells cs t fr))
    (hu : P.underlying ty = some d) (hd : (match d with | .struct _ | .array _ _ => true | _ => false) = true) (hi : (P.info? ty).map (·.size) = some cs.size) :
    (results fn tmps).run P w = .ok (.tuple #[.agg cs, tmps.getD u undef]) w := by
  rw [results_cell_tmp h]
  simp only [hp, asAddr, Sem.run_pure, Result.andThen_ok, run_loadVar_row w g t ty cs fr d hg hu hd hi]

theorem ret_disk {fn : Func} {R : Ending → World → Prop} {a : Act} {w : World} {p u : Tmp} (g : Nat) (sv : Value) (l t : Int) (st : Bool) (h : fn.results = #[.cell p 24, .tmp u]) (hp : a.tmps.getD p undef = .pointer (some ⟨g, 0, none⟩))
    (hg : w.heap[g]? = some (.cells #[sv, .int .i64 l, .int .i64 t, .bool st] 24)) (hd : a.defers = []) (hR : R (.returned (.tuple #[dkV sv l t st, a.tmps.getD u undef])) w) : bodyPost Try.prog fn R .ret a w :=
  bodyPost_ret (results_cell_row_tmp h _ _ g 24 _ (0, 0) _ hp hg Try.underlying24 rfl disk_info) hd hR
theorem IsLists.one {w : World} {v : Value} {ll : List (List UInt8)} (h : IsLists w v ll) : v.oneCell' = true := by
  obtain ⟨_, _, rfl, _⟩ := h.out; rfl
theorem one4 {sv : Value} (h : sv.oneCell' = true) (l t : Int) (s : Bool) : (#[sv, .int .i64 l, .int .i64 t, .bool s] : Array Value).all (·.oneCell') = true := by
  rw [Array.all_eq_true_iff_forall_mem]
  intro x hx
  simp only [List.mem_toArray, List.mem_cons, List.not_mem_nil, or_false] at hx
  rcases hx with rfl | rfl | rfl | rfl
  · exact h
  all_goals rfl

/-- A disk's block. -/
def dkO (sv : Value) (left tear : Int) (st : Bool) : Obj := .cells #[sv, .int .i64 left, .int .i64 tear, .bool st] 24
theorem dkO_cells {w : World} {g : Nat} {sv : Value} {left tear : Int} {st : Bool} (hp : w.heap[g]? = some (dkO sv left tear st)) :
    w.cell? ⟨g, 0, none⟩ = some sv ∧ w.cell? ⟨g, 1, none⟩ = some (.int .i64 left) ∧ w.cell? ⟨g, 2, none⟩ = some (.int .i64 tear) ∧ w.cell? ⟨g, 3, none⟩ = some (.bool st) ∧ w.frozen? ⟨g, 1, none⟩ = false ∧ w.frozen? ⟨g, 2, none⟩ = false := by
  refine ⟨?_, ?_, ?_, ?_, frozen_of_row _ _ _ _ _ hp, frozen_of_row _ _ _ _ _ hp⟩ <;> rw [cell_of_row _ _ _ _ _ _ hp] <;> rfl
theorem box2_a {w w1 : World} {A B : Obj} (hb : Below ((w.alloc A).alloc B).heap.size ((w.alloc A).alloc B) w1) : w1.heap[w.heap.size]? = some A :=
  (hb.block _ (by simp; omega)).trans (heap_alloc2_old w A B)
theorem box2_b {w w1 : World} {A B : Obj} (hb : Below ((w.alloc A).alloc B).heap.size ((w.alloc A).alloc B) w1) : w1.heap[w.heap.size + 1]? = some B :=
  (hb.block _ (by simp)).trans (heap_alloc2_new w A B)
theorem dk_zero (w : World) : IsDk w (.agg #[.slice none 0 0, .int .i64 0, .int .i64 0, .bool false]) Dk.zero :=
  ⟨_, rfl, [], IsRow.nil 1 w, fun i h => absurd h (by simp [Dk.zero])⟩

end Go.Proofs.Ytnfgapdpnihicaa
/- The walk over disk.Write, for every disk. -/
namespace Go.Proofs.Ytnfgapdpnihicaa
open Go.RowKit

set_option maxHeartbeats 1000000 in
theorem write_call (S : Nat → Bool) (w : World) (hS : ∀ k, S k = true → k < w.heap.size) (v : Value) (d : Dk) (i : Int) (bv : Value) (b : List UInt8) (hvm : IsDk (mask S w) v d) (hbv : IsBytes w bv b) :
    Calls Try.prog 35 #[v, .int .i64 i, bv] w fun e w' => ∃ v', e = .returned (.tuple #[v', .int .i64 (d.write i b).2]) ∧ IsDk (mask S w') v' (d.write i b).1 ∧ Below w.heap.size w w' := by
  obtain ⟨sv, rfl, hlm⟩ := hvm
  have hl := hlm.sub (mask_is S w)
  have hv' : IsDk w _ d := ⟨sv, rfl, hl⟩
  have HLM := Lib.hid hlm
  clear hlm
  have hB0 : Below w.heap.size w ((w.alloc (.cells #[sv, .int .i64 d.left, .int .i64 d.tear, .bool d.stopped] 24)).alloc (.cells #[.slice none 0 0, .int .i64 0, .int .i64 0, .bool false] 24)) := ((Below.refl _ _).alloc (Nat.le_refl _) _).alloc (by simp) _
  have hv0 := hv'.below hB0 rfl
  have HL := Lib.hid hl
  have hc := check_any _ _ d hv0
  obtain ⟨bb, bc, rfl, hbl, hbc, -, -⟩ := hbv.out
  unfold maxLen at hbc
  have HBV := Lib.hid hbv
  obtain ⟨base, cap, rfl, hl1, hcap, -, -⟩ := hl.out
  unfold maxLen at hcap
  cases hval : d.valid with
  | false =>
    rw [hval] at hc
    have hr : d.write i b = (Dk.zero, 1) := by simp [Dk.write, hval]
    rw [hr]
    clear hv' hv0 hl hbv
    simp only [dkV] at *
    go_enter Try.func35, Try.ntmps35
    go_wp2_with fail
    refine hc.mono ?_
    rintro e w1 ⟨rfl, hb1⟩
    have hbx := box2_a hb1
    have hrs := box2_b hb1
    obtain ⟨c0, c1, c2, c3, f1, f2⟩ := dkO_cells hbx
    go_wp2_with (refine wpList_store_row rfl 24 (.tmp 6) (.tmp 28) rfl (w.heap.size + 1) #[.slice none 0 0, .int .i64 0, .int .i64 0, .bool false] rfl rfl 24 _ hrs disk_info rfl (one4 rfl _ _ _) ?_)
    try simp only [Exit.inBlock, Exit.then]
    refine ret_disk (w.heap.size + 1) (.slice none 0 0) 0 0 false rfl rfl (setRow_heap _ _ _ _ _ _ hrs) rfl ⟨_, rfl, dk_zero _, below_setRow (hB0.trans (hb1.mono hB0.size)) (Nat.le_succ _) _⟩
  | true =>
    rw [hval] at hc
    have HV := Lib.hid hval
    clear hv' hv0 hl hval hbv
    by_cases k1 : i < 0
    · have hr : d.write i b = (Dk.zero, 1) := by simp [Dk.write, k1]
      rw [hr]
      simp only [dkV] at *
      go_enter Try.func35, Try.ntmps35
      go_wp2_with fail
      refine hc.mono ?_
      rintro e w1 ⟨rfl, hb1⟩
      have hbx := box2_a hb1
      have hrs := box2_b hb1
      obtain ⟨c0, c1, c2, c3, f1, f2⟩ := dkO_cells hbx
      go_wp2_with (refine wpList_store_row rfl 24 (.tmp 6) (.tmp 28) rfl (w.heap.size + 1) #[.slice none 0 0, .int .i64 0, .int .i64 0, .bool false] rfl rfl 24 _ hrs disk_info rfl (one4 rfl _ _ _) ?_)
      try simp only [Exit.inBlock, Exit.then]
      refine ret_disk (w.heap.size + 1) (.slice none 0 0) 0 0 false rfl rfl (setRow_heap _ _ _ _ _ _ hrs) rfl ⟨_, rfl, dk_zero _, below_setRow (hB0.trans (hb1.mono hB0.size)) (Nat.le_succ _) _⟩
    by_cases k2 : (d.sec.length : Int) ≤ i
    · have hr : d.write i b = (Dk.zero, 1) := by simp [Dk.write, k2]
      rw [hr]
      simp only [dkV] at *
      go_enter Try.func35, Try.ntmps35
      go_wp2_with fail
      refine hc.mono ?_
      rintro e w1 ⟨rfl, hb1⟩
      have hbx := box2_a hb1
      have hrs := box2_b hb1
      obtain ⟨c0, c1, c2, c3, f1, f2⟩ := dkO_cells hbx
      go_wp2_with (refine wpList_store_row rfl 24 (.tmp 6) (.tmp 28) rfl (w.heap.size + 1) #[.slice none 0 0, .int .i64 0, .int .i64 0, .bool false] rfl rfl 24 _ hrs disk_info rfl (one4 rfl _ _ _) ?_)
      try simp only [Exit.inBlock, Exit.then]
      refine ret_disk (w.heap.size + 1) (.slice none 0 0) 0 0 false rfl rfl (setRow_heap _ _ _ _ _ _ hrs) rfl ⟨_, rfl, dk_zero _, below_setRow (hB0.trans (hb1.mono hB0.size)) (Nat.le_succ _) _⟩
    obtain ⟨n, rfl⟩ : ∃ n : Nat, i = (n : Int) := ⟨i.toNat, by omega⟩
    have hn : n < d.sec.length := by omega
    cases k3 : ((b.length : Int) != 128) with
    | true =>
      have hr : d.write n b = (Dk.zero, 1) := by
        simp only [bne_iff_ne] at k3
        have : b.length ≠ 128 := by omega
        simp [Dk.write, this]
      rw [hr]
      simp only [dkV] at *
      go_enter Try.func35, Try.ntmps35
      go_wp2_with fail
      refine hc.mono ?_
      rintro e w1 ⟨rfl, hb1⟩
      have hbx := box2_a hb1
      have hrs := box2_b hb1
      obtain ⟨c0, c1, c2, c3, f1, f2⟩ := dkO_cells hbx
      go_wp2_with (refine wpList_store_row rfl 24 (.tmp 6) (.tmp 28) rfl (w.heap.size + 1) #[.slice none 0 0, .int .i64 0, .int .i64 0, .bool false] rfl rfl 24 _ hrs disk_info rfl (one4 rfl _ _ _) ?_)
      try simp only [Exit.inBlock, Exit.then]
      refine ret_disk (w.heap.size + 1) (.slice none 0 0) 0 0 false rfl rfl (setRow_heap _ _ _ _ _ _ hrs) rfl ⟨_, rfl, dk_zero _, below_setRow (hB0.trans (hb1.mono hB0.size)) (Nat.le_succ _) _⟩
    | false =>
      have hb128 : b.length = 128 := by simp only [bne_eq_false_iff_eq] at k3; omega
      have hr : d.write n b = d.wr n b := by
        have : ¬ (n : Int) < 0 := by omega
        simp [Dk.write, HV.out, k2, hb128, this]
      obtain ⟨d2, x2, hwr⟩ : ∃ d2 x2, d.wr n b = (d2, x2) := ⟨_, _, rfl⟩
      rw [hr, hwr]
      have HWR := Lib.hid hwr
      clear hr hwr
      have HB128 := Lib.hid hb128
      clear hb128
      simp only [dkV] at *
      go_enter Try.func35, Try.ntmps35
      go_wp2_with fail
      refine hc.mono ?_
      rintro e w1 ⟨rfl, hb1⟩
      have hbx := box2_a hb1
      have hrs := box2_b hb1
      obtain ⟨c0, c1, c2, c3, f1, f2⟩ := dkO_cells hbx
      have hbw1 := hB0.trans (hb1.mono hB0.size)
      go_wp2_with fail
      have hbp : Below w.heap.size w (w1.alloc (.cells #[.slice base d.sec.length cap, .int .i64 d.left, .int .i64 d.tear, .bool d.stopped] 93)) := hbw1.alloc hbw1.size _
      obtain ⟨S', hS'⟩ : ∃ S' : Nat → Bool, S' = fun k => S k || (decide (w.heap.size ≤ k) && decide (k ≤ w1.heap.size)) := ⟨_, rfl⟩
      have hsz1 := hbw1.size
      have hS1 : ∀ k, S' k = true → S k = true ∨ w.heap.size ≤ k := fun k hk => by
        rw [hS'] at hk
        simp only [Bool.or_eq_true, Bool.and_eq_true, decide_eq_true_eq] at hk
        rcases hk with hk | hk
        · exact .inl hk
        · exact .inr hk.1
      have hS2 : ∀ k, S' k = true → k < (w1.alloc (.cells #[.slice base d.sec.length cap, .int .i64 d.left, .int .i64 d.tear, .bool d.stopped] 93)).heap.size := fun k hk => by
        rw [hS'] at hk
        simp only [Bool.or_eq_true, Bool.and_eq_true, decide_eq_true_eq] at hk
        show k < (w1.heap.push _).size
        rw [Array.size_push]
        rcases hk with hk | hk
        · have := hS k hk; omega
        · omega
      have hS3 : S' w1.heap.size = true := by rw [hS']; simp [hsz1]
      have hS4 : S' (w.heap.size + 1) = true := by
        have : w.heap.size + 1 < w1.heap.size := (Array.getElem?_eq_some_iff.1 hrs).1
        rw [hS']; simp; omega
      have hS5 : ∀ k, S k = true → S' k = true := fun k hk => by rw [hS']; simp [hk]
      have hwa := write_any S S' w _ hS1 hS2 hbp w1.heap.size hS3 hbw1.size d (dk_head HV.out) _ (heap_alloc_new _ _) HLM.out n hn _ b HBV.out HB128.out
      clear hS' hS1 hS2 hS3
      have HS4 := Lib.hid hS4
      have HS5 := Lib.hid hS5
      clear hS4 hS5
      rw [HWR.out] at hwa
      simp only at hwa
      refine hwa.mono ?_
      rintro e w2 ⟨rfl, sv2, hp2, hs2, hb2, hk2⟩
      have hsz : w.heap.size + 1 < w1.heap.size := (Array.getElem?_eq_some_iff.1 hrs).1
      have hw2 := hb2
      have hrs2 := ((hk2 (w.heap.size + 1) (by simp; omega) (by omega)).trans (Below.heap_alloc _ _ _ hsz)).trans hrs
      go_wp2_with (first | (refine wpList_load_row rfl 24 (.tmp 38) rfl w1.heap.size rfl 93 _ (0, 0) _ hp2 Try.underlying24 rfl disk_info ?_) | (refine wpList_store_row rfl 24 (.tmp 6) (.tmp 39) rfl (w.heap.size + 1) #[sv2, .int .i64 d2.left, .int .i64 d2.tear, .bool d2.stopped] rfl rfl 24 _ hrs2 disk_info rfl (one4 hs2.one _ _ _) ?_))
      try simp only [Exit.inBlock, Exit.then]
      have hbz := below_setRow hw2 (Nat.le_succ w.heap.size) #[sv2, .int .i64 d2.left, .int .i64 d2.tear, .bool d2.stopped]
      refine ret_disk (w.heap.size + 1) sv2 d2.left d2.tear d2.stopped rfl rfl (setRow_heap _ _ _ _ _ _ hrs2) rfl ?_
      exact ⟨_, rfl, ⟨sv2, rfl, (hs2.sub (mask_setRow _ _ HS4.out)).sub (mask_less HS5.out)⟩, hbz⟩

end Go.Proofs.Ytnfgapdpnihicaa
/- The walk over disk.Restart, for every disk. -/
namespace Go.Proofs.Ytnfgapdpnihicaa
open Go.RowKit

theorem ret_disk1 {fn : Func} {R : Ending → World → Prop} {a : Act} {w : World} {p : Tmp} (g : Nat) (sv : Value) (l t : Int) (st : Bool) (h : fn.results = #[.cell p 24]) (hp : a.tmps.getD p undef = .pointer (some ⟨g, 0, none⟩))
    (hg : w.heap[g]? = some (.cells #[sv, .int .i64 l, .int .i64 t, .bool st] 24)) (hd : a.defers = []) (hR : R (.returned (dkV sv l t st)) w) : bodyPost Try.prog fn R .ret a w :=
  bodyPost_ret (results_cell_row h _ _ g 24 _ (0, 0) _ hp hg Try.underlying24 rfl disk_info) hd hR

set_option maxHeartbeats 1000000 in
theorem restart_any (S : Nat → Bool) (w : World) (v : Value) (d : Dk) (hvm : IsDk (mask S w) v d) :
    Calls Try.prog 30 #[v] w fun e w' => ∃ v', e = .returned v' ∧ IsDk (mask S w') v' d.restart ∧ Below w.heap.size w w' := by
  obtain ⟨sv, rfl, hlm⟩ := hvm
  have hl := hlm.sub (mask_is S w)
  have hv' : IsDk w _ d := ⟨sv, rfl, hl⟩
  have HLM := Lib.hid hlm
  clear hlm
  have hB0 : Below w.heap.size w ((w.alloc (.cells #[sv, .int .i64 d.left, .int .i64 d.tear, .bool d.stopped] 24)).alloc (.cells #[.slice none 0 0, .int .i64 0, .int .i64 0, .bool false] 24)) := ((Below.refl _ _).alloc (Nat.le_refl _) _).alloc (by simp) _
  have hv0 := hv'.below hB0 rfl
  have HL := Lib.hid hl
  have hc := check_any _ _ d hv0
  obtain ⟨base, cap, rfl, hl1, hcap, -, -⟩ := hl.out
  unfold maxLen at hcap
  cases hval : d.valid with
  | false =>
    rw [hval] at hc
    have hr : d.restart = Dk.zero := by simp [Dk.restart, hval]
    rw [hr]
    clear hv' hv0 hl
    simp only [dkV] at *
    go_enter Try.func30, Try.ntmps30
    go_wp2_with fail
    refine hc.mono ?_
    rintro e w1 ⟨rfl, hb1⟩
    have hrs := box2_b hb1
    go_wp2_with (refine wpList_store_row rfl 24 (.tmp 2) (.tmp 6) rfl (w.heap.size + 1) #[.slice none 0 0, .int .i64 0, .int .i64 0, .bool false] rfl rfl 24 _ hrs disk_info rfl (one4 rfl _ _ _) ?_)
    try simp only [Exit.inBlock, Exit.then]
    refine ret_disk1 (w.heap.size + 1) (.slice none 0 0) 0 0 false rfl rfl (setRow_heap _ _ _ _ _ _ hrs) rfl ⟨_, rfl, dk_zero _, below_setRow (hB0.trans (hb1.mono hB0.size)) (Nat.le_succ _) _⟩
  | true =>
    rw [hval] at hc
    have hr : d.restart = { d with left := -1, tear := 0, stopped := false } := by simp [Dk.restart, hval]
    rw [hr]
    clear hv' hv0 hl
    simp only [dkV] at *
    go_enter Try.func30, Try.ntmps30
    go_wp2_with fail
    refine hc.mono ?_
    rintro e w1 ⟨rfl, hb1⟩
    have hrs := box2_b hb1
    obtain ⟨c0, c1, c2, c3, f1, f2⟩ := dkO_cells (box2_a hb1)
    go_wp2_with (refine wpList_store_row rfl 24 (.tmp 2) (.tmp 9) rfl (w.heap.size + 1) #[.slice base d.sec.length cap, .int .i64 (-1), .int .i64 0, .bool false] rfl rfl 24 _ hrs disk_info rfl (one4 HL.out.one _ _ _) ?_)
    try simp only [Exit.inBlock, Exit.then]
    have hbz := below_setRow (hB0.trans (hb1.mono hB0.size)) (Nat.le_succ w.heap.size) #[.slice base d.sec.length cap, .int .i64 (-1), .int .i64 0, .bool false]
    exact ret_disk1 (w.heap.size + 1) (.slice base d.sec.length cap) (-1) 0 false rfl rfl (setRow_heap _ _ _ _ _ _ hrs) rfl ⟨_, rfl, ⟨_, rfl, HLM.out.sub (mask_below hbz rfl)⟩, hbz⟩

end Go.Proofs.Ytnfgapdpnihicaa
/- The walk over disk.New. -/
namespace Go.Proofs.Ytnfgapdpnihicaa
open Go.RowKit

def Dk.made (n : Nat) : Dk := ⟨List.replicate n (List.replicate 128 0), -1, 0, false⟩
def Dk.new (n : Int) : Dk × Int := if n < 1 ∨ 4096 < n then (Dk.zero, 1) else (Dk.made n.toNat, 0)

theorem box1_b {w w1 : World} {A : Obj} (hb : w.alloc A = w1) : w1.heap[w.heap.size]? = some A := by subst hb; exact heap_alloc_new w A

/-- make([][]byte, n). -/
theorem wpList_make_lists {P : Program} {w : World} {ops : Array Oper} {rest : List Oper} {o : Oper} {a : Act} {Q : Exit → Act → World → Prop}
    (hg : o.guard = none) (x c : Operand) (t : TypeId) (hop : o.op = Op.makeSlice t x c)
    (base : Nat) (e : TypeId) (h1 : P.underlying t = some (.slice e)) (hinfo : (P.info? e).map (fun i => (i.zero, i.size, i.bytes)) = some (some (.slice none 0 0), 1, 24))
    (n : Nat) (hl : a.eval x = .int .i64 n) (hc : a.eval c = .int .i64 n) (hn : n ≤ 1048576) (hbase : base ≤ w.heap.size)
    (hK : ∀ w', w'.ownsRow base e 1 (.slice (some ⟨w.heap.size, 0, none⟩) n n) n (List.replicate n (.slice none 0 0)) → w.grownBy w' none → wpList P ops Q rest (a.put o.dst (.slice (some ⟨w.heap.size, 0, none⟩) n n)) w') :
    wpList P ops Q (o :: rest) a w := by
  obtain ⟨i, hi, hz, hs, hb⟩ := info_parts hinfo
  refine wpList_make_full w hg x c t hop base e i (.slice none 0 0) 1 h1 hi hz hs .i64 .i64 n n n hl hc rfl rfl (by rw [hb]; omega) (by simp only [maxLen]; omega) hbase ?_
  intro w' ho hgr
  refine hK w' ?_ hgr
  have e : (madeCells (Value.slice none 0 0).cells (n * 1)).toList = List.replicate n (.slice none 0 0) := by
    rw [Nat.mul_one]; exact toList_madeCells_one _ n
  rw [← e]
  exact ho

/-- The loop's world: the result's block, the row of sectors, of which the first k are made. -/
structure NewInv (w : World) (g m k : Nat) (wr : World) : Prop where
  res : wr.heap[w.heap.size]? = some (dkO (.slice (some ⟨g, 0, none⟩) m m) (-1) 0 false)
  row : ∃ vs : List Value, wr.ownsRow g 42 1 (.slice (some ⟨g, 0, none⟩) m m) m vs ∧ ∀ j, j < m → ∃ u, vs[j]? = some u ∧ u.oneCell' = true ∧ (j < k → ∃ b, u = .slice (some ⟨b, 0, none⟩) 128 128 ∧ g < b ∧ IsBytes wr u (List.replicate 128 0))
  below : Below w.heap.size w wr
  size : g < wr.heap.size

theorem NewInv.step {w : World} {g m k : Nat} {wr : World} (h : NewInv w g m k wr) (hk : k < m) (hg : w.heap.size < g) :
    NewInv w g m (k + 1) (((wr.alloc (.cells (List.map u8v (List.replicate 128 0)).toArray 5)).setCell ⟨g, k, none⟩ (.slice (some ⟨wr.heap.size, 0, none⟩) 128 128)).drew) := by
  obtain ⟨hres, ⟨vs, hrow, hvs⟩, hbel, hgs⟩ := h
  have hvl : vs.length = m := by rw [hrow.1]; omega
  have hrow1 := hrow.alloc (.cells (List.map u8v (List.replicate 128 0)).toArray 5)
  have hst := (World.ownsRow.stored hrow1 k (.slice (some ⟨wr.heap.size, 0, none⟩) 128 128)).1
  have hnew : IsBytes (wr.alloc (.cells (List.map u8v (List.replicate 128 0)).toArray 5)) (.slice (some ⟨wr.heap.size, 0, none⟩) 128 128) (List.replicate 128 0) := by
    have := IsBytes.new wr 5 (0, 0) (List.replicate 128 0) (by simp [maxLen])
    simpa only [List.length_replicate] using this
  refine ⟨?_, ⟨_, hst, fun j hj => ?_⟩, ?_, ?_⟩
  · show ((wr.alloc _).setCell _ _).heap[_]? = _
    rw [heap_setCell_other _ _ _ _ (by show w.heap.size ≠ g; omega), Below.heap_alloc _ _ _ (by omega)]
    exact hres
  · by_cases e : k = j
    · subst e
      refine ⟨_, by rw [List.getElem?_set, if_pos rfl, if_pos (by omega)], rfl, fun _ => ⟨_, rfl, hgs, ?_⟩⟩
      exact IsRow.own hnew (fun b hb => heap_setCell_other _ _ _ _ (by
        have : wr.heap.size = b := by cases hb; rfl
        show b ≠ g
        omega))
    · obtain ⟨u, h1, h2, h3⟩ := hvs j hj
      refine ⟨u, by rw [List.getElem?_set, if_neg e]; exact h1, h2, fun hjk => ?_⟩
      obtain ⟨b, rfl, hgb, hu⟩ := h3 (by omega)
      refine ⟨b, rfl, hgb, ?_⟩
      have hbl : b < wr.heap.size := by
        obtain ⟨_, _, e1, _, _, _, _, hc⟩ := hu
        obtain ⟨b', off, e2, hx⟩ := hc 0 (by simp)
        cases e1; cases e2
        exact cell_lt hx
      exact IsRow.own hu (fun b2 hb2 => by
        have : b = b2 := by cases hb2; rfl
        subst this
        exact (heap_setCell_other _ _ _ _ (by show b ≠ g; omega)).trans (Below.heap_alloc _ _ _ hbl))
  · exact ((hbel.alloc (by omega) _).setCell (by show _ ≤ g; omega) _).drew
  · show g < ((wr.alloc _).setCell _ _).heap.size
    simp [World.setCell]
    omega

theorem NewInv.done {S : Nat → Bool} {w : World} (hS : ∀ k, S k = true → k < w.heap.size) {g m : Nat} {wr : World} (h : NewInv w g m m wr) (hg : w.heap.size < g) (cs : Array Value) : IsLists (mask S (wr.setRow w.heap.size cs)) (.slice (some ⟨g, 0, none⟩) m m) (List.replicate m (List.replicate 128 0)) := by
  obtain ⟨hres, ⟨vs, hrow, hvs⟩, hbel, hgs⟩ := h
  refine isLists_of_row (vs := vs) ?_ (fun j hj => ?_)
  · rw [List.length_replicate]
    have hoff : S g = false := by
      cases h : S g with
      | false => rfl
      | true => have := hS g h; omega
    exact mask_row ((ownsRow_isRow hrow).own (fun b hb => setRow_other _ _ _ _ (by
      have : g = b := by cases hb; rfl
      omega))) (fun b hb => by
        have : g = b := by cases hb; rfl
        subst this
        exact hoff)
  · rw [List.length_replicate] at hj
    obtain ⟨u, h1, _, h3⟩ := hvs j hj
    obtain ⟨b, rfl, hgb, hu⟩ := h3 hj
    refine ⟨_, h1, ?_⟩
    rw [List.getElem_replicate]
    have hoff : S b = false := by
      cases h : S b with
      | false => rfl
      | true => have := hS b h; omega
    exact mask_row (IsRow.own hu (fun b2 hb => setRow_other _ _ _ _ (by
      have : b = b2 := by cases hb; rfl
      omega))) (fun b2 hb => by
        have : b = b2 := by cases hb; rfl
        subst this
        exact hoff)

set_option maxHeartbeats 1000000 in
theorem new_any (S : Nat → Bool) (w : World) (hS : ∀ k, S k = true → k < w.heap.size) (n : Int) :
    Calls Try.prog 56 #[.int .i64 n] w fun e w' => ∃ v', e = .returned (.tuple #[v', .int .i64 (Dk.new n).2]) ∧ IsDk (mask S w') v' (Dk.new n).1 ∧ Below w.heap.size w w' := by
  have hB0 : Below w.heap.size w (w.alloc (.cells #[.slice none 0 0, .int .i64 0, .int .i64 0, .bool false] 24)) := (Below.refl _ _).alloc (Nat.le_refl _) _
  have hrs := heap_alloc_new w (.cells #[.slice none 0 0, .int .i64 0, .int .i64 0, .bool false] 24)
  by_cases k1 : n < 1
  · have hr : Dk.new n = (Dk.zero, 1) := by simp [Dk.new, k1]
    rw [hr]
    go_enter Try.func56, Try.ntmps56
    go_wp2_with (refine wpList_store_row rfl 24 (.tmp 2) (.tmp 11) rfl w.heap.size #[.slice none 0 0, .int .i64 0, .int .i64 0, .bool false] rfl rfl 24 _ hrs disk_info rfl (one4 rfl _ _ _) ?_)
    try simp only [Exit.inBlock, Exit.then]
    refine ret_disk w.heap.size (.slice none 0 0) 0 0 false rfl rfl (setRow_heap _ _ _ _ _ _ hrs) rfl ⟨_, rfl, dk_zero _, below_setRow hB0 (Nat.le_refl _) _⟩
  by_cases k2 : 4096 < n
  · have hr : Dk.new n = (Dk.zero, 1) := by simp [Dk.new, k2]
    rw [hr]
    go_enter Try.func56, Try.ntmps56
    go_wp2_with (refine wpList_store_row rfl 24 (.tmp 2) (.tmp 11) rfl w.heap.size #[.slice none 0 0, .int .i64 0, .int .i64 0, .bool false] rfl rfl 24 _ hrs disk_info rfl (one4 rfl _ _ _) ?_)
    try simp only [Exit.inBlock, Exit.then]
    refine ret_disk w.heap.size (.slice none 0 0) 0 0 false rfl rfl (setRow_heap _ _ _ _ _ _ hrs) rfl ⟨_, rfl, dk_zero _, below_setRow hB0 (Nat.le_refl _) _⟩
  obtain ⟨m, rfl⟩ : ∃ m : Nat, n = (m : Int) := ⟨n.toNat, by omega⟩
  have hr : Dk.new m = (Dk.made m, 0) := by simp [Dk.new, k1, k2]
  rw [hr]
  have hsz : w.heap.size < (w.alloc (.cells #[.slice none 0 0, .int .i64 0, .int .i64 0, .bool false] 24)).heap.size := by simp
  obtain ⟨w1, hw1⟩ : ∃ w1, w.alloc (.cells #[.slice none 0 0, .int .i64 0, .int .i64 0, .bool false] 24) = w1 := ⟨_, rfl⟩
  rw [hw1] at hB0 hrs hsz
  go_enter Try.func56, Try.ntmps56
  go_wp2_with (first | (refine wpList_make_lists rfl (.tmp 12) (.tmp 12) 22 rfl w1.heap.size 42 Try.underlying22 slice_info m rfl rfl (by omega) (Nat.le_refl _) ?_; intro w2 ho2 hg2; have hrs2 := (hg2.block w.heap.size hsz (by simp)).trans hrs) | (refine wpList_store_row rfl 24 (.tmp 2) (.tmp 14) rfl w.heap.size #[.slice (some ⟨w1.heap.size, 0, none⟩) m m, .int .i64 (-1), .int .i64 0, .bool false] rfl rfl 24 _ hrs2 disk_info rfl (one4 rfl _ _ _) ?_; have hrs3 := setRow_heap _ _ _ #[.slice (some ⟨w1.heap.size, 0, none⟩) m m, .int .i64 (-1), .int .i64 0, .bool false] _ _ hrs2; obtain ⟨c0, c1, c2, c3, f1, f2⟩ := dkO_cells hrs3))
  have hgP : w.heap.size < w1.heap.size := hsz
  have hB3 : Below w.heap.size w (w2.setRow w.heap.size #[.slice (some ⟨w1.heap.size, 0, none⟩) m m, .int .i64 (-1), .int .i64 0, .bool false]) := below_setRow (Below.grown hB0 hg2 hB0.size (fun k hk => by cases hk)) (Nat.le_refl _) _
  have hinv : NewInv w w1.heap.size m 0 (w2.setRow w.heap.size #[.slice (some ⟨w1.heap.size, 0, none⟩) m m, .int .i64 (-1), .int .i64 0, .bool false]) := by
    refine ⟨hrs3, ⟨List.replicate m (.slice none 0 0), ?_, fun j hj => ⟨.slice none 0 0, ?_, rfl, fun h => absurd h (by omega)⟩⟩, hB3, ?_⟩
    · refine ho2.kept (row := some w.heap.size) ⟨rfl, rfl, rfl, by simp, fun k _ hk => setRow_other _ _ _ _ (fun e => hk (congrArg some e.symm).symm)⟩ (.inr (fun e => by
        have : w1.heap.size = w.heap.size := Option.some.inj e
        omega))
    · simp [hj]
    · rw [size_setRow]
      exact (World.ownsRow.lt ho2 w1.heap.size rfl).2
  have HI := Lib.hid hinv
  clear hinv ho2 hrs2 hrs hB0 hB3
  go_loopw [4, 18] (fun s c wr => ∃ k : Nat, k ≤ m ∧ c = .int .i64 k ∧ NewInv w w1.heap.size m k wr) (fun _ c _ => m - (intOf c).toNat)
  case atStart => exact ⟨0, by omega, rfl, HI.out⟩
  case round =>
    obtain ⟨k, hk, rfl, hv⟩ := hrel
    have HV := Lib.hid hv
    obtain ⟨hres, ⟨vs, hrow, hvs⟩, hbel, hgs⟩ := hv
    have HVS := Lib.hid hvs
    clear hvs
    obtain ⟨c0, c1, c2, c3, f1, f2⟩ := dkO_cells hres
    by_cases hlt : k < m
    · obtain ⟨u, hu1, hu2, -⟩ := HVS.out k hlt
      have cgk := (World.ownsRow.cellAt hrow k (by omega)).trans hu1
      have fgk := World.ownsRow.frozenAt hrow k
      have hklt : (k : Int) < (m : Int) := by omega
      obtain ⟨mc, hmc⟩ : ∃ mc, mc = (List.map u8v (List.replicate 128 0)).toArray := ⟨_, rfl⟩
      have hmk : ∀ W : World, (Instr.makeSlice 42 (.int .i64 128) (.int .i64 128)).run Try.prog W = .ok (.slice (some ⟨W.heap.size, 0, none⟩) 128 128) (W.alloc (.cells mc 5)) := by
        intro W
        have h := run_make_row' (P := Try.prog) 42 5 (.int .u8 0) 1 Try.underlying42 byte_info rfl .i64 .i64 128 (by omega) (by omega) W
        have e : madeCells #[Value.int .u8 0] 128 = mc := by
          rw [hmc]
          apply Array.toList_inj.1
          rw [toList_madeCells_one]
          simp only [List.map_replicate]
          rfl
        rw [e] at h
        exact h
      have HMC := Lib.hid hmc
      clear hmc
      have hPlt : w.heap.size < wr.heap.size := by omega
      have d0 := (World.cell?_of_block (a := ⟨w.heap.size, 0, none⟩) (Below.heap_alloc wr (.cells mc 5) _ hPlt)).trans c0
      have dgk := (World.cell?_of_block (a := ⟨w1.heap.size, k, none⟩) (Below.heap_alloc wr (.cells mc 5) _ hgs)).trans cgk
      have egk := (World.frozen?_of_block (a := ⟨w1.heap.size, k, none⟩) (Below.heap_alloc wr (.cells mc 5) _ hgs)).trans fgk
      go_wp2
      go_region
      go_wp2
      go_roundw
      case rel => exact ⟨k + 1, by omega, by go_num, by have := HV.out.step hlt hgP; rw [← HMC.out, World.setCell_alloc_past _ _ _ _ hgs] at this; exact this⟩
      case measure => simp [intOf]; omega
    · obtain rfl : k = m := by omega
      go_wp2_with (first | (refine wpList_load_row rfl 24 (.tmp 2) rfl w.heap.size rfl 24 _ (0, 0) _ hres Try.underlying24 rfl disk_info ?_) | (refine wpList_store_row rfl 24 (.tmp 2) (.tmp 27) rfl w.heap.size #[.slice (some ⟨w1.heap.size, 0, none⟩) k k, .int .i64 (-1), .int .i64 0, .bool false] rfl rfl 24 _ hres disk_info rfl (one4 rfl _ _ _) ?_))
      try simp only [Exit.inBlock, Exit.then]
      have hbz := below_setRow hbel (Nat.le_refl w.heap.size) #[.slice (some ⟨w1.heap.size, 0, none⟩) k k, .int .i64 (-1), .int .i64 0, .bool false]
      refine ret_disk w.heap.size (.slice (some ⟨w1.heap.size, 0, none⟩) k k) (-1) 0 false rfl rfl (setRow_heap _ _ _ _ _ _ hres) rfl ?_
      exact ⟨_, rfl, ⟨_, by simp only [Dk.made], HV.out.done hS hgP _⟩, hbz⟩

end Go.Proofs.Ytnfgapdpnihicaa
/- The walk over disk.Fail, for every disk. -/
namespace Go.Proofs.Ytnfgapdpnihicaa
open Go.RowKit

set_option maxHeartbeats 1000000 in
theorem fail_any (S : Nat → Bool) (w : World) (v : Value) (d : Dk) (l t : Int) (hvm : IsDk (mask S w) v d) :
    Calls Try.prog 29 #[v, .int .i64 l, .int .i64 t] w fun e w' => ∃ v', e = .returned (.tuple #[v', .int .i64 (d.fail l t).2]) ∧ IsDk (mask S w') v' (d.fail l t).1 ∧ Below w.heap.size w w' := by
  obtain ⟨sv, rfl, hlm⟩ := hvm
  have hl := hlm.sub (mask_is S w)
  have hv' : IsDk w _ d := ⟨sv, rfl, hl⟩
  have HLM := Lib.hid hlm
  clear hlm
  have hB0 : Below w.heap.size w ((w.alloc (.cells #[sv, .int .i64 d.left, .int .i64 d.tear, .bool d.stopped] 24)).alloc (.cells #[.slice none 0 0, .int .i64 0, .int .i64 0, .bool false] 24)) := ((Below.refl _ _).alloc (Nat.le_refl _) _).alloc (by simp) _
  have hv0 := hv'.below hB0 rfl
  have HL := Lib.hid hl
  have hc := check_any _ _ d hv0
  cases hval : d.valid with
  | false =>
    rw [hval] at hc
    have hr : d.fail l t = (Dk.zero, 1) := by simp [Dk.fail, hval]
    rw [hr]
    clear hv' hv0 hl
    simp only [dkV] at *
    go_enter Try.func29, Try.ntmps29
    go_wp2_with fail
    refine hc.mono ?_
    rintro e w1 ⟨rfl, hb1⟩
    have hbx := box2_a hb1
    have hrs := box2_b hb1
    obtain ⟨c0, c1, c2, c3, f1, f2⟩ := dkO_cells hbx
    go_wp2_with (refine wpList_store_row rfl 24 (.tmp 6) (.tmp 28) rfl (w.heap.size + 1) #[.slice none 0 0, .int .i64 0, .int .i64 0, .bool false] rfl rfl 24 _ hrs disk_info rfl (one4 rfl _ _ _) ?_)
    try simp only [Exit.inBlock, Exit.then]
    refine ret_disk (w.heap.size + 1) (.slice none 0 0) 0 0 false rfl rfl (setRow_heap _ _ _ _ _ _ hrs) rfl ⟨_, rfl, dk_zero _, below_setRow (hB0.trans (hb1.mono hB0.size)) (Nat.le_succ _) _⟩
  | true =>
    rw [hval] at hc
    have HV := Lib.hid hval
    clear hv' hv0 hl hval
    obtain ⟨sec, left, tear, st⟩ := d
    simp only [dkV] at *
    by_cases k1 : l < 0
    · have hr : Dk.fail ⟨sec, left, tear, st⟩ l t = (Dk.zero, 1) := by simp [Dk.fail, k1]
      rw [hr]
      go_enter Try.func29, Try.ntmps29
      go_wp2_with fail
      refine hc.mono ?_
      rintro e w1 ⟨rfl, hb1⟩
      have hbx := box2_a hb1
      have hrs := box2_b hb1
      obtain ⟨c0, c1, c2, c3, f1, f2⟩ := dkO_cells hbx
      go_wp2_with (refine wpList_store_row rfl 24 (.tmp 6) (.tmp 28) rfl (w.heap.size + 1) #[.slice none 0 0, .int .i64 0, .int .i64 0, .bool false] rfl rfl 24 _ hrs disk_info rfl (one4 rfl _ _ _) ?_)
      try simp only [Exit.inBlock, Exit.then]
      refine ret_disk (w.heap.size + 1) (.slice none 0 0) 0 0 false rfl rfl (setRow_heap _ _ _ _ _ _ hrs) rfl ⟨_, rfl, dk_zero _, below_setRow (hB0.trans (hb1.mono hB0.size)) (Nat.le_succ _) _⟩
    by_cases k2 : 1099511627776 < l
    · have hr : Dk.fail ⟨sec, left, tear, st⟩ l t = (Dk.zero, 1) := by simp [Dk.fail, k2]
      rw [hr]
      go_enter Try.func29, Try.ntmps29
      go_wp2_with fail
      refine hc.mono ?_
      rintro e w1 ⟨rfl, hb1⟩
      have hbx := box2_a hb1
      have hrs := box2_b hb1
      obtain ⟨c0, c1, c2, c3, f1, f2⟩ := dkO_cells hbx
      go_wp2_with (refine wpList_store_row rfl 24 (.tmp 6) (.tmp 28) rfl (w.heap.size + 1) #[.slice none 0 0, .int .i64 0, .int .i64 0, .bool false] rfl rfl 24 _ hrs disk_info rfl (one4 rfl _ _ _) ?_)
      try simp only [Exit.inBlock, Exit.then]
      refine ret_disk (w.heap.size + 1) (.slice none 0 0) 0 0 false rfl rfl (setRow_heap _ _ _ _ _ _ hrs) rfl ⟨_, rfl, dk_zero _, below_setRow (hB0.trans (hb1.mono hB0.size)) (Nat.le_succ _) _⟩
    by_cases k3 : t < 0
    · have hr : Dk.fail ⟨sec, left, tear, st⟩ l t = (Dk.zero, 1) := by simp [Dk.fail, k3]
      rw [hr]
      go_enter Try.func29, Try.ntmps29
      go_wp2_with fail
      refine hc.mono ?_
      rintro e w1 ⟨rfl, hb1⟩
      have hbx := box2_a hb1
      have hrs := box2_b hb1
      obtain ⟨c0, c1, c2, c3, f1, f2⟩ := dkO_cells hbx
      go_wp2_with (refine wpList_store_row rfl 24 (.tmp 6) (.tmp 28) rfl (w.heap.size + 1) #[.slice none 0 0, .int .i64 0, .int .i64 0, .bool false] rfl rfl 24 _ hrs disk_info rfl (one4 rfl _ _ _) ?_)
      try simp only [Exit.inBlock, Exit.then]
      refine ret_disk (w.heap.size + 1) (.slice none 0 0) 0 0 false rfl rfl (setRow_heap _ _ _ _ _ _ hrs) rfl ⟨_, rfl, dk_zero _, below_setRow (hB0.trans (hb1.mono hB0.size)) (Nat.le_succ _) _⟩
    by_cases k4 : 128 < t
    · have hr : Dk.fail ⟨sec, left, tear, st⟩ l t = (Dk.zero, 1) := by simp [Dk.fail, k4]
      rw [hr]
      go_enter Try.func29, Try.ntmps29
      go_wp2_with fail
      refine hc.mono ?_
      rintro e w1 ⟨rfl, hb1⟩
      have hbx := box2_a hb1
      have hrs := box2_b hb1
      obtain ⟨c0, c1, c2, c3, f1, f2⟩ := dkO_cells hbx
      go_wp2_with (refine wpList_store_row rfl 24 (.tmp 6) (.tmp 28) rfl (w.heap.size + 1) #[.slice none 0 0, .int .i64 0, .int .i64 0, .bool false] rfl rfl 24 _ hrs disk_info rfl (one4 rfl _ _ _) ?_)
      try simp only [Exit.inBlock, Exit.then]
      refine ret_disk (w.heap.size + 1) (.slice none 0 0) 0 0 false rfl rfl (setRow_heap _ _ _ _ _ _ hrs) rfl ⟨_, rfl, dk_zero _, below_setRow (hB0.trans (hb1.mono hB0.size)) (Nat.le_succ _) _⟩
    cases st with
    | true =>
      have hr : Dk.fail ⟨sec, left, tear, true⟩ l t = (Dk.zero, 300) := by simp [Dk.fail, HV.out, k1, k2, k3, k4]
      rw [hr]
      go_enter Try.func29, Try.ntmps29
      go_wp2_with fail
      refine hc.mono ?_
      rintro e w1 ⟨rfl, hb1⟩
      have hbx := box2_a hb1
      have hrs := box2_b hb1
      obtain ⟨c0, c1, c2, c3, f1, f2⟩ := dkO_cells hbx
      go_wp2_with (refine wpList_store_row rfl 24 (.tmp 6) (.tmp 32) rfl (w.heap.size + 1) #[.slice none 0 0, .int .i64 0, .int .i64 0, .bool false] rfl rfl 24 _ hrs disk_info rfl (one4 rfl _ _ _) ?_)
      try simp only [Exit.inBlock, Exit.then]
      refine ret_disk (w.heap.size + 1) (.slice none 0 0) 0 0 false rfl rfl (setRow_heap _ _ _ _ _ _ hrs) rfl ⟨_, rfl, dk_zero _, below_setRow (hB0.trans (hb1.mono hB0.size)) (Nat.le_succ _) _⟩
    | false =>
      have hr : Dk.fail ⟨sec, left, tear, false⟩ l t = (⟨sec, l, t, false⟩, 0) := by simp [Dk.fail, HV.out, k1, k2, k3, k4]
      rw [hr]
      go_enter Try.func29, Try.ntmps29
      go_wp2_with fail
      refine hc.mono ?_
      rintro e w1 ⟨rfl, hb1⟩
      have hbx := box2_a hb1
      have hrs := box2_b hb1
      obtain ⟨c0, c1, c2, c3, f1, f2⟩ := dkO_cells hbx
      have hbx2 : ((w1.setCell ⟨w.heap.size, 1, none⟩ (.int .i64 l)).setCell ⟨w.heap.size, 2, none⟩ (.int .i64 t)).heap[w.heap.size]? = some (dkO sv l t false) := by
        rw [heap_setCell_same _ _ 2 _ _ _ (heap_setCell_same _ _ 1 _ _ _ hbx)]
        rfl
      have hrs2 : ((w1.setCell ⟨w.heap.size, 1, none⟩ (.int .i64 l)).setCell ⟨w.heap.size, 2, none⟩ (.int .i64 t)).heap[w.heap.size + 1]? = some (.cells #[.slice none 0 0, .int .i64 0, .int .i64 0, .bool false] 24) := by
        rw [heap_setCell_other _ _ _ _ (by simp), heap_setCell_other _ _ _ _ (by simp)]
        exact hrs
      go_wp2_with (first | (refine wpList_load_row rfl 24 (.tmp 3) rfl w.heap.size rfl 24 _ (0, 0) _ hbx2 Try.underlying24 rfl disk_info ?_) | (refine wpList_store_row rfl 24 (.tmp 6) (.tmp 37) rfl (w.heap.size + 1) #[sv, .int .i64 l, .int .i64 t, .bool false] rfl rfl 24 _ hrs2 disk_info rfl (one4 HL.out.one l t false) ?_))
      try simp only [Exit.inBlock, Exit.then]
      refine ret_disk (w.heap.size + 1) sv l t false rfl rfl (setRow_heap _ _ _ _ _ _ hrs2) rfl ?_
      have hbz := below_setRow (((hB0.trans (hb1.mono hB0.size)).setCell (p := ⟨w.heap.size, 1, none⟩) (Nat.le_refl _) (.int .i64 l)).setCell (p := ⟨w.heap.size, 2, none⟩) (Nat.le_refl _) (.int .i64 t)) (Nat.le_succ w.heap.size) #[sv, .int .i64 l, .int .i64 t, .bool false]
      exact ⟨_, rfl, ⟨sv, rfl, HLM.out.sub (mask_below hbz rfl)⟩, hbz⟩

end Go.Proofs.Ytnfgapdpnihicaa
