/- The walks over package disk: Clone, put, write. -/
import Derived.Test.YtkfikcppnbfmoaaChecked
import Derived.Test.YtkfikcppnbfmoaaMask
import Derived.Lib.LazyBuf
namespace Go.Proofs.Ytkfikcppnbfmoaa
open Go.RowKit

theorem byte_rows : (Try.prog.info? 5).map (·.size) = some 1 := by kernel_rfl
theorem byte_info : (Try.prog.info? 5).map (fun i => (i.zero, i.size, i.bytes)) = some (some (.int .u8 0), 1, 1) := by kernel_rfl
theorem slice_info : (Try.prog.info? 34).map (fun i => (i.zero, i.size, i.bytes)) = some (some (.slice none 0 0), 1, 24) := by kernel_rfl

set_option maxHeartbeats 400000 in
theorem clone_bytes (w : World) (v : Value) (l : List UInt8) (hv : IsBytes w v l) (hl : l ≠ []) (hlen : l.length ≤ 1048576) :
    Calls Try.prog 25 #[v] w fun e w' => ∃ v', e = .returned v' ∧ OwnBytes 5 w.heap.size w' v' l ∧ Below w.heap.size w w' := by
  obtain ⟨base, cap, rfl, hl1, hcap, hnil, hcell⟩ := hv.out
  obtain ⟨b, off, rfl, -⟩ := hcell 0 (List.length_pos_iff.2 hl)
  clear hcell hnil
  have hq := fun w : World => run_eql_slice_nil (P := Try.prog) w 34 5 (some ⟨b, off, none⟩) l.length cap Try.underlying34
  have ho0 := OwnBytes.made 5 w w.heap.size (Nat.le_refl _)
  have hb0 : Below w.heap.size w (w.alloc (.cells #[] 5)) := (Below.refl _ _).alloc (Nat.le_refl _) _
  have hv0 := hv.below hb0 rfl
  clear hv
  go_enter Try.func25, Try.ntmps25
  go_wp2_with (at_builtin; refine wpList_append_bytes rfl (.tmp 5) (.tmp 6) 34 34 rfl w.heap.size 5 Try.underlying34 byte_info _ [] rfl ho0 _ l rfl (hv0.src Try.underlying34) (by simp only [List.length_nil]; omega) hb0.size ?_; intro v3 w1 ho1 hg1)
  go_ret
  exact ⟨_, rfl, ho1, Below.grown hb0 hg1 hb0.size (fun k hk => (World.ownsRow.lt ho0 k hk).1)⟩

set_option maxHeartbeats 400000 in
theorem clone_lists (w : World) (v : Value) (n : Nat) (vs : List Value) (hv : IsRow 1 w v n vs) (hone : ∀ u ∈ vs, u.oneCell' = true) (hn0 : n ≠ 0) (hlen : n ≤ 4096) :
    Calls Try.prog 30 #[v] w fun e w' => ∃ g cap, e = .returned (.slice (some ⟨g, 0, none⟩) n cap) ∧ w.heap.size ≤ g ∧ w'.ownsRow w.heap.size 34 1 (.slice (some ⟨g, 0, none⟩) n cap) n vs ∧ Below w.heap.size w w' := by
  have hv' := hv
  obtain ⟨base, cap, rfl, hxl, hl1, hcap, hnil, hcell⟩ := hv
  obtain ⟨b, off, rfl, -⟩ := hcell 0 (by omega)
  clear hcell hnil
  have hq := fun w : World => run_eql_slice_nil (P := Try.prog) w 23 34 (some ⟨b, off, none⟩) n cap Try.underlying23
  have ho0 : (w.alloc (.cells #[] 34)).ownsRow w.heap.size 34 1 (.slice (some ⟨w.heap.size, 0, none⟩) 0 0) 0 [] := World.ownsRow_made w #[] 0 (Nat.le_refl _) (by simp [maxLen]) (by simp)
  have hb0 : Below w.heap.size w (w.alloc (.cells #[] 34)) := (Below.refl _ _).alloc (Nat.le_refl _) _
  have hsrc : Src Try.prog 1 _ 23 _ n vs := Src.row Try.underlying23 (hv'.below hb0 rfl) hone
  clear hv'
  go_enter Try.func30, Try.ntmps30
  go_wp2_with (at_builtin; refine wpList_append_any rfl (.tmp 5) (.tmp 6) 23 23 rfl w.heap.size 34 (.slice none 0 0) 1 24 Try.underlying23 slice_info rfl _ 0 [] rfl ho0 _ n vs rfl hsrc (by omega) (by simp only [maxLen]; omega) hb0.size ?_; intro v3 w1 ho1 hg1)
  go_ret
  have hb1 := Below.grown hb0 hg1 hb0.size (fun k hk => (World.ownsRow.lt ho0 k hk).1)
  have ho2 : w1.ownsRow w.heap.size 34 1 v3 n vs := by simpa using ho1
  have ho2' := ho2
  obtain ⟨_, hr⟩ := ho2'
  rcases hr with ⟨_, hn⟩ | ⟨g, cap', _, rfl, hB, _⟩
  · exact absurd hn hn0
  · exact ⟨g, cap', rfl, hB, ho2, hb1⟩

/-- A disk's content. -/
structure Dk where
  sec : List (List UInt8)
  left : Int
  tear : Int
  stopped : Bool
deriving Repr, DecidableEq

/-- The valid disks of the chapter. -/
structure Dk.Ok (d : Dk) : Prop where
  one : 1 ≤ d.sec.length
  many : d.sec.length ≤ 4096
  size : ∀ i (h : i < d.sec.length), (d.sec[i]).length = 128
  left1 : -1 ≤ d.left
  left2 : d.left ≤ 1099511627776
  tear1 : 0 ≤ d.tear
  tear2 : d.tear ≤ 128
  tears : d.left = -1 → d.tear = 0
  stops : d.stopped = true → d.left = 0

def putAt (ll : List (List UInt8)) (i : Nat) (b : List UInt8) : List (List UInt8) := ll.set i (b ++ (ll.getD i []).drop b.length)

/-- A sector write, as far as it is performed. -/
def Dk.wr (d : Dk) (i : Nat) (b : List UInt8) : Dk × Int :=
  if d.stopped then (d, 300)
  else if d.left = 0 then ({ d with sec := putAt d.sec i (b.take d.tear.toNat), stopped := true }, 300)
  else ({ d with sec := putAt d.sec i b, left := if 0 < d.left then d.left - 1 else d.left }, 0)

/-- The writer's block. -/
def wtr (sv : Value) (left tear : Int) (st : Bool) : Obj := .cells #[sv, .int .i64 left, .int .i64 tear, .bool st] 52

set_option maxHeartbeats 400000 in
theorem put_any (S S' : Nat → Bool) (w0 w : World) (hS1 : ∀ k, S' k = true → S k = true ∨ w0.heap.size ≤ k) (hS2 : ∀ k, S' k = true → k < w.heap.size) (hB : Below w0.heap.size w0 w) (p : Nat) (hpB : w0.heap.size ≤ p) (sv : Value) (left tear : Int) (st : Bool) (ll : List (List UInt8)) (hp : w.heap[p]? = some (wtr sv left tear st)) (hsv : IsLists (mask S w0) sv ll) (hll : ll.length ≤ 4096) (i : Nat) (hi : i < ll.length) (h128 : (ll[i]).length ≤ 128) (h1 : ll[i] ≠ [])
    (bv : Value) (b : List UInt8) (hb : IsBytes w0 bv b) (hbl : b.length ≤ (ll[i]).length) :
    Calls Try.prog 29 #[.pointer (some ⟨p, 0, none⟩), .int .i64 i, bv] w fun e w' => e = .returned (.tuple #[]) ∧ ∃ sv', w'.heap[p]? = some (wtr sv' left tear st) ∧ IsLists (mask S' w') sv' (ll.set i (b ++ ll[i].drop b.length)) ∧ Below w0.heap.size w0 w' ∧ ∀ k, k < w.heap.size → k ≠ p → w'.heap[k]? = w.heap[k]? := by
  have hsw := (hsv.sub (mask_is S w0)).below hB rfl
  have hbw := hb.below hB rfl
  obtain ⟨base, cap, rfl, hl1, hcap, hnil, hcell⟩ := hsw.out
  obtain ⟨b0, off, u0, rfl, hc0, hu0⟩ := hcell i hi
  have hu0' := hu0
  obtain ⟨ub, ucap, rfl, hul, hucap, -, hucell⟩ := hu0.out
  clear hcell hnil hucell
  have hplt : p < w.heap.size := (Array.getElem?_eq_some_iff.1 hp).1
  have cp0 : w.cell? ⟨p, 0, none⟩ = some (.slice (some ⟨b0, off, none⟩) ll.length cap) := by rw [cell_of_row _ _ _ _ _ _ hp]; rfl
  unfold maxLen at hcap
  have hine : ll ≠ [] := by intro e; subst e; simp at hi
  generalize hli : ll[i] = li at *
  go_enter Try.func29, Try.ntmps29
  go_wp2_with fail
  refine (clone_bytes _ _ li hu0' h1 (by omega)).mono ?_
  rintro e w1 ⟨sx, rfl, hos, hb1⟩
  obtain ⟨gs, cs, rfl, hgs⟩ := hos.shape h1
  have hB1 := hB.trans (hb1.mono hB.size)
  have hbw1 := hbw.below hb1 rfl
  have cp1 : w1.cell? ⟨p, 0, none⟩ = some (.slice (some ⟨b0, off, none⟩) ll.length cap) := by rw [hb1.cell hplt]; exact cp0
  have hgw : w.heap.size ≤ w1.heap.size := hb1.size
  go_wp2_with (refine wpList_copy_bytes rfl (.tmp 16) (.tmp 17) 34 34 rfl 5 Try.underlying34 byte_rows w.heap.size gs li.length cs li rfl hos _ b rfl hbw1 hbl ?_; intro w2 ho2 hg2; have cp2 : w2.cell? ⟨p, 0, none⟩ = some (.slice (some ⟨b0, off, none⟩) ll.length cap) := (World.cell?_of_block (hg2.block p (Nat.lt_of_lt_of_le hplt hgw) (fun e => by cases e; omega))).trans cp1)
  have hb2 : Below w.heap.size w w2 := Below.grown hb1 hg2 hgw (fun k hk => by cases hk; exact hgs)
  obtain ⟨vs, hrow, hone, hvs⟩ := hsv.parts
  have HVS := Lib.hid hvs
  clear hvs
  have hrow2 := (hrow.sub (mask_is S w0)).below (hB.trans (hb2.mono hB.size)) rfl
  refine (clone_lists _ _ ll.length vs hrow2 hone (by omega) hll).mono ?_
  rintro e w3 ⟨gy, cy, rfl, hgy, hol, hb3⟩
  have ho3 := ho2.later hb3
  have hp2 : w2.heap[p]? = w.heap[p]? := hb2.block p hplt
  have hgw2 : w.heap.size ≤ w2.heap.size := hb2.size
  have hp3 : w3.heap[p]? = some (wtr (.slice (some ⟨b0, off, none⟩) ll.length cap) left tear st) := by
    rw [hb3.block p (Nat.lt_of_lt_of_le hplt hgw2), hp2]; exact hp
  have cp3 : w3.cell? ⟨p, 0, none⟩ = some (.slice (some ⟨b0, off, none⟩) ll.length cap) := by rw [cell_of_row _ _ _ _ _ _ hp3]; rfl
  have fp3 : w3.frozen? ⟨p, 0, none⟩ = false := frozen_of_row _ _ _ _ _ hp3
  have hpgy : p ≠ gy := by omega
  have hb30 : Below w0.heap.size w0 w3 := hB.trans ((hb2.trans (hb3.mono hgw2)).mono hB.size)
  have hgs2 : gs < w2.heap.size := (World.ownsRow.lt ho2 gs rfl).2
  have hol4 := hol.kept (setCell_grown w3 ⟨p, 0, none⟩ (.slice (some ⟨gy, 0, none⟩) ll.length cy)) (.inr (fun e => hpgy (by cases e; rfl)))
  obtain ⟨uo, huo1, huo2⟩ := HVS.out i hi
  obtain ⟨uob, uoc, rfl, -⟩ := huo2.out
  have cp4 := (World.ownsRow.cellAt hol4 i (by omega)).trans huo1
  have fp4 := World.ownsRow.frozenAt hol4 i
  have HOL4 := Lib.hid hol4
  clear hol4 hol
  go_wp2_with fail
  have hol4 := HOL4.out
  have hgyw : gy < w3.heap.size := by
    have := (World.ownsRow.lt hol4 gy rfl).2
    simpa [World.setCell] using this
  have hgsgy : gs ≠ gy := by omega
  have hgsp : gs ≠ p := by omega
  have hst := (World.ownsRow.stored hol4 i (.slice (some ⟨gs, 0, none⟩) li.length cs)).1
  have hbw' : Below w0.heap.size w0 ((w3.setCell ⟨p, 0, none⟩ (.slice (some ⟨gy, 0, none⟩) ll.length cy)).setCell ⟨gy, i, none⟩ (.slice (some ⟨gs, 0, none⟩) li.length cs)) :=
    (hb30.setCell hpB _).setCell (by show _ ≤ gy; have := hB.size; omega) _
  have hlen' : (b ++ li.drop b.length).length = li.length := by rw [List.length_append, List.length_drop]; omega
  refine bodyPost_end (v := .tuple #[]) (results_none rfl _ _ _) rfl ⟨rfl, .slice (some ⟨gy, 0, none⟩) ll.length cy, ?_, ?_, hbw', fun k hk hkp => ?_⟩
  · rw [heap_setCell_other _ _ _ _ hpgy]
    rw [heap_setCell_same _ p 0 _ _ _ hp3]
    rfl
  · have hL : (ll.set i (b ++ li.drop b.length)).length = ll.length := List.length_set
    have hoff : ∀ x : Nat, w.heap.size ≤ x → S' x = false := fun x hx => by
      cases h : S' x with
      | false => rfl
      | true => have := hS2 x h; omega
    refine isLists_of_row (vs := vs.set i (.slice (some ⟨gs, 0, none⟩) li.length cs)) (by rw [hL]; exact ownsRow_mask hst (fun k hk => hoff k (by
      have : gy = k := by cases hk; rfl
      omega))) (fun j hj => ?_)
    rw [hL] at hj
    have hvl : vs.length = ll.length := by obtain ⟨_, _, _, h, _⟩ := hrow; omega
    by_cases e : i = j
    · subst e
      refine ⟨_, by rw [List.getElem?_set, if_pos rfl, if_pos (by omega)], ?_⟩
      rw [List.getElem_set_self]
      have hh := ((ho3.is).setCell ⟨p, 0, none⟩ (.slice (some ⟨gy, 0, none⟩) ll.length cy) (fun bb hbb => by cases hbb; exact hgsp)).setCell ⟨gy, i, none⟩ (.slice (some ⟨gs, 0, none⟩) li.length cs) (fun bb hbb => by cases hbb; exact hgsgy)
      exact mask_row hh (fun k hk => hoff k (by
        have : gs = k := by cases hk; rfl
        omega))
    · obtain ⟨x, k1, k2⟩ := HVS.out j hj
      refine ⟨x, by rw [List.getElem?_set, if_neg e]; exact k1, ?_⟩
      rw [List.getElem_set_ne e]
      exact k2.sub (mask_more hbw' rfl hS1)
  · rw [heap_setCell_other _ _ _ _ (by show k ≠ gy; omega), heap_setCell_other _ _ _ _ hkp]
    exact (hb3.block k (by omega)).trans (hb2.block k hk)

theorem wtr_cells {w : World} {p : Nat} {sv : Value} {left tear : Int} {st : Bool} (hp : w.heap[p]? = some (wtr sv left tear st)) :
    w.cell? ⟨p, 0, none⟩ = some sv ∧ w.cell? ⟨p, 1, none⟩ = some (.int .i64 left) ∧ w.cell? ⟨p, 2, none⟩ = some (.int .i64 tear) ∧ w.cell? ⟨p, 3, none⟩ = some (.bool st) ∧
    w.frozen? ⟨p, 1, none⟩ = false ∧ w.frozen? ⟨p, 3, none⟩ = false := by
  refine ⟨?_, ?_, ?_, ?_, frozen_of_row _ _ _ _ _ hp, frozen_of_row _ _ _ _ _ hp⟩ <;> rw [cell_of_row _ _ _ _ _ _ hp] <;> rfl

set_option maxHeartbeats 400000 in
theorem write_any (S S' : Nat → Bool) (w0 w : World) (hS1 : ∀ k, S' k = true → S k = true ∨ w0.heap.size ≤ k) (hS2 : ∀ k, S' k = true → k < w.heap.size) (hB : Below w0.heap.size w0 w) (p : Nat) (hSp : S' p = true) (hpB : w0.heap.size ≤ p) (d : Dk) (hd : d.Ok) (sv : Value) (hp : w.heap[p]? = some (wtr sv d.left d.tear d.stopped)) (hsv : IsLists (mask S w0) sv d.sec) (i : Nat) (hi : i < d.sec.length)
    (bv : Value) (b : List UInt8) (hb : IsBytes w0 bv b) (hbl : b.length = 128) :
    Calls Try.prog 27 #[.pointer (some ⟨p, 0, none⟩), .int .i64 i, bv] w fun e w' => e = .returned (.int .i64 (d.wr i b).2) ∧ ∃ sv', w'.heap[p]? = some (wtr sv' (d.wr i b).1.left (d.wr i b).1.tear (d.wr i b).1.stopped) ∧ IsLists (mask S' w') sv' (d.wr i b).1.sec ∧ Below w0.heap.size w0 w' ∧ ∀ k, k < w.heap.size → k ≠ p → w'.heap[k]? = w.heap[k]? := by
  obtain ⟨c0, c1, c2, c3, f1, f3⟩ := wtr_cells hp
  have hplt : p < w.heap.size := (Array.getElem?_eq_some_iff.1 hp).1
  have h128 := hd.size i hi
  obtain ⟨sec, left, tear, st⟩ := d
  obtain ⟨-, hmany, -, hl1, hl2, ht1, ht2, -, -⟩ := hd
  simp only at *
  obtain ⟨t, rfl⟩ : ∃ t : Nat, tear = (t : Int) := ⟨tear.toNat, by omega⟩
  have hne : sec[i] ≠ [] := by intro e; rw [e] at h128; simp at h128
  have hgetD : sec[i]?.getD [] = sec[i] := by simp [hi]
  have hbw := hb.below hB rfl
  cases st with
  | true =>
    go_enter Try.func27, Try.ntmps27
    go_wp2
    go_ret
    refine ⟨by simp [Dk.wr], sv, by simpa [Dk.wr] using hp, by simpa [Dk.wr] using hsv.sub (mask_more hB rfl hS1), hB, fun _ _ _ => rfl⟩
  | false =>
    by_cases h0 : left = 0
    · subst h0
      obtain ⟨bb, bc, rfl, hblc, -, -, -⟩ := hb.out
      have htk : (b.take t).length = t := by rw [List.length_take]; omega
      have hq := fun w : World => run_slice_row_to (P := Try.prog) (t := 34) Try.underlying34 byte_rows w bb b.length bc .i64 t (by omega)
      have hbt : IsBytes w0 (.slice bb t bc) (b.take t) := hb.take t (by omega)
      go_enter Try.func27, Try.ntmps27
      go_wp2_with fail
      refine (put_any S S' w0 _ hS1 hS2 hB p hpB sv _ _ _ sec hp hsv hmany i hi (by omega) hne _ (b.take t) hbt (by omega)).mono ?_
      rintro e w1 ⟨rfl, sv1, hp1, hs1, hB1, hK1⟩
      obtain ⟨c0', c1', c2', c3', f1', f3'⟩ := wtr_cells hp1
      go_wp2_with fail
      go_ret
      refine ⟨by simp [Dk.wr], sv1, ?_, ?_, hB1.setCell hpB _, fun k hk hkp => (heap_setCell_other _ _ _ _ hkp).trans (hK1 k hk hkp)⟩
      · simp only [Dk.wr]
        rw [heap_setCell_same _ p 3 _ _ _ hp1]
        rfl
      · have := hs1.sub (mask_set ⟨p, 3, none⟩ (.bool true) hSp)
        simpa [Dk.wr, putAt, hgetD] using this
    · go_enter Try.func27, Try.ntmps27
      go_wp2_with fail
      refine (put_any S S' w0 _ hS1 hS2 hB p hpB sv _ _ _ sec hp hsv hmany i hi (by omega) hne _ b hb (by omega)).mono ?_
      rintro e w1 ⟨rfl, sv1, hp1, hs1, hB1, hK1⟩
      obtain ⟨c0', c1', c2', c3', f1', f3'⟩ := wtr_cells hp1
      by_cases hlt : 0 < left
      · go_wp2_with fail
        go_ret
        refine ⟨by simp [Dk.wr, h0], sv1, ?_, ?_, hB1.setCell hpB _, fun k hk hkp => (heap_setCell_other _ _ _ _ hkp).trans (hK1 k hk hkp)⟩
        · simp only [Dk.wr, h0, hlt]
          rw [heap_setCell_same _ p 1 _ _ _ hp1]
          rfl
        · have := hs1.sub (mask_set ⟨p, 1, none⟩ (.int .i64 (left - 1)) hSp)
          simpa [Dk.wr, putAt, hgetD, h0, hlt] using this
      · go_wp2_with fail
        go_ret
        refine ⟨by simp [Dk.wr, h0], sv1, ?_, ?_, hB1, hK1⟩
        · have e : (if 0 < left then left - 1 else left) = left := if_neg (by omega)
          simpa [Dk.wr, h0, e] using hp1
        · have := hs1
          simpa [Dk.wr, putAt, hgetD, h0, hlt] using this

end Go.Proofs.Ytkfikcppnbfmoaa
