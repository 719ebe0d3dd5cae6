/- The walks over package wal: read's inner function, Format, Append's inner function. -/
import Derived.Test.YtnfgapdpnihicaaZWb31
import Derived.Test.YtnfgapdpnihicaaZGD
import Derived.Test.YtnfgapdpnihicaaZGB
set_option linter.unusedVariables false
set_option linter.unusedSimpArgs false
namespace Go.Proofs.Ytnfgapdpnihicaa
open Go Go.RowKit

theorem batch_info : (Try.prog.info? 101).map (·.size) = some 4 := by kernel_rfl
/-- A batch's value. -/
def btV (p m : Nat) (rv : Value) (c : Int) : Value := .agg #[.int .i64 p, .int .i64 m, rv, .int .i64 c]
set_option maxHeartbeats 1000000 in
theorem bad_any (w : World) (c : Int) (p : Nat) (g : Nat) (hg : w.cell? ⟨g, 0, none⟩ = some (.int .i64 p)) :
    Calls Try.prog 79 #[.int .i64 c, .pointer (some ⟨g, 0, none⟩)] w fun e w' => e = .returned (btV p 0 (.slice none 0 0) c) ∧ Below w.heap.size w w' := by
  have h0 := ((St.start w).putOld (P := fun x => x.cell? ⟨g, 0, none⟩ = some (.int .i64 p)) (Mono.cell _ _) hg).alloc (.cells #[.int .i64 0, .int .i64 0, .slice none 0 0, .int .i64 0] 101)
  have h1 := ((St.start w).putOld (P := fun x => x.cell? ⟨g, 0, none⟩ = some (.int .i64 p)) (Mono.cell _ _) hg).alloc (.cells #[.int .i64 p, .int .i64 0, .slice none 0 0, .int .i64 c] 101)
  have c0 := (h0.is 0 rfl : World.cell? _ _ = _)
  clear hg
  go_enter Try.func79, Try.ntmps79
  go_wp2_with fail
  exact bodyPost_ret (results_cell_row rfl _ _ w.heap.size 101 _ (0, 0) _ rfl (h1.at_ 0 rfl) Try.underlying101 rfl batch_info) rfl ⟨rfl, h1.below⟩
theorem sector_zero : (Try.prog.info? 73).bind (·.zero) = some (.agg (Array.replicate 128 (.int .u8 0))) := by kernel_rfl
def zeroSec : List UInt8 := List.replicate 128 0
/-- Formatting a region. -/
def Dk.format (d : Dk) (f m : Int) : Dk × Int := if d.fits f m = false then (Dk.zero, 1) else d.write f zeroSec
/-- An array of bytes, read as a slice. -/
theorem sec_bytes {W : World} {g : Nat} {t : TypeId} {l : List UInt8} {n : Nat} (h : W.heap[g]? = some (.cells (l.map u8v).toArray t (0, 0))) (hn : l.length = n) (hm : n ≤ maxLen) : IsBytes W (.slice (some ⟨g, 0, none⟩) n n) l := by
  subst hn
  have h1 := ownsRow_isRow (w := W) (base := 0) (e := t) (size := 1) (v := .slice (some ⟨g, 0, none⟩) l.length l.length) (n := l.length) (xs := l.map u8v) ⟨by simp, .inr ⟨g, l.length, (l.map u8v).toArray, rfl, Nat.zero_le _, h, Nat.le_refl _, hm, by simp, by rw [Nat.mul_one, List.take_of_length_le (by simp)]⟩⟩
  exact h1
theorem zero_cells : Array.replicate 128 (Value.int .u8 0) = (zeroSec.map u8v).toArray := by
  unfold zeroSec
  rw [List.map_replicate, List.toArray_replicate]
  rfl
theorem zeroSec_len : zeroSec.length = 128 := List.length_replicate
/-- A disk's block is loaded. -/
theorem run_load_disk {ρ : Operand → Value} {o : Oper} {W : World} {x : Operand} {g : Nat} {cs : Array Value} (ho : o.op = .load 24 x) (hx : ρ x = .pointer (some ⟨g, 0, none⟩)) (hc : W.heap[g]? = some (.cells cs 24 (0, 0))) (hi : cs.size = 4) : (execOp ρ o).run Try.prog W = .ok (.value (.agg cs)) W :=
  run_load_own ho hx hc Try.underlying24 rfl (by rw [disk_info, hi])
set_option maxRecDepth 8000 in
set_option maxHeartbeats 2000000 in
theorem format_any (w : World) (S : Nat → Bool) (hS : ∀ k, S k = true → k < w.heap.size) (v : Value) (d : Dk) (hvm : IsDk (mask S w) v d) (f m : Int) (hf : -9223372036854775808 ≤ f ∧ f ≤ 9223372036854775807) (hm : -9223372036854775808 ≤ m ∧ m ≤ 9223372036854775807) :
    Calls Try.prog 19 #[v, .int .i64 f, .int .i64 m] w fun e w' => ∃ v', e = .returned (.tuple #[v', .int .i64 (d.format f m).2]) ∧ IsDk (mask S w') v' (d.format f m).1 ∧ Below w.heap.size w w' := by
  obtain ⟨⟨D, c⟩, hR⟩ : ∃ R, d.format f m = R := ⟨_, rfl⟩
  rw [hR]
  unfold Dk.format at hR
  have HR := Lib.hid hR
  clear hR
  have hvm' := hvm
  obtain ⟨sv, rfl, hl⟩ := hvm
  obtain ⟨bs, q, rfl, -⟩ := hl.out
  simp only [dkV] at hvm' ⊢
  obtain ⟨n, hn⟩ : ∃ n, d.sec.length = n := ⟨_, rfl⟩
  rw [hn] at hvm' ⊢
  obtain ⟨left, hleft⟩ : ∃ x, d.left = x := ⟨_, rfl⟩
  obtain ⟨tear, htear⟩ : ∃ x, d.tear = x := ⟨_, rfl⟩
  obtain ⟨st, hst⟩ : ∃ x, d.stopped = x := ⟨_, rfl⟩
  rw [hleft, htear, hst] at hvm' ⊢
  have h0 := (((St.start w).putOld (P := fun x => IsDk (mask S x) (.agg #[.slice bs n q, .int .i64 left, .int .i64 tear, .bool st]) d) (Mono.off S (Mono.dk _ _)) hvm').alloc (.cells #[.slice bs n q, .int .i64 left, .int .i64 tear, .bool st] 24)).alloc (.cells #[.slice none 0 0, .int .i64 0, .int .i64 0, .bool false] 24)
  simp only [al_size] at h0
  clear hvm' hl hn hleft htear hst
  obtain ⟨c0, c1, c2, c3, -⟩ := dkO_cells (h0.at_ 1 rfl)
  go_enter Try.func19, Try.ntmps19
  go_wp2_with fail
  refine (Calls.sV h0 (fits_any _ _ d ((h0.is 0 rfl : IsDk (mask S _) _ _).sub (mask_is _ _)) f m hf hm)).mono ?_
  rintro e w1 ⟨rfl, h1⟩
  clear h0 c0 c1 c2 c3
  obtain ⟨ft, hft⟩ : ∃ b, d.fits f m = b := ⟨_, rfl⟩
  have hr := HR.out
  rw [hft] at hr ⊢
  clear HR
  cases ft with
  | false =>
    rw [if_pos rfl] at hr
    cases hr
    have h2 := h1.setRow (os1 := []) (cs' := #[.slice none 0 0, .int .i64 0, .int .i64 0, .bool false])
    go_wp2_with (refine wpList_store_row rfl 24 (.tmp 6) (.tmp 14) rfl (w.heap.size + 1) #[.slice none 0 0, .int .i64 0, .int .i64 0, .bool false] rfl rfl 24 _ (h1.at_ 0 rfl) disk_info rfl (one4 rfl _ _ _) ?_)
    try simp only [Exit.inBlock, Exit.then]
    exact ret_disk (w.heap.size + 1) (.slice none 0 0) 0 0 false rfl rfl (h2.at_ 0 rfl) rfl ⟨_, rfl, dk_zero _, h2.below⟩
  | true =>
    rw [if_neg (by decide)] at hr
    have HR := Lib.hid hr
    clear hr
    go_upto_region 4 with (refine wpList_alloc rfl 73 rfl _ sector_zero ?_)
    rw [zero_cells, show (Value.agg (zeroSec.map u8v).toArray).cells = (zeroSec.map u8v).toArray from rfl]
    have h2 := h1.alloc (.cells (zeroSec.map u8v).toArray 73)
    clear h1
    generalize World.alloc _ _ = W2 at h2 ⊢
    generalize w1.heap.size = g8 at h2 ⊢
    have h3 := h2.drew
    refine wp_region_take (fun w' => w' = W2.drew) (fun i => i == 3 || i == 4 || i == 5 || i == 6 || i == 7) (by kernel_rfl) ?_
    refine wpTake_val (i := 0) (v := .agg #[.slice bs n q, .int .i64 left, .int .i64 tear, .bool st]) rfl (by kernel_rfl) (by kernel_rfl) (by kernel_rfl) (by kernel_rfl) (by kernel_rfl) (fun _ _ _ h => h) rfl (by rfl) (fun w' hw' => ?_) ?_
    · subst hw'
      exact run_load_disk rfl rfl (h3.at_ 2 rfl) rfl
    try simp only [Act.put, List.getElem_toArray, List.getElem_cons_succ, List.getElem_cons_zero, List.setIfInBounds_toArray, List.set_cons_zero, List.set_cons_succ]
    refine wpTake_val (i := 1) (v := .int .i64 f) rfl (by kernel_rfl) (by kernel_rfl) (by kernel_rfl) (by kernel_rfl) (by kernel_rfl) (fun _ _ _ h => h) rfl (by rfl) (fun w' hw' => ?_) ?_
    · subst hw'
      go_simp
    try simp only [Act.put, List.getElem_toArray, List.getElem_cons_succ, List.getElem_cons_zero, List.setIfInBounds_toArray, List.set_cons_zero, List.set_cons_succ]
    refine wpTake_val (i := 2) (v := .slice (some ⟨g8, 0, none⟩) 128 128) rfl (by kernel_rfl) (by kernel_rfl) (by kernel_rfl) (by kernel_rfl) (by kernel_rfl) (fun _ _ _ h => h) rfl (by rfl) (fun w' hw' => ?_) ?_
    · subst hw'
      have hz := h3.at_ 0 rfl
      go_simp
    try simp only [Act.put, List.getElem_toArray, List.getElem_cons_succ, List.getElem_cons_zero, List.setIfInBounds_toArray, List.set_cons_zero, List.set_cons_succ]
    refine wpTake_one (i := 3) rfl (by kernel_rfl) (fun K hK => ?_)
    go_simp
    have hwc := write_call (orS S (inL (keys _))) _ (h3.orLt hS) _ d f _ zeroSec (h3.off (Mono.dk _ _) 0 rfl) (sec_bytes (h3.at_ 0 rfl) zeroSec_len (by unfold maxLen; omega))
    rw [HR.out] at hwc
    refine hwc.mono ?_
    rintro e w5 ⟨_, rfl, ⟨sv5, rfl, hl5⟩, hb5⟩
    obtain ⟨b5, q5, rfl, -⟩ := hl5.out
    have h5 := h3.callOff (S := S) (P := fun x => IsDk x (.agg #[.slice b5 D.sec.length q5, .int .i64 D.left, .int .i64 D.tear, .bool D.stopped]) D) hb5 (Mono.dk _ _) ⟨_, rfl, hl5⟩
    simp only [dkV]
    refine hK _ _ ⟨.inl rfl, ?_⟩
    clear hK K
    try simp only [Act.put, List.getElem_toArray, List.getElem_cons_succ, List.getElem_cons_zero, List.setIfInBounds_toArray, List.set_cons_zero, List.set_cons_succ]
    refine wpTake_free (i := 4) (v := ?_) rfl (by kernel_rfl) rfl (by kernel_rfl) (by kernel_rfl) (by kernel_rfl) (fun _ _ _ h => h) (by rfl) (fun w' => ?_) ?_
    rotate_left
    · go_simp
      try with_reducible rfl
    try simp only [Act.put, List.getElem_toArray, List.getElem_cons_succ, List.getElem_cons_zero, List.setIfInBounds_toArray, List.set_cons_zero, List.set_cons_succ]
    refine wpTake_free (i := 5) (v := ?_) rfl (by kernel_rfl) rfl (by kernel_rfl) (by kernel_rfl) (by kernel_rfl) (fun _ _ _ h => h) (by rfl) (fun w' => ?_) ?_
    rotate_left
    · go_simp
      try with_reducible rfl
    try simp only [Act.put, List.getElem_toArray, List.getElem_cons_succ, List.getElem_cons_zero, List.setIfInBounds_toArray, List.set_cons_zero, List.set_cons_succ]
    refine wpTake_one (i := 6) rfl (by kernel_rfl) (fun K hK => ?_)
    have h6 := h5.setRow (os1 := [_]) (cs' := #[.slice b5 D.sec.length q5, .int .i64 D.left, .int .i64 D.tear, .bool D.stopped])
    refine step_store rfl rfl rfl rfl (h5.at_ 1 rfl) disk_info rfl (one4 rfl _ _ _) ?_
    refine hK _ _ ⟨.inl rfl, ?_⟩
    clear hK K
    try simp only [Act.put, List.getElem_toArray, List.getElem_cons_succ, List.getElem_cons_zero, List.setIfInBounds_toArray, List.set_cons_zero, List.set_cons_succ]
    refine wpTake_free (i := 7) (v := ?_) rfl (by kernel_rfl) rfl (by kernel_rfl) (by kernel_rfl) (by kernel_rfl) (fun _ _ _ h => h) (by rfl) (fun w' => ?_) ?_
    rotate_left
    · go_simp
      try with_reducible rfl
    try simp only [Act.put, List.getElem_toArray, List.getElem_cons_succ, List.getElem_cons_zero, List.setIfInBounds_toArray, List.set_cons_zero, List.set_cons_succ]
    refine wpTake_done (by kernel_rfl) ?_
    go_wp2_with fail
    try simp only [Exit.inBlock, Exit.then]
    exact ret_disk (w.heap.size + 1) (.slice b5 D.sec.length q5) D.left D.tear D.stopped rfl rfl (h6.at_ 1 rfl) rfl ⟨_, rfl, (h6.is 0 rfl : IsDk (mask S _) _ _), h6.below⟩

theorem mask_no {T : Nat → Bool} {w : World} : Sub (mask T w) (mask (orS noS T) w) := mask_less fun k h => by simpa [orS, noS] using h
set_option maxRecDepth 8000 in
set_option maxHeartbeats 2000000 in
/-- Append's writer, in a caller that has the disk and the code in variables. -/
theorem put_s {w0 W : World} {gd ge : Nat} {e0 : Int} {bs : Option Addr} {n q : Nat} {left tear : Int} {st : Bool} {os : List (Nat × Obj)} {fs : List (World → Prop)} {d D : Dk} {c : Int} (h : St w0 W ((ge, .cells #[.int .i64 e0] 27 (0, 0)) :: (gd, .cells #[.slice bs n q, .int .i64 left, .int .i64 tear, .bool st] 24 (0, 0)) :: os) ((IsDk · (.agg #[.slice bs n q, .int .i64 left, .int .i64 tear, .bool st]) d) :: fs))
    (i : Int) (l : List UInt8) (hl : l.length = 128) (hR : d.write i l = (D, c)) :
    Calls Try.prog 49 #[.int .i64 i, .agg (l.map u8v).toArray, .pointer (some ⟨gd, 0, none⟩), .pointer (some ⟨ge, 0, none⟩)] W fun e w' => ∃ b5 q5, e = .returned (.bool (c == 0)) ∧
      St w0 w' ((ge, .cells #[.int .i64 c] 27 (0, 0)) :: (gd, .cells #[.slice b5 D.sec.length q5, .int .i64 D.left, .int .i64 D.tear, .bool D.stopped] 24 (0, 0)) :: os) ((IsDk · (.agg #[.slice b5 D.sec.length q5, .int .i64 D.left, .int .i64 D.tear, .bool D.stopped]) D) :: (IsDk · (.agg #[.slice bs n q, .int .i64 left, .int .i64 tear, .bool st]) d) :: fs) := by
  have HR := Lib.hid hR
  clear hR
  have h2 := h.alloc (.cells (l.map u8v).toArray 73)
  go_enter Try.func49, Try.ntmps49
  go_upto_region 1 with fail
  try rw [show (Value.agg (l.map u8v).toArray).cells = (l.map u8v).toArray from rfl]
  generalize World.alloc _ _ = W2 at h2 ⊢
  generalize W.heap.size = g5 at h2 ⊢
  clear h
  have h3 := h2.drew
  refine wp_region_take (fun w' => w' = W2.drew) (fun i => i == 3 || i == 4 || i == 5 || i == 6 || i == 7 || i == 8) (by kernel_rfl) ?_
  refine wpTake_val (i := 0) (v := .agg #[.slice bs n q, .int .i64 left, .int .i64 tear, .bool st]) rfl (by kernel_rfl) (by kernel_rfl) (by kernel_rfl) (by kernel_rfl) (by kernel_rfl) (fun _ _ _ h => h) rfl (by rfl) (fun w' hw' => ?_) ?_
  · subst hw'
    exact run_load_disk rfl rfl (h3.at_ 2 rfl) rfl
  try simp only [Act.put, List.getElem_toArray, List.getElem_cons_succ, List.getElem_cons_zero, List.setIfInBounds_toArray, List.set_cons_zero, List.set_cons_succ]
  refine wpTake_val (i := 1) (v := .int .i64 i) rfl (by kernel_rfl) (by kernel_rfl) (by kernel_rfl) (by kernel_rfl) (by kernel_rfl) (fun _ _ _ h => h) rfl (by rfl) (fun w' hw' => ?_) ?_
  · subst hw'
    go_simp
  try simp only [Act.put, List.getElem_toArray, List.getElem_cons_succ, List.getElem_cons_zero, List.setIfInBounds_toArray, List.set_cons_zero, List.set_cons_succ]
  refine wpTake_val (i := 2) (v := .slice (some ⟨g5, 0, none⟩) 128 128) rfl (by kernel_rfl) (by kernel_rfl) (by kernel_rfl) (by kernel_rfl) (by kernel_rfl) (fun _ _ _ h => h) rfl (by rfl) (fun w' hw' => ?_) ?_
  · subst hw'
    have hz := h3.at_ 0 rfl
    go_simp
  try simp only [Act.put, List.getElem_toArray, List.getElem_cons_succ, List.getElem_cons_zero, List.setIfInBounds_toArray, List.set_cons_zero, List.set_cons_succ]
  refine wpTake_one (i := 3) rfl (by kernel_rfl) (fun K hK => ?_)
  go_simp
  have hwc := write_call (orS noS (inL (keys _))) _ (h3.orLt (noS_lt _)) _ d i _ l (((h3.get 0 rfl : IsDk (sm _ _) _ _)).sub mask_no) (sec_bytes (h3.at_ 0 rfl) hl (by unfold maxLen; omega))
  rw [HR.out] at hwc
  refine hwc.mono ?_
  rintro e w5 ⟨_, rfl, ⟨sv5, rfl, hl5⟩, hb5⟩
  obtain ⟨b5, q5, rfl, -⟩ := hl5.out
  have h5 := (h3.call hb5).put (P := (IsDk · (.agg #[.slice b5 D.sec.length q5, .int .i64 D.left, .int .i64 D.tear, .bool D.stopped]) D)) (Mono.dk _ _) (show IsDk _ _ _ from ⟨_, rfl, hl5.sub (mask_or2.trans (mask_is _ _))⟩)
  simp only [dkV]
  refine hK _ _ ⟨.inl rfl, ?_⟩
  clear hK K
  try simp only [Act.put, List.getElem_toArray, List.getElem_cons_succ, List.getElem_cons_zero, List.setIfInBounds_toArray, List.set_cons_zero, List.set_cons_succ]
  refine wpTake_free (i := 4) (v := ?_) rfl (by kernel_rfl) rfl (by kernel_rfl) (by kernel_rfl) (by kernel_rfl) (fun _ _ _ h => h) (by rfl) (fun w' => ?_) ?_
  rotate_left
  · go_simp
    try with_reducible rfl
  try simp only [Act.put, List.getElem_toArray, List.getElem_cons_succ, List.getElem_cons_zero, List.setIfInBounds_toArray, List.set_cons_zero, List.set_cons_succ]
  refine wpTake_free (i := 5) (v := ?_) rfl (by kernel_rfl) rfl (by kernel_rfl) (by kernel_rfl) (by kernel_rfl) (fun _ _ _ h => h) (by rfl) (fun w' => ?_) ?_
  rotate_left
  · go_simp
    try with_reducible rfl
  try simp only [Act.put, List.getElem_toArray, List.getElem_cons_succ, List.getElem_cons_zero, List.setIfInBounds_toArray, List.set_cons_zero, List.set_cons_succ]
  refine wpTake_free (i := 6) (v := ?_) rfl (by kernel_rfl) rfl (by kernel_rfl) (by kernel_rfl) (by kernel_rfl) (fun _ _ _ h => h) (by rfl) (fun w' => ?_) ?_
  rotate_left
  · go_simp
    try with_reducible rfl
  try simp only [Act.put, List.getElem_toArray, List.getElem_cons_succ, List.getElem_cons_zero, List.setIfInBounds_toArray, List.set_cons_zero, List.set_cons_succ]
  refine wpTake_one (i := 7) rfl (by kernel_rfl) (fun K hK => ?_)
  have h6 := h5.setRow (os1 := [_, _]) (cs' := #[.slice b5 D.sec.length q5, .int .i64 D.left, .int .i64 D.tear, .bool D.stopped])
  refine step_store rfl rfl rfl rfl (h5.at_ 2 rfl) disk_info rfl (one4 rfl _ _ _) ?_
  refine hK _ _ ⟨.inl rfl, ?_⟩
  clear hK K
  try simp only [Act.put, List.getElem_toArray, List.getElem_cons_succ, List.getElem_cons_zero, List.setIfInBounds_toArray, List.set_cons_zero, List.set_cons_succ]
  refine wpTake_one (i := 8) rfl (by kernel_rfl) (fun K hK => ?_)
  obtain ⟨z0, zf0⟩ := cellF (j := 0) (h6.at_ 1 rfl) rfl
  have h7 := h6.setCell (os1 := [_]) (i := 0) (v := .int .i64 c)
  go_simp
  refine hK _ _ ⟨.inl rfl, ?_⟩
  clear hK K
  try simp only [Act.put, List.getElem_toArray, List.getElem_cons_succ, List.getElem_cons_zero, List.setIfInBounds_toArray, List.set_cons_zero, List.set_cons_succ]
  refine wpTake_done (by kernel_rfl) ?_
  have c9 := (cellF (j := 0) (h7.at_ 1 rfl) rfl).1
  go_wp2_with fail
  go_ret
  exact ⟨rfl, _, _, h7.loose (os1 := [])⟩

end Go.Proofs.Ytnfgapdpnihicaa
