/- The walk over values.Read. -/
import Derived.Test.YtfpkibfofainaaaZValA
import Derived.Test.YtfpkibfofainaaaZGC
set_option linter.unusedVariables false
set_option linter.unusedSimpArgs false
namespace Go.Proofs.Ytfpkibfofainaaa
open Go.RowKit

def Vl.zero : Vl := ⟨0, 0, ⟨#[]⟩⟩
/-- What is read before it is checked. -/
def readV0 (l : List UInt8) (i : Int) : Vl × Int × Int :=
  let b := ((l.getD i.toNat 0).toNat : Int)
  if b = 0 then (⟨0, 0, ⟨#[]⟩⟩, i + 1, 0)
  else if b = 1 then (if i + 1 = l.length then (⟨1, 0, ⟨#[]⟩⟩, i + 1 + 1, 41) else (⟨1, ((l.getD (i.toNat + 1) 0).toNat : Int), ⟨#[]⟩⟩, i + 1 + 1, if 1 < (l.getD (i.toNat + 1) 0).toNat then 3 else 0))
  else if b = 2 ∨ b = 3 then (⟨b, (Wire.readI l (i + 1)).1, ⟨#[]⟩⟩, (Wire.readI l (i + 1)).2.1, (Wire.readI l (i + 1)).2.2)
  else if b = 4 ∨ b = 5 then (⟨b, 0, ⟨(Wire.readT l (i + 1)).1.toArray⟩⟩, (Wire.readT l (i + 1)).2.1, (Wire.readT l (i + 1)).2.2)
  else (⟨b, 0, ⟨#[]⟩⟩, i + 1, 3)
def checked (x : Vl × Int × Int) : Vl × Int × Int := if x.2.2 = 0 then (if x.1.check = 0 then (x.1, x.2.1, 0) else (Vl.zero, 0, x.1.check)) else (Vl.zero, 0, x.2.2)
def readV (l : List UInt8) (i : Int) : Vl × Int × Int :=
  if i < 0 ∨ (l.length : Int) < i then (Vl.zero, 0, 1) else if i = l.length then (Vl.zero, 0, 41) else checked (readV0 l i)

theorem results_cell2 {P : Program} {fn : Func} {p u1 u2 : Tmp} {ty : TypeId} (h : fn.results = #[.cell p ty, .tmp u1, .tmp u2]) (tmps : Array Value) (w : World) (g : Nat) (t : TypeId) (cs : Array Value) (fr : Nat × Nat) (d : TypeDesc)
    (hp : tmps.getD p undef = .pointer (some ⟨g, 0, none⟩)) (hg : w.heap[g]? = some (.cells cs t fr))
    (hu : P.underlying ty = some d) (hd : (match d with | .struct _ | .array _ _ => true | _ => false) = true) (hi : (P.info? ty).map (·.size) = some cs.size) :
    (results fn tmps).run P w = .ok (.tuple #[.agg cs, tmps.getD u1 undef, tmps.getD u2 undef]) w := by
  unfold results
  simp only [h]
  have hp' : tmps[p]?.getD undef = .pointer (some ⟨g, 0, none⟩) := by simpa using hp
  simp [hp', asAddr, run_loadVar_row w g t ty cs fr d hg hu hd hi]
theorem one3 (a b : Int) (s : ByteArray) : (#[.int .i64 a, .int .i64 b, .string s] : Array Value).all (·.oneCell') = true := by
  rw [Array.all_eq_true_iff_forall_mem]
  intro x hx
  simp only [List.mem_toArray, List.mem_cons, List.not_mem_nil, or_false] at hx
  rcases hx with rfl | rfl | rfl <;> rfl
theorem bytes_cell {w : World} {base : Option Addr} {n cap : Nat} {l : List UInt8} (h : IsBytes w (.slice base n cap) l) (p : Nat) (hp : p < l.length) : ∃ b off, base = some ⟨b, off, none⟩ ∧ w.cell? ⟨b, off + p, none⟩ = some (.int .u8 ((l[p]).toNat : Int)) := by
  obtain ⟨_, _, e, -, -, -, hat⟩ := h.out
  cases e
  obtain ⟨b, off, rfl, hc⟩ := hat p hp
  exact ⟨b, off, rfl, hc⟩
theorem val_info : (Try.prog.info? 57).map (·.size) = some 3 := by kernel_rfl
theorem ret_val {fn : Func} {R : Ending → World → Prop} {a : Act} {w : World} {p u1 u2 : Tmp} (g : Nat) (v : Vl) (h : fn.results = #[.cell p 57, .tmp u1, .tmp u2]) (hp : a.tmps.getD p undef = .pointer (some ⟨g, 0, none⟩))
    (hg : w.heap[g]? = some (.cells #[.int .i64 v.k, .int .i64 v.n, .string v.s] 57 (0, 0))) (hd : a.defers = []) (hR : R (.returned (.tuple #[v.val, a.tmps.getD u1 undef, a.tmps.getD u2 undef])) w) : bodyPost Try.prog fn R .ret a w :=
  bodyPost_ret (results_cell2 h _ _ g 57 _ (0, 0) _ hp hg Try.underlying57 rfl val_info) hd hR

set_option maxRecDepth 8000 in
set_option maxHeartbeats 4000000 in
theorem valRead_any (w : World) (bv : Value) (l : List UInt8) (i : Int) (hv : IsBytes w bv l) (hl : l.length ≤ 140737488355328) :
    Calls Try.prog 47 #[bv, .int .i64 i] w fun e w' => e = .returned (.tuple #[(readV l i).1.val, .int .i64 (readV l i).2.1, .int .i64 (readV l i).2.2]) ∧ Below w.heap.size w w' := by
  obtain ⟨bs, bc, rfl, hlen, hcap, -, -⟩ := hv.out
  unfold maxLen at hcap
  obtain ⟨r, hr⟩ : ∃ r, readV l i = r := ⟨_, rfl⟩
  rw [hr]
  have HR := Lib.hid hr
  clear hr
  have h0 := ((St.start w).putOld (P := (IsBytes · (.slice bs l.length bc) l)) (Mono.bytes _ _) hv).alloc (.cells #[.int .i64 0, .int .i64 0, .string ⟨#[]⟩] 57)
  have HV := Lib.hid hv
  have HS : Hid (∀ a b s, St w (w.alloc (.cells #[.int .i64 a, .int .i64 b, .string s] 57)) [(w.heap.size, .cells #[.int .i64 a, .int .i64 b, .string s] 57)] [(IsBytes · (.slice bs l.length bc) l)]) := Lib.hid fun a b s => ((St.start w).putOld (P := (IsBytes · (.slice bs l.length bc) l)) (Mono.bytes _ _) hv).alloc _
  clear hv h0
  go_enter Try.func47, Try.ntmps47
  by_cases h1 : i < 0
  · have hr : r = (Vl.zero, 0, 1) := by rw [← HR.out]; unfold readV; rw [if_pos (.inl h1)]
    have HR2 := Lib.hid hr
    clear hr
    go_wp2_with fail
    refine ret_val w.heap.size Vl.zero rfl rfl (heap_alloc_new _ _) rfl ?_
    exact ⟨by rw [HR2.out]; rfl, (Below.refl _ _).alloc (Nat.le_refl _) _⟩
  by_cases h2 : (l.length : Int) < i
  · have hr : r = (Vl.zero, 0, 1) := by rw [← HR.out]; unfold readV; rw [if_pos (.inr h2)]
    have HR2 := Lib.hid hr
    clear hr
    go_wp2_with fail
    refine ret_val w.heap.size Vl.zero rfl rfl (heap_alloc_new _ _) rfl ?_
    exact ⟨by rw [HR2.out]; rfl, (Below.refl _ _).alloc (Nat.le_refl _) _⟩
  by_cases h3 : i = (l.length : Int)
  · have hr : r = (Vl.zero, 0, 41) := by rw [← HR.out]; unfold readV; rw [if_neg (by omega), if_pos h3]
    have HR2 := Lib.hid hr
    have h3i : (i == (l.length : Int)) = true := by simp [h3]
    clear hr
    go_wp2_with fail
    refine ret_val w.heap.size Vl.zero rfl rfl (heap_alloc_new _ _) rfl ?_
    exact ⟨by rw [HR2.out]; rfl, (Below.refl _ _).alloc (Nat.le_refl _) _⟩
  obtain ⟨j, rfl, hj⟩ : ∃ j : Nat, i = (j : Int) ∧ j < l.length := ⟨i.toNat, by omega, by omega⟩
  have hr3 : r = checked (readV0 l (j : Int)) := by rw [← HR.out]; unfold readV; rw [if_neg (by omega), if_neg h3]
  obtain ⟨b, off, rfl, hx⟩ := bytes_cell HV.out j hj
  have hyd : (l.getD (Int.toNat (j : Int)) 0) = l[j] := by rw [Int.toNat_natCast, List.getD_eq_getElem?_getD, List.getElem?_eq_getElem hj]; rfl
  unfold readV0 at hr3
  simp only [hyd] at hr3
  obtain ⟨yk, hyk⟩ : ∃ yk, (l[j]).toNat = yk := ⟨_, rfl⟩
  have hy8 := (l[j]).toNat_lt
  rw [hyk] at hx hr3 hy8
  have hx0 : ∀ o, (w.alloc o).cell? ⟨b, off + j, none⟩ = some (.int .u8 (yk : Int)) := fun o => (((Below.refl _ _).alloc (Nat.le_refl _) o).cell (cell_block_lt hx)).trans hx
  clear hx hyd hyk HR
  have h3i := beq_of h3
  have j1 : ¬ (j : Int) < 0 := by omega
  have j2 : (j : Int) < (l.length : Int) := by omega
  rcases (show yk = 0 ∨ yk = 1 ∨ yk = 2 ∨ yk = 3 ∨ yk = 4 ∨ yk = 5 ∨ 5 < yk from by omega) with rfl | rfl | rfl | rfl | rfl | rfl | hy5
  · have hr4 : r = checked (⟨0, 0, ⟨#[]⟩⟩, (j : Int) + 1, 0) := by rw [hr3]; simp
    have HQ := Lib.hid hr4
    clear hr4 hr3
    have h4 := HS.out 0 0 ⟨#[]⟩
    go_wp2_with fail
    obtain ⟨c, hc⟩ : ∃ c, (⟨0, 0, ⟨#[]⟩⟩ : Vl).check = c := ⟨_, rfl⟩
    have hk := fun w => valCheck_any w ⟨0, 0, ⟨#[]⟩⟩
    rw [hc] at hk
    simp only [Vl.val] at hk
    refine (Calls.sV h4 (hk _)).mono ?_
    rintro e w5 ⟨rfl, h5⟩
    clear hk
    have hq := HQ.out
    unfold checked at hq
    rw [if_pos rfl] at hq
    simp only [hc] at hq
    obtain ⟨c0, c1, c2⟩ := cells3 (h5.at_ 0 rfl)
    by_cases hc0 : c = 0
    · subst hc0
      rw [if_pos rfl] at hq
      have HR2 := Lib.hid hq
      clear hq hc
      go_wp2_with (refine wpList_store_row rfl 57 (.tmp 4) (.tmp 80) rfl _ #[.int .i64 (0), .int .i64 (0), .string ⟨#[]⟩] rfl rfl 57 _ (h5.at_ 0 rfl) val_info rfl (one3 _ _ _) ?_)
      have h9 := h5.setRow (os1 := []) (cs' := #[.int .i64 (0), .int .i64 (0), .string ⟨#[]⟩])
      refine ret_val w.heap.size ⟨0, 0, ⟨#[]⟩⟩ rfl rfl (h9.at_ 0 rfl) rfl ?_
      exact ⟨by rw [HR2.out]; rfl, h9.below⟩
    · rw [if_neg hc0] at hq
      have n1 := bne_of hc0
      have HR2 := Lib.hid hq
      clear hq hc
      go_wp2_with (refine wpList_store_row rfl 57 (.tmp 4) (.tmp 78) rfl _ #[.int .i64 0, .int .i64 0, .string ⟨#[]⟩] rfl rfl 57 _ (h5.at_ 0 rfl) val_info rfl (one3 _ _ _) ?_)
      have h9 := h5.setRow (os1 := []) (cs' := #[.int .i64 0, .int .i64 0, .string ⟨#[]⟩])
      refine ret_val w.heap.size Vl.zero rfl rfl (h9.at_ 0 rfl) rfl ?_
      exact ⟨by rw [HR2.out]; rfl, h9.below⟩
  · by_cases hend : j + 1 = l.length
    · have hr4 : r = (Vl.zero, 0, 41) := by
        rw [hr3]
        simp only [show ((1 : Nat) : Int) = 1 from rfl, if_neg (show ¬ (1 : Int) = 0 by decide), ite_true]
        rw [if_pos (show (j : Int) + 1 = (l.length : Int) by omega)]
        rfl
      have HR2 := Lib.hid hr4
      have e1 : ((j : Int) + 1 == (l.length : Int)) = true := by simp; omega
      clear hr4 hr3
      go_wp2_with fail
      refine ret_val w.heap.size Vl.zero rfl rfl (heap_alloc_new _ _) rfl ?_
      exact ⟨by rw [HR2.out]; rfl, (Below.refl _ _).alloc (Nat.le_refl _) _⟩
    · obtain ⟨b', off', e, hx2⟩ := bytes_cell HV.out (j + 1) (by omega)
      cases e
      have hyd : (l.getD (Int.toNat (j : Int) + 1) 0) = l[j + 1]'(by omega) := by rw [Int.toNat_natCast, List.getD_eq_getElem?_getD, List.getElem?_eq_getElem (by omega)]; rfl
      obtain ⟨zk, hzk⟩ : ∃ zk, (l[j + 1]'(by omega)).toNat = zk := ⟨_, rfl⟩
      have hz8 := (l[j + 1]'(by omega)).toNat_lt
      rw [hzk] at hx2 hz8
      simp only [hyd, hzk] at hr3
      simp only [show ((1 : Nat) : Int) = 1 from rfl, if_neg (show ¬ (1 : Int) = 0 by decide), ite_true] at hr3
      rw [if_neg (show ¬ (j : Int) + 1 = (l.length : Int) by omega)] at hr3
      have hx3 : ∀ o, (w.alloc o).cell? ⟨b, off + (j + 1), none⟩ = some (.int .u8 (zk : Int)) := fun o => (((Below.refl _ _).alloc (Nat.le_refl _) o).cell (cell_block_lt hx2)).trans hx2
      clear hx2 hyd hzk
      have e1 : ((j : Int) + 1 == (l.length : Int)) = false := by simp; omega
      have e2 : (j : Int) + 1 < (l.length : Int) := by omega
      have e3 : ((j : Int) + 1).toNat = j + 1 := by omega
      by_cases hz : 1 < zk
      · rw [if_pos hz] at hr3
        have hr4 : r = (Vl.zero, 0, 3) := by rw [hr3]; rfl
        have HR2 := Lib.hid hr4
        have hzi : (1 : Int) < (zk : Int) := by omega
        clear hr4 hr3
        go_wp2_with fail
        refine ret_val w.heap.size Vl.zero rfl rfl (heap_alloc_new _ _) rfl ?_
        exact ⟨by rw [HR2.out]; rfl, (Below.refl _ _).alloc (Nat.le_refl _) _⟩
      · rw [if_neg hz] at hr3
        have HQ := Lib.hid hr3
        have hzi : ¬ (1 : Int) < (zk : Int) := by omega
        clear hr3
        have h4 := HS.out 1 (zk : Int) ⟨#[]⟩
        go_wp2_with fail
        obtain ⟨c, hc⟩ : ∃ c, (⟨1, (zk : Int), ⟨#[]⟩⟩ : Vl).check = c := ⟨_, rfl⟩
        have hk := fun w => valCheck_any w ⟨1, (zk : Int), ⟨#[]⟩⟩
        rw [hc] at hk
        simp only [Vl.val] at hk
        refine (Calls.sV h4 (hk _)).mono ?_
        rintro e w5 ⟨rfl, h5⟩
        clear hk
        have hq := HQ.out
        unfold checked at hq
        rw [if_pos rfl] at hq
        simp only [hc] at hq
        obtain ⟨c0, c1, c2⟩ := cells3 (h5.at_ 0 rfl)
        by_cases hc0 : c = 0
        · subst hc0
          rw [if_pos rfl] at hq
          have HR2 := Lib.hid hq
          clear hq hc
          go_wp2_with (refine wpList_store_row rfl 57 (.tmp 4) (.tmp 80) rfl _ #[.int .i64 (1), .int .i64 ((zk : Int)), .string ⟨#[]⟩] rfl rfl 57 _ (h5.at_ 0 rfl) val_info rfl (one3 _ _ _) ?_)
          have h9 := h5.setRow (os1 := []) (cs' := #[.int .i64 (1), .int .i64 ((zk : Int)), .string ⟨#[]⟩])
          refine ret_val w.heap.size ⟨1, (zk : Int), ⟨#[]⟩⟩ rfl rfl (h9.at_ 0 rfl) rfl ?_
          exact ⟨by rw [HR2.out]; rfl, h9.below⟩
        · rw [if_neg hc0] at hq
          have n1 := bne_of hc0
          have HR2 := Lib.hid hq
          clear hq hc
          go_wp2_with (refine wpList_store_row rfl 57 (.tmp 4) (.tmp 78) rfl _ #[.int .i64 0, .int .i64 0, .string ⟨#[]⟩] rfl rfl 57 _ (h5.at_ 0 rfl) val_info rfl (one3 _ _ _) ?_)
          have h9 := h5.setRow (os1 := []) (cs' := #[.int .i64 0, .int .i64 0, .string ⟨#[]⟩])
          refine ret_val w.heap.size Vl.zero rfl rfl (h9.at_ 0 rfl) rfl ?_
          exact ⟨by rw [HR2.out]; rfl, h9.below⟩
  · obtain ⟨n, x, c0, hri⟩ : ∃ n x c, Wire.readI l ((j : Int) + 1) = (n, x, c) := ⟨_, _, _, rfl⟩
    have hr4 : r = checked (⟨2, n, ⟨#[]⟩⟩, x, c0) := by rw [hr3]; simp [hri]
    have HQ0 := Lib.hid hr4
    clear hr4 hr3
    have h4 := HS.out 2 0 ⟨#[]⟩
    go_wp2_with fail
    refine (Calls.sV h4 (readInt_any _ _ l _ (h4.is 0 rfl))).mono ?_
    rintro e w6 ⟨rfl, h6⟩
    rw [hri]
    clear hri h4
    obtain ⟨c0', c1, c2⟩ := cells3 (h6.at_ 0 rfl)
    have f1 : w6.frozen? ⟨w.heap.size, 1, none⟩ = false := frozen_of_row _ _ _ _ _ (h6.at_ 0 rfl)
    have h7 := h6.setCell (os1 := []) (i := 1) (v := .int .i64 n)
    by_cases hc0 : c0 = 0
    · subst hc0
      have HQ := HQ0
      obtain ⟨d0, d1, d2⟩ := cells3 (h7.at_ 0 rfl)
      go_wp2_with fail
      obtain ⟨c, hc⟩ : ∃ c, (⟨2, n, ⟨#[]⟩⟩ : Vl).check = c := ⟨_, rfl⟩
      have hk := fun w => valCheck_any w ⟨2, n, ⟨#[]⟩⟩
      rw [hc] at hk
      simp only [Vl.val] at hk
      refine (Calls.sV h7 (hk _)).mono ?_
      rintro e w5 ⟨rfl, h5⟩
      clear hk
      have hq := HQ.out
      unfold checked at hq
      rw [if_pos rfl] at hq
      simp only [hc] at hq
      obtain ⟨c0, c1, c2⟩ := cells3 (h5.at_ 0 rfl)
      by_cases hc0 : c = 0
      · subst hc0
        rw [if_pos rfl] at hq
        have HR2 := Lib.hid hq
        clear hq hc
        go_wp2_with (refine wpList_store_row rfl 57 (.tmp 4) (.tmp 80) rfl _ #[.int .i64 (2), .int .i64 (n), .string ⟨#[]⟩] rfl rfl 57 _ (h5.at_ 0 rfl) val_info rfl (one3 _ _ _) ?_)
        have h9 := h5.setRow (os1 := []) (cs' := #[.int .i64 (2), .int .i64 (n), .string ⟨#[]⟩])
        refine ret_val w.heap.size ⟨2, n, ⟨#[]⟩⟩ rfl rfl (h9.at_ 0 rfl) rfl ?_
        exact ⟨by rw [HR2.out]; rfl, h9.below⟩
      · rw [if_neg hc0] at hq
        have n1 := bne_of hc0
        have HR2 := Lib.hid hq
        clear hq hc
        go_wp2_with (refine wpList_store_row rfl 57 (.tmp 4) (.tmp 78) rfl _ #[.int .i64 0, .int .i64 0, .string ⟨#[]⟩] rfl rfl 57 _ (h5.at_ 0 rfl) val_info rfl (one3 _ _ _) ?_)
        have h9 := h5.setRow (os1 := []) (cs' := #[.int .i64 0, .int .i64 0, .string ⟨#[]⟩])
        refine ret_val w.heap.size Vl.zero rfl rfl (h9.at_ 0 rfl) rfl ?_
        exact ⟨by rw [HR2.out]; rfl, h9.below⟩
    · have n1 := bne_of hc0
      have n2 := beq_of hc0
      have hr5 : r = (Vl.zero, 0, c0) := by rw [HQ0.out]; unfold checked; rw [if_neg hc0]
      have HR2 := Lib.hid hr5
      clear hr5
      go_wp2_with (refine wpList_store_row rfl 57 (.tmp 4) (.tmp 78) rfl _ #[.int .i64 0, .int .i64 0, .string ⟨#[]⟩] rfl rfl 57 _ (h7.at_ 0 rfl) val_info rfl (one3 _ _ _) ?_)
      have h9 := h7.setRow (os1 := []) (cs' := #[.int .i64 0, .int .i64 0, .string ⟨#[]⟩])
      refine ret_val w.heap.size Vl.zero rfl rfl (h9.at_ 0 rfl) rfl ?_
      exact ⟨by rw [HR2.out]; rfl, h9.below⟩
  · obtain ⟨n, x, c0, hri⟩ : ∃ n x c, Wire.readI l ((j : Int) + 1) = (n, x, c) := ⟨_, _, _, rfl⟩
    have hr4 : r = checked (⟨3, n, ⟨#[]⟩⟩, x, c0) := by rw [hr3]; simp [hri]
    have HQ0 := Lib.hid hr4
    clear hr4 hr3
    have h4 := HS.out 3 0 ⟨#[]⟩
    go_wp2_with fail
    refine (Calls.sV h4 (readInt_any _ _ l _ (h4.is 0 rfl))).mono ?_
    rintro e w6 ⟨rfl, h6⟩
    rw [hri]
    clear hri h4
    obtain ⟨c0', c1, c2⟩ := cells3 (h6.at_ 0 rfl)
    have f1 : w6.frozen? ⟨w.heap.size, 1, none⟩ = false := frozen_of_row _ _ _ _ _ (h6.at_ 0 rfl)
    have h7 := h6.setCell (os1 := []) (i := 1) (v := .int .i64 n)
    by_cases hc0 : c0 = 0
    · subst hc0
      have HQ := HQ0
      obtain ⟨d0, d1, d2⟩ := cells3 (h7.at_ 0 rfl)
      go_wp2_with fail
      obtain ⟨c, hc⟩ : ∃ c, (⟨3, n, ⟨#[]⟩⟩ : Vl).check = c := ⟨_, rfl⟩
      have hk := fun w => valCheck_any w ⟨3, n, ⟨#[]⟩⟩
      rw [hc] at hk
      simp only [Vl.val] at hk
      refine (Calls.sV h7 (hk _)).mono ?_
      rintro e w5 ⟨rfl, h5⟩
      clear hk
      have hq := HQ.out
      unfold checked at hq
      rw [if_pos rfl] at hq
      simp only [hc] at hq
      obtain ⟨c0, c1, c2⟩ := cells3 (h5.at_ 0 rfl)
      by_cases hc0 : c = 0
      · subst hc0
        rw [if_pos rfl] at hq
        have HR2 := Lib.hid hq
        clear hq hc
        go_wp2_with (refine wpList_store_row rfl 57 (.tmp 4) (.tmp 80) rfl _ #[.int .i64 (3), .int .i64 (n), .string ⟨#[]⟩] rfl rfl 57 _ (h5.at_ 0 rfl) val_info rfl (one3 _ _ _) ?_)
        have h9 := h5.setRow (os1 := []) (cs' := #[.int .i64 (3), .int .i64 (n), .string ⟨#[]⟩])
        refine ret_val w.heap.size ⟨3, n, ⟨#[]⟩⟩ rfl rfl (h9.at_ 0 rfl) rfl ?_
        exact ⟨by rw [HR2.out]; rfl, h9.below⟩
      · rw [if_neg hc0] at hq
        have n1 := bne_of hc0
        have HR2 := Lib.hid hq
        clear hq hc
        go_wp2_with (refine wpList_store_row rfl 57 (.tmp 4) (.tmp 78) rfl _ #[.int .i64 0, .int .i64 0, .string ⟨#[]⟩] rfl rfl 57 _ (h5.at_ 0 rfl) val_info rfl (one3 _ _ _) ?_)
        have h9 := h5.setRow (os1 := []) (cs' := #[.int .i64 0, .int .i64 0, .string ⟨#[]⟩])
        refine ret_val w.heap.size Vl.zero rfl rfl (h9.at_ 0 rfl) rfl ?_
        exact ⟨by rw [HR2.out]; rfl, h9.below⟩
    · have n1 := bne_of hc0
      have n2 := beq_of hc0
      have hr5 : r = (Vl.zero, 0, c0) := by rw [HQ0.out]; unfold checked; rw [if_neg hc0]
      have HR2 := Lib.hid hr5
      clear hr5
      go_wp2_with (refine wpList_store_row rfl 57 (.tmp 4) (.tmp 78) rfl _ #[.int .i64 0, .int .i64 0, .string ⟨#[]⟩] rfl rfl 57 _ (h7.at_ 0 rfl) val_info rfl (one3 _ _ _) ?_)
      have h9 := h7.setRow (os1 := []) (cs' := #[.int .i64 0, .int .i64 0, .string ⟨#[]⟩])
      refine ret_val w.heap.size Vl.zero rfl rfl (h9.at_ 0 rfl) rfl ?_
      exact ⟨by rw [HR2.out]; rfl, h9.below⟩
  · obtain ⟨t, x, c0, hri⟩ : ∃ n x c, Wire.readT l ((j : Int) + 1) = (n, x, c) := ⟨_, _, _, rfl⟩
    obtain ⟨st, hst⟩ : ∃ st : ByteArray, ⟨t.toArray⟩ = st := ⟨_, rfl⟩
    have hr4 : r = checked (⟨4, 0, st⟩, x, c0) := by rw [hr3]; simp [hri, hst]
    have HQ0 := Lib.hid hr4
    clear hr4 hr3
    have h4 := HS.out 4 0 ⟨#[]⟩
    go_wp2_with fail
    refine (Calls.sV h4 (readText_any _ _ l _ (h4.is 0 rfl))).mono ?_
    rintro e w6 ⟨rfl, h6⟩
    rw [hri]
    simp only [hst]
    clear hri h4 hst
    obtain ⟨c0', c1, c2⟩ := cells3 (h6.at_ 0 rfl)
    have f2 : w6.frozen? ⟨w.heap.size, 2, none⟩ = false := frozen_of_row _ _ _ _ _ (h6.at_ 0 rfl)
    have h7 := h6.setCell (os1 := []) (i := 2) (v := .string st)
    by_cases hc0 : c0 = 0
    · subst hc0
      have HQ := HQ0
      obtain ⟨d0, d1, d2⟩ := cells3 (h7.at_ 0 rfl)
      go_wp2_with fail
      obtain ⟨c, hc⟩ : ∃ c, (⟨4, 0, st⟩ : Vl).check = c := ⟨_, rfl⟩
      have hk := fun w => valCheck_any w ⟨4, 0, st⟩
      rw [hc] at hk
      simp only [Vl.val] at hk
      refine (Calls.sV h7 (hk _)).mono ?_
      rintro e w5 ⟨rfl, h5⟩
      clear hk
      have hq := HQ.out
      unfold checked at hq
      rw [if_pos rfl] at hq
      simp only [hc] at hq
      obtain ⟨c0, c1, c2⟩ := cells3 (h5.at_ 0 rfl)
      by_cases hc0 : c = 0
      · subst hc0
        rw [if_pos rfl] at hq
        have HR2 := Lib.hid hq
        clear hq hc
        go_wp2_with (refine wpList_store_row rfl 57 (.tmp 4) (.tmp 80) rfl _ #[.int .i64 (4), .int .i64 (0), .string st] rfl rfl 57 _ (h5.at_ 0 rfl) val_info rfl (one3 _ _ _) ?_)
        have h9 := h5.setRow (os1 := []) (cs' := #[.int .i64 (4), .int .i64 (0), .string st])
        refine ret_val w.heap.size ⟨4, 0, st⟩ rfl rfl (h9.at_ 0 rfl) rfl ?_
        exact ⟨by rw [HR2.out]; rfl, h9.below⟩
      · rw [if_neg hc0] at hq
        have n1 := bne_of hc0
        have HR2 := Lib.hid hq
        clear hq hc
        go_wp2_with (refine wpList_store_row rfl 57 (.tmp 4) (.tmp 78) rfl _ #[.int .i64 0, .int .i64 0, .string ⟨#[]⟩] rfl rfl 57 _ (h5.at_ 0 rfl) val_info rfl (one3 _ _ _) ?_)
        have h9 := h5.setRow (os1 := []) (cs' := #[.int .i64 0, .int .i64 0, .string ⟨#[]⟩])
        refine ret_val w.heap.size Vl.zero rfl rfl (h9.at_ 0 rfl) rfl ?_
        exact ⟨by rw [HR2.out]; rfl, h9.below⟩
    · have n1 := bne_of hc0
      have n2 := beq_of hc0
      have hr5 : r = (Vl.zero, 0, c0) := by rw [HQ0.out]; unfold checked; rw [if_neg hc0]
      have HR2 := Lib.hid hr5
      clear hr5
      go_wp2_with (refine wpList_store_row rfl 57 (.tmp 4) (.tmp 78) rfl _ #[.int .i64 0, .int .i64 0, .string ⟨#[]⟩] rfl rfl 57 _ (h7.at_ 0 rfl) val_info rfl (one3 _ _ _) ?_)
      have h9 := h7.setRow (os1 := []) (cs' := #[.int .i64 0, .int .i64 0, .string ⟨#[]⟩])
      refine ret_val w.heap.size Vl.zero rfl rfl (h9.at_ 0 rfl) rfl ?_
      exact ⟨by rw [HR2.out]; rfl, h9.below⟩
  · obtain ⟨t, x, c0, hri⟩ : ∃ n x c, Wire.readT l ((j : Int) + 1) = (n, x, c) := ⟨_, _, _, rfl⟩
    obtain ⟨st, hst⟩ : ∃ st : ByteArray, ⟨t.toArray⟩ = st := ⟨_, rfl⟩
    have hr4 : r = checked (⟨5, 0, st⟩, x, c0) := by rw [hr3]; simp [hri, hst]
    have HQ0 := Lib.hid hr4
    clear hr4 hr3
    have h4 := HS.out 5 0 ⟨#[]⟩
    go_wp2_with fail
    refine (Calls.sV h4 (readText_any _ _ l _ (h4.is 0 rfl))).mono ?_
    rintro e w6 ⟨rfl, h6⟩
    rw [hri]
    simp only [hst]
    clear hri h4 hst
    obtain ⟨c0', c1, c2⟩ := cells3 (h6.at_ 0 rfl)
    have f2 : w6.frozen? ⟨w.heap.size, 2, none⟩ = false := frozen_of_row _ _ _ _ _ (h6.at_ 0 rfl)
    have h7 := h6.setCell (os1 := []) (i := 2) (v := .string st)
    by_cases hc0 : c0 = 0
    · subst hc0
      have HQ := HQ0
      obtain ⟨d0, d1, d2⟩ := cells3 (h7.at_ 0 rfl)
      go_wp2_with fail
      obtain ⟨c, hc⟩ : ∃ c, (⟨5, 0, st⟩ : Vl).check = c := ⟨_, rfl⟩
      have hk := fun w => valCheck_any w ⟨5, 0, st⟩
      rw [hc] at hk
      simp only [Vl.val] at hk
      refine (Calls.sV h7 (hk _)).mono ?_
      rintro e w5 ⟨rfl, h5⟩
      clear hk
      have hq := HQ.out
      unfold checked at hq
      rw [if_pos rfl] at hq
      simp only [hc] at hq
      obtain ⟨c0, c1, c2⟩ := cells3 (h5.at_ 0 rfl)
      by_cases hc0 : c = 0
      · subst hc0
        rw [if_pos rfl] at hq
        have HR2 := Lib.hid hq
        clear hq hc
        go_wp2_with (refine wpList_store_row rfl 57 (.tmp 4) (.tmp 80) rfl _ #[.int .i64 (5), .int .i64 (0), .string st] rfl rfl 57 _ (h5.at_ 0 rfl) val_info rfl (one3 _ _ _) ?_)
        have h9 := h5.setRow (os1 := []) (cs' := #[.int .i64 (5), .int .i64 (0), .string st])
        refine ret_val w.heap.size ⟨5, 0, st⟩ rfl rfl (h9.at_ 0 rfl) rfl ?_
        exact ⟨by rw [HR2.out]; rfl, h9.below⟩
      · rw [if_neg hc0] at hq
        have n1 := bne_of hc0
        have HR2 := Lib.hid hq
        clear hq hc
        go_wp2_with (refine wpList_store_row rfl 57 (.tmp 4) (.tmp 78) rfl _ #[.int .i64 0, .int .i64 0, .string ⟨#[]⟩] rfl rfl 57 _ (h5.at_ 0 rfl) val_info rfl (one3 _ _ _) ?_)
        have h9 := h5.setRow (os1 := []) (cs' := #[.int .i64 0, .int .i64 0, .string ⟨#[]⟩])
        refine ret_val w.heap.size Vl.zero rfl rfl (h9.at_ 0 rfl) rfl ?_
        exact ⟨by rw [HR2.out]; rfl, h9.below⟩
    · have n1 := bne_of hc0
      have n2 := beq_of hc0
      have hr5 : r = (Vl.zero, 0, c0) := by rw [HQ0.out]; unfold checked; rw [if_neg hc0]
      have HR2 := Lib.hid hr5
      clear hr5
      go_wp2_with (refine wpList_store_row rfl 57 (.tmp 4) (.tmp 78) rfl _ #[.int .i64 0, .int .i64 0, .string ⟨#[]⟩] rfl rfl 57 _ (h7.at_ 0 rfl) val_info rfl (one3 _ _ _) ?_)
      have h9 := h7.setRow (os1 := []) (cs' := #[.int .i64 0, .int .i64 0, .string ⟨#[]⟩])
      refine ret_val w.heap.size Vl.zero rfl rfl (h9.at_ 0 rfl) rfl ?_
      exact ⟨by rw [HR2.out]; rfl, h9.below⟩
  · have g0 : ¬ (yk : Int) = 0 := by omega
    have g1 : ¬ (yk : Int) = 1 := by omega
    have g2 : ¬ (yk : Int) = 2 := by omega
    have g3 : ¬ (yk : Int) = 3 := by omega
    have g4 : ¬ (yk : Int) = 4 := by omega
    have g5 : ¬ (yk : Int) = 5 := by omega
    have hr4 : r = (Vl.zero, 0, 3) := by
      rw [hr3, if_neg g0, if_neg g1, if_neg (by omega), if_neg (by omega)]
      rfl
    have HR2 := Lib.hid hr4
    have b0 := beq_of g0
    have b1 := beq_of g1
    have b2 := beq_of g2
    have b3 := beq_of g3
    have b4 := beq_of g4
    have b5 := beq_of g5
    clear hr4 hr3 g0 g1 g2 g3 g4 g5
    go_wp2_with fail
    refine ret_val w.heap.size Vl.zero rfl rfl (heap_alloc_new _ _) rfl ?_
    exact ⟨by rw [HR2.out]; rfl, (Below.refl _ _).alloc (Nat.le_refl _) _⟩
end Go.Proofs.Ytfpkibfofainaaa
