/- The walks over facts.part, at strings, integers, numbers and values: the reader's offset and error lie in blocks of the caller's. -/
import Derived.Test.YtfpkibfofainaaaZValR
import Derived.Test.YtfpkibfofainaaaZFcs
import Derived.Test.YtfpkibfofainaaaZGB
set_option linter.unusedVariables false
set_option linter.unusedSimpArgs false
namespace Go.Proofs.Ytfpkibfofainaaa
open Go.RowKit

/-- A part is read, unless there was an error: what is read, the offset, the error. -/
def stT (l : List UInt8) (s : Int × Int) : List UInt8 × Int × Int := if s.2 = 0 then Wire.readT l s.1 else ([], s.1, s.2)
def stI (l : List UInt8) (s : Int × Int) : Int × Int × Int := if s.2 = 0 then Wire.readI l s.1 else (0, s.1, s.2)
def stU (l : List UInt8) (s : Int × Int) : Nat × Int × Int := if s.2 = 0 then Wire.readU l s.1 else (0, s.1, s.2)
def stV (l : List UInt8) (s : Int × Int) : Vl × Int × Int := if s.2 = 0 then readV l s.1 else (Vl.zero, s.1, s.2)

section
variable {w0 W : World} {gf ga ge : Nat} {F : Obj} {at_ c : Int} {fs : List (World → Prop)}
abbrev os3 (gf ga ge : Nat) (F : Obj) (a c : Int) : List (Nat × Obj) := [(gf, F), (ga, intO a), (ge, errO c)]
theorem St.set2 (h : St w0 W (os3 gf ga ge F at_ c) fs) (a' c' : Int) : St w0 ((W.setCell ⟨ga, 0, none⟩ (.int .i64 a')).setCell ⟨ge, 0, none⟩ (.int .i64 c')) (os3 gf ga ge F a' c') fs :=
  (h.setCell (os1 := [(gf, F)]) (i := 0) (v := .int .i64 a')).setCell (os1 := [(gf, F), (ga, intO a')]) (i := 0) (v := .int .i64 c')

set_option maxRecDepth 8000 in
set_option maxHeartbeats 1000000 in
theorem partT_s (h : St w0 W (os3 gf ga ge F at_ c) fs) (bv : Value) (l : List UInt8) (hb : IsBytes W bv l) :
    Calls Try.prog 41 #[bv, .pointer (some ⟨ga, 0, none⟩), .pointer (some ⟨ge, 0, none⟩), .func (.func 42) #[] #[]] W fun e w' => e = .returned (.string ⟨(stT l (at_, c)).1.toArray⟩) ∧ St w0 w' (os3 gf ga ge F (stT l (at_, c)).2.1 (stT l (at_, c)).2.2) fs := by
  obtain ⟨x, a', c', hr⟩ : ∃ x a' c', stT l (at_, c) = (x, a', c') := ⟨_, _, _, rfl⟩
  rw [hr]
  have HR := Lib.hid hr
  clear hr
  obtain ⟨p1, p2⟩ := one_cell (h.at_ 1 rfl : W.heap[ga]? = _)
  obtain ⟨q1, q2⟩ := one_cell (h.at_ 2 rfl : W.heap[ge]? = _)
  go_enter Try.func41, Try.ntmps41
  by_cases hc : c = 0
  · subst hc
    have hr : Wire.readT l at_ = (x, a', c') := by rw [← HR.out]; unfold stT; rw [if_pos rfl]
    go_wp2_with fail
    refine (Calls.sV h (readText_any _ _ l at_ hb)).mono ?_
    rintro e w1 ⟨rfl, h1⟩
    rw [hr]
    clear hr p1 p2 q1 q2
    obtain ⟨p1, p2⟩ := one_cell (h1.at_ 1 rfl : w1.heap[ga]? = _)
    obtain ⟨q1, q2⟩ := one_cell (h1.at_ 2 rfl : w1.heap[ge]? = _)
    have h2 := h1.set2 a' c'
    have hne : ge ≠ ga := by
      have := h1.nodup
      simp only [keys, os3, List.map_cons, List.map_nil, List.nodup_cons, List.mem_cons, List.not_mem_nil, or_false, not_or] at this
      exact fun e => this.2.1 e.symm
    go_wp2_with fail
    go_ret
    exact ⟨rfl, h2⟩
  · have hr := HR.out
    unfold stT at hr
    rw [if_neg hc] at hr
    have n1 := beq_of hc
    cases hr
    go_wp2_with fail
    go_ret
    exact ⟨rfl, h⟩

set_option maxRecDepth 8000 in
set_option maxHeartbeats 1000000 in
theorem partI_s (h : St w0 W (os3 gf ga ge F at_ c) fs) (bv : Value) (l : List UInt8) (hb : IsBytes W bv l) :
    Calls Try.prog 43 #[bv, .pointer (some ⟨ga, 0, none⟩), .pointer (some ⟨ge, 0, none⟩), .func (.func 44) #[] #[]] W fun e w' => e = .returned (.int .i64 (stI l (at_, c)).1) ∧ St w0 w' (os3 gf ga ge F (stI l (at_, c)).2.1 (stI l (at_, c)).2.2) fs := by
  obtain ⟨x, a', c', hr⟩ : ∃ x a' c', stI l (at_, c) = (x, a', c') := ⟨_, _, _, rfl⟩
  rw [hr]
  have HR := Lib.hid hr
  clear hr
  obtain ⟨p1, p2⟩ := one_cell (h.at_ 1 rfl : W.heap[ga]? = _)
  obtain ⟨q1, q2⟩ := one_cell (h.at_ 2 rfl : W.heap[ge]? = _)
  go_enter Try.func43, Try.ntmps43
  by_cases hc : c = 0
  · subst hc
    have hr : Wire.readI l at_ = (x, a', c') := by rw [← HR.out]; unfold stI; rw [if_pos rfl]
    go_wp2_with fail
    refine (Calls.sV h (readInt_any _ _ l at_ hb)).mono ?_
    rintro e w1 ⟨rfl, h1⟩
    rw [hr]
    clear hr p1 p2 q1 q2
    obtain ⟨p1, p2⟩ := one_cell (h1.at_ 1 rfl : w1.heap[ga]? = _)
    obtain ⟨q1, q2⟩ := one_cell (h1.at_ 2 rfl : w1.heap[ge]? = _)
    have h2 := h1.set2 a' c'
    have hne : ge ≠ ga := by
      have := h1.nodup
      simp only [keys, os3, List.map_cons, List.map_nil, List.nodup_cons, List.mem_cons, List.not_mem_nil, or_false, not_or] at this
      exact fun e => this.2.1 e.symm
    go_wp2_with fail
    go_ret
    exact ⟨rfl, h2⟩
  · have hr := HR.out
    unfold stI at hr
    rw [if_neg hc] at hr
    have n1 := beq_of hc
    cases hr
    go_wp2_with fail
    go_ret
    exact ⟨rfl, h⟩

set_option maxRecDepth 8000 in
set_option maxHeartbeats 1000000 in
theorem partU_s (h : St w0 W (os3 gf ga ge F at_ c) fs) (bv : Value) (l : List UInt8) (hb : IsBytes W bv l) :
    Calls Try.prog 45 #[bv, .pointer (some ⟨ga, 0, none⟩), .pointer (some ⟨ge, 0, none⟩), .func (.func 19) #[] #[]] W fun e w' => e = .returned (.int .u64 (stU l (at_, c)).1) ∧ St w0 w' (os3 gf ga ge F (stU l (at_, c)).2.1 (stU l (at_, c)).2.2) fs := by
  obtain ⟨x, a', c', hr⟩ : ∃ x a' c', stU l (at_, c) = (x, a', c') := ⟨_, _, _, rfl⟩
  rw [hr]
  have HR := Lib.hid hr
  clear hr
  obtain ⟨p1, p2⟩ := one_cell (h.at_ 1 rfl : W.heap[ga]? = _)
  obtain ⟨q1, q2⟩ := one_cell (h.at_ 2 rfl : W.heap[ge]? = _)
  go_enter Try.func45, Try.ntmps45
  by_cases hc : c = 0
  · subst hc
    have hr : Wire.readU l at_ = (x, a', c') := by rw [← HR.out]; unfold stU; rw [if_pos rfl]
    go_wp2_with fail
    refine (Calls.sV h (readUint_any _ _ l at_ hb)).mono ?_
    rintro e w1 ⟨rfl, h1⟩
    rw [hr]
    clear hr p1 p2 q1 q2
    obtain ⟨p1, p2⟩ := one_cell (h1.at_ 1 rfl : w1.heap[ga]? = _)
    obtain ⟨q1, q2⟩ := one_cell (h1.at_ 2 rfl : w1.heap[ge]? = _)
    have h2 := h1.set2 a' c'
    have hne : ge ≠ ga := by
      have := h1.nodup
      simp only [keys, os3, List.map_cons, List.map_nil, List.nodup_cons, List.mem_cons, List.not_mem_nil, or_false, not_or] at this
      exact fun e => this.2.1 e.symm
    go_wp2_with fail
    go_ret
    exact ⟨rfl, h2⟩
  · have hr := HR.out
    unfold stU at hr
    rw [if_neg hc] at hr
    have n1 := beq_of hc
    cases hr
    go_wp2_with fail
    go_ret
    exact ⟨rfl, h⟩

set_option maxRecDepth 8000 in
set_option maxHeartbeats 1000000 in
theorem partV_s {oo : List (Nat × Obj)} (h : St w0 W ((gf, F) :: (ga, intO at_) :: (ge, errO c) :: oo) fs) (bv : Value) (l : List UInt8) (hb : IsBytes W bv l) (hl : l.length ≤ 140737488355328) :
    Calls Try.prog 46 #[bv, .pointer (some ⟨ga, 0, none⟩), .pointer (some ⟨ge, 0, none⟩), .func (.func 47) #[] #[]] W fun e w' => e = .returned ((stV l (at_, c)).1.val) ∧ St w0 w' ((gf, F) :: (ga, intO (stV l (at_, c)).2.1) :: (ge, errO (stV l (at_, c)).2.2) :: oo) fs := by
  obtain ⟨⟨xk, xn, xs⟩, a', c', hr⟩ : ∃ x a' c', stV l (at_, c) = (x, a', c') := ⟨_, _, _, rfl⟩
  rw [hr]
  have HR := Lib.hid hr
  clear hr
  have h0 := h.alloc (.cells #[.int .i64 0, .int .i64 0, .string ⟨#[]⟩] 57)
  obtain ⟨g, hg⟩ : ∃ g, W.heap.size = g := ⟨_, rfl⟩
  rw [hg] at h0
  have hb0 : IsBytes (W.alloc (.cells #[.int .i64 0, .int .i64 0, .string ⟨#[]⟩] 57)) bv l := hb.below ((Below.refl _ _).alloc (Nat.le_refl _) _) rfl
  obtain ⟨p1, p2⟩ := one_cell (h0.at_ 2 rfl : (W.alloc _).heap[ga]? = _)
  obtain ⟨q1, q2⟩ := one_cell (h0.at_ 3 rfl : (W.alloc _).heap[ge]? = _)
  go_enter Try.func46, Try.ntmps46
  by_cases hc : c = 0
  · subst hc
    have hr : readV l at_ = (⟨xk, xn, xs⟩, a', c') := by rw [← HR.out]; unfold stV; rw [if_pos rfl]
    go_wp2_with fail
    refine (Calls.sV h0 (valRead_any _ _ l at_ hb0 hl)).mono ?_
    rintro e w1 ⟨rfl, h1⟩
    rw [hr]
    clear hr p1 p2 q1 q2
    obtain ⟨p1, p2⟩ := one_cell (h1.at_ 2 rfl : w1.heap[ga]? = _)
    obtain ⟨q1, q2⟩ := one_cell (h1.at_ 3 rfl : w1.heap[ge]? = _)
    have hg1 := h1.at_ 0 rfl
    have h2 := h1.setRow (os1 := []) (cs' := #[.int .i64 xk, .int .i64 xn, .string xs])
    have h3 : St w0 ((((World.setRow w1 g #[.int .i64 xk, .int .i64 xn, .string xs]).setCell ⟨ga, 0, none⟩ (.int .i64 a')).setCell ⟨ge, 0, none⟩ (.int .i64 c'))) ((g, .cells #[.int .i64 xk, .int .i64 xn, .string xs] 57) :: (gf, F) :: (ga, intO a') :: (ge, errO c') :: oo) fs :=
      (h2.setCell (os1 := [(g, .cells #[.int .i64 xk, .int .i64 xn, .string xs] 57), (gf, F)]) (i := 0) (v := .int .i64 a')).setCell (os1 := [(g, .cells #[.int .i64 xk, .int .i64 xn, .string xs] 57), (gf, F), (ga, intO a')]) (i := 0) (v := .int .i64 c')
    have h4 := h3.setRow (os1 := []) (cs' := #[.int .i64 xk, .int .i64 xn, .string xs])
    have hg3 := h3.at_ 0 rfl
    obtain ⟨r1, r2⟩ := one_cell (h2.at_ 2 rfl : (World.setRow w1 g _).heap[ga]? = _)
    obtain ⟨t1, t2⟩ := one_cell (h2.at_ 3 rfl : (World.setRow w1 g _).heap[ge]? = _)
    obtain ⟨u1, u2, u3⟩ := cells3 (h2.at_ 0 rfl : (World.setRow w1 g _).heap[g]? = _)
    have hne : ge ≠ ga ∧ ga ≠ g ∧ ge ≠ g := by
      have := h1.nodup
      simp only [keys, List.map_cons, List.nodup_cons, List.mem_cons, not_or] at this
      exact ⟨fun e => this.2.2.1.1 e.symm, fun e => this.1.2.1 e.symm, fun e => this.1.2.2.1 e.symm⟩
    obtain ⟨hne1, hne2, hne3⟩ := hne
    go_wp2_with (
      first
      | (refine wpList_store_row rfl 57 (.tmp 8) (.tmp 22) rfl g #[.int .i64 xk, .int .i64 xn, .string xs] rfl rfl 57 _ hg1 val_info rfl (one3 _ _ _) ?_)
      | (refine wpList_store_row rfl 57 (.tmp 8) (.tmp 27) rfl g #[.int .i64 xk, .int .i64 xn, .string xs] rfl rfl 57 _ hg3 val_info rfl (one3 _ _ _) ?_))
    exact bodyPost_ret (results_cell0 rfl _ _ g 57 #[.int .i64 xk, .int .i64 xn, .string xs] (0, 0) _ rfl (h4.at_ 0 rfl) Try.underlying57 rfl val_info) rfl ⟨rfl, h4.loose (os1 := [])⟩
  · have hr := HR.out
    unfold stV at hr
    rw [if_neg hc] at hr
    have n1 := beq_of hc
    cases hr
    go_wp2_with fail
    exact bodyPost_ret (results_cell0 rfl _ _ g 57 #[.int .i64 0, .int .i64 0, .string ⟨#[]⟩] (0, 0) _ rfl (h0.at_ 0 rfl) Try.underlying57 rfl val_info) rfl ⟨rfl, h0.loose (os1 := [])⟩
end
end Go.Proofs.Ytfpkibfofainaaa
