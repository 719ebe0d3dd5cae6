/- The walks over the examples' makers of chapter 13: orders, assert. -/
import Derived.Test.YtfpkibfofainaaaZSame
import Derived.Test.YtfpkibfofainaaaZGB
set_option linter.unusedVariables false
namespace Go.Proofs.Ytfpkibfofainaaa
open Go.RowKit

theorem isRow_lit {sz n : Nat} {W : World} {g : Nat} {cs : Array Value} {t : TypeId} (h : W.heap[g]? = some (.cells cs t (0, 0))) (hs : cs.size = n * sz) (hn : n ≤ maxLen) : IsRow sz W (.slice (some ⟨g, 0, none⟩) n n) n cs.toList :=
  ownsRow_isRow (base := 0) (e := t) ⟨by simpa using hs, .inr ⟨g, n, cs, rfl, Nat.zero_le _, h, Nat.le_refl _, hn, hs, by rw [← hs, List.take_of_length_le (by simp)]⟩⟩
abbrev bstr (l : List UInt8) : ByteArray := ⟨l.toArray⟩
def sOrders : ByteArray := ⟨#[111, 114, 100, 101, 114, 115]⟩
def exTb : Tb := ⟨sOrders, ⟨#[117, 115, 101, 114]⟩, [⟨⟨#[97, 109, 111, 117, 110, 116]⟩, 2, ⟨#[]⟩⟩, ⟨⟨#[115, 104, 111, 112]⟩, 5, ⟨#[115, 104, 111, 112]⟩⟩], 0⟩
theorem cat_info : (Try.prog.info? 45).map (·.size) = some 4 := by kernel_rfl
theorem fact_info : (Try.prog.info? 27).map (·.size) = some 8 := by kernel_rfl

set_option maxRecDepth 8000 in
set_option maxHeartbeats 1000000 in
theorem orders_any (w : World) : Calls Try.prog 34 #[] w fun e w' => ∃ b q, e = .returned (.agg #[.slice b 1 q, .slice none 0 0, .slice none 0 0, .slice none 0 0]) ∧ IsTbs w' (.slice b 1 q) [exTb] ∧ Below w.heap.size w w' := by
  go_enter Try.func34, Try.ntmps34
  go_wp2_with fail
  have h := ((((St.start w).alloc (.cells #[.slice (some ⟨w.heap.size + 1 + 1 + 1, 0, none⟩) 1 1, .slice none 0 0, .slice none 0 0, .slice none 0 0] 45)).alloc
    (.cells #[.string ⟨#[97, 109, 111, 117, 110, 116]⟩, .int .i64 2, .slice none 0 0, .string ⟨#[]⟩, .string ⟨#[115, 104, 111, 112]⟩, .int .i64 5, .slice none 0 0, .string ⟨#[115, 104, 111, 112]⟩] 62)).alloc
    (.cells #[.string ⟨#[111, 114, 100, 101, 114, 115]⟩, .string ⟨#[117, 115, 101, 114]⟩, .slice (some ⟨w.heap.size + 1, 0, none⟩) 2 2, .int .i64 0] 51)).alloc
    (.cells #[.string ⟨#[111, 114, 100, 101, 114, 115]⟩, .string ⟨#[117, 115, 101, 114]⟩, .slice (some ⟨w.heap.size + 1, 0, none⟩) 2 2, .int .i64 0] 51)
  simp only [al_size] at h
  refine bodyPost_ret (results_cell0 rfl _ _ w.heap.size 45 #[.slice (some ⟨w.heap.size + 1 + 1 + 1, 0, none⟩) 1 1, .slice none 0 0, .slice none 0 0, .slice none 0 0] (0, 0) _ rfl (h.at_ 3 rfl) Try.underlying45 rfl cat_info) rfl ⟨_, _, rfl, ?_, h.below⟩
  have r1 := isRow_lit (sz := 4) (n := 1) (h.at_ 0 rfl) rfl (by unfold maxLen; omega)
  have r2 := isRow_lit (sz := 4) (n := 2) (h.at_ 2 rfl) rfl (by unfold maxLen; omega)
  refine ⟨_, r1, fun i hi => ?_⟩
  obtain rfl : i = 0 := by simp at hi; omega
  refine ⟨_, _, rfl, _, r2, fun j hj => ?_⟩
  match j, hj with
  | 0, _ => exact ⟨_, rfl, rfl⟩
  | 1, _ => exact ⟨_, rfl, rfl⟩

set_option maxRecDepth 8000 in
set_option maxHeartbeats 1000000 in
theorem assert_any (w : World) (seq : Int) (table : ByteArray) (b : Option Addr) (n q : Nat) : Calls Try.prog 35 #[.int .i64 seq, .string table, .slice b n q] w fun e w' => e = .returned ((⟨⟨#[97, 112, 112]⟩, seq, 1, 0, table, ⟨#[117, 49]⟩, 5, []⟩ : Fc).val (.slice b n q)) ∧ Below w.heap.size w w' := by
  go_enter Try.func35, Try.ntmps35
  go_wp2_with fail
  refine bodyPost_ret (results_cell0 rfl _ _ w.heap.size 27 (Fc.cellsA ⟨⟨#[97, 112, 112]⟩, seq, 1, 0, table, ⟨#[117, 49]⟩, 5, []⟩ (.slice b n q)) (0, 0) _ rfl (heap_alloc_new _ _) Try.underlying27 rfl fact_info) rfl ⟨rfl, (Below.refl _ _).alloc (Nat.le_refl _) _⟩
end Go.Proofs.Ytfpkibfofainaaa
