/- The walk of the law DiskRestarts. -/
import Derived.Test.YtkfikcppnbfmoaaChecked
import Derived.Test.YtkfikcppnbfmoaaExW30
import Derived.Test.YtkfikcppnbfmoaaActs
import Derived.Test.YtkfikcppnbfmoaaTake
import Derived.BigQuiet
namespace Go.Proofs.Ytkfikcppnbfmoaa
open Go.RowKit

/-- The first loop: the disk is written to, whatever comes of it. -/
def RsInv1 (w0 : World) (n g : Nat) (v1 : Value) (one : List ActL) (v2 : Value) (l2 : List ActL) (c : Value) (wr : World) : Prop :=
  ∃ (k : Nat) (D : Dk) (bs : Option Addr) (q : Nat), k ≤ one.length ∧ c = .int .i64 k ∧ D.Ok ∧ D.sec.length = n ∧ St w0 wr [(g, dkB bs q D)] [(IsDk · (dkS bs q D) D), (IsActs · v1 one), (IsActs · v2 l2)]

/-- What stands while the region runs. -/
def RsS (w0 : World) (g : Nat) (bs : Option Addr) (q : Nat) (D : Dk) (v1 : Value) (one : List ActL) (v2 : Value) (l2 : List ActL) (wr : World) : Prop := St w0 wr [(g, dkB bs q D)] [(IsDk · (dkS bs q D) D), (IsActs · v1 one), (IsActs · v2 l2)]
section
variable {w0 wr : World} {g q : Nat} {bs : Option Addr} {D : Dk} {v1 v2 : Value} {one l2 : List ActL}
theorem RsS.cells (h : RsS w0 g bs q D v1 one v2 l2 wr) :
    wr.cell? ⟨g, 0, none⟩ = some (.slice bs D.sec.length q) ∧ wr.cell? ⟨g, 1, none⟩ = some (.int .i64 D.left) ∧ wr.cell? ⟨g, 2, none⟩ = some (.int .i64 D.tear) ∧ wr.cell? ⟨g, 3, none⟩ = some (.bool D.stopped) := by
  obtain ⟨c0, c1, c2, c3, -⟩ := cells4 (St.at_ h 0 rfl)
  exact ⟨c0, c1, c2, c3⟩
theorem RsS.acts {ab ao : Nat} {n q2 : Nat} (h : RsS w0 g bs q D (.slice (some ⟨ab, ao, none⟩) n q2) one v2 l2 wr) (k : Nat) (hk : k < one.length) : wr.cell? ⟨ab, ao + k * 6 + 1, none⟩ = some (.int .i64 (one[k]).at_) ∧ wr.cell? ⟨ab, ao + k * 6 + 2, none⟩ = some (.int .u8 ((one[k]).fill.toNat : Int)) := by
  obtain ⟨_, _, e, _, _, hc⟩ := (St.is h 1 rfl : IsActs _ _ _).out
  cases e
  obtain ⟨_, _, e, -, e1, e2, -⟩ := hc k hk
  cases e
  exact ⟨e1, e2⟩
theorem RsS.st (h : RsS w0 g bs q D v1 one v2 l2 wr) : St w0 wr [(g, dkB bs q D)] [(IsDk · (dkS bs q D) D), (IsActs · v1 one), (IsActs · v2 l2)] := h
theorem St.rs2 {P P' : World → Prop} (h : St w0 wr [(g, dkB bs q D)] [P, P', (IsDk · (dkS bs q D) D), (IsActs · v1 one), (IsActs · v2 l2)]) : RsS w0 g bs q D v1 one v2 l2 wr := h.pop.pop
theorem St.rs {P : World → Prop} (h : St w0 wr [(g, dkB bs q D)] [P, (IsDk · (dkS bs q D) D), (IsActs · v1 one), (IsActs · v2 l2)]) : RsS w0 g bs q D v1 one v2 l2 wr := h.pop
end
/-- The second loop: the restarted disk is compared. -/
def RsInv2 (w0 : World) (n g5 g1 : Nat) (b5 : Option Addr) (q5 : Nat) (X : Dk) (bs : Option Addr) (q : Nat) (D : Dk) (v2 : Value) (l2 : List ActL) (c : Value) (wr : World) : Prop :=
  ∃ j : Nat, j ≤ n ∧ c = .int .i64 j ∧ St w0 wr [(g5, dkB b5 q5 X), (g1, dkB bs q D)] [(IsDk · (dkS b5 q5 X) X), (IsDk · (dkS bs q D) D), (IsActs · v2 l2)]
/-- The third loop: what is written is read. -/
def RsInv3 (w0 : World) (n g5 g1 : Nat) (bs : Option Addr) (q : Nat) (D : Dk) (v3 : Value) (two : List ActL) (c : Value) (wr : World) : Prop :=
  ∃ (k : Nat) (X : Dk) (b : Option Addr) (q5 : Nat), k ≤ two.length ∧ c = .int .i64 k ∧ X.Ok ∧ X.sec.length = n ∧ X.stopped = false ∧ X.left = -1 ∧ St w0 wr [(g5, dkB b q5 X), (g1, dkB bs q D)] [(IsDk · (dkS b q5 X) X), (IsActs · v3 two)]
/-- What a region loads. -/
def RsC (g : Nat) (bs : Option Addr) (q : Nat) (D : Dk) (ab ao k : Nat) (f : UInt8) (w' : World) : Prop := w'.cell? ⟨g, 0, none⟩ = some (.slice bs D.sec.length q) ∧ w'.cell? ⟨g, 1, none⟩ = some (.int .i64 D.left) ∧ w'.cell? ⟨g, 2, none⟩ = some (.int .i64 D.tear) ∧ w'.cell? ⟨g, 3, none⟩ = some (.bool D.stopped) ∧ w'.cell? ⟨ab, ao + k * 6 + 2, none⟩ = some (.int .u8 (f.toNat : Int))
theorem RsC.of {g q ab ao n q2 k : Nat} {bs : Option Addr} {D : Dk} {two : List ActL} {w' : World} (hb : w'.heap[g]? = some (dkB bs q D)) (ha : IsActs w' (.slice (some ⟨ab, ao, none⟩) n q2) two) (hk : k < two.length) : RsC g bs q D ab ao k (two[k]).fill w' := by
  obtain ⟨c0, c1, c2, c3, -⟩ := cells4 hb
  obtain ⟨_, _, e, _, _, hc⟩ := ha.out
  cases e
  obtain ⟨_, _, e, -, e1, e2, -⟩ := hc k hk
  cases e
  exact ⟨c0, c1, c2, c3, e2⟩
/-- A new variable holds what was written. -/
def RsCut3 (w0 : World) (g5 : Nat) (bx : Option Addr) (qx : Nat) (X : Dk) (g1 : Nat) (bs : Option Addr) (q : Nat) (D : Dk) (v3 : Value) (two : List ActL) (Y : Dk) (p c : Value) (wc : World) : Prop :=
  ∃ (g : Nat) (b : Option Addr) (qy : Nat), p = .pointer (some ⟨g, 0, none⟩) ∧ c = .int .i64 0 ∧ St w0 wc [(g, dkB b qy Y), (g5, dkB bx qx X), (g1, dkB bs q D)] [(IsDk · (dkS b qy Y) Y), (IsDk · (dkS bx qx X) X), (IsActs · v3 two)]
/-- What a write leaves. -/
def RsCut (w0 : World) (n g : Nat) (v1 : Value) (one : List ActL) (v2 : Value) (l2 : List ActL) (wr : World) : Prop :=
  ∃ (D : Dk) (bs : Option Addr) (q : Nat), D.Ok ∧ D.sec.length = n ∧ St w0 wr [(g, dkB bs q D)] [(IsDk · (dkS bs q D) D), (IsActs · v1 one), (IsActs · v2 l2)]

set_option maxHeartbeats 16000000 in
set_option maxRecDepth 100000 in
theorem restarts_walk (w : World) (s0 : Int) (v1 : Value) (l1 : List ActL) (hv1 : IsActs w v1 l1) (v2 : Value) (l2 : List ActL) (hv2 : IsActs w v2 l2) :
    Calls Try.prog 7 #[.int .i64 s0, v1, v2] w fun e w' => e = .returned (.bool true) ∧ Below w.heap.size w w' := by
  have h0 := ((St.start w).putOld (Mono.acts v2 l2) hv2).putOld (Mono.acts v1 l1) hv1
  have hn := smallN_le s0
  go_enter Try.func7, Try.ntmps7
  go_wp2_with fail
  refine (small_s h0 s0).mono ?_
  rintro e w0 ⟨rfl, rfl⟩
  generalize smallN s0 = n at hn ⊢
  obtain ⟨hn1, hn8⟩ := hn
  go_wp2_with fail
  refine (new_s h0 n (Dk.made n) 0 (dk_made_ok n hn1 (by omega)).2).mono ?_
  rintro e w1 ⟨b1, q1, rfl, h1⟩
  go_upto_region 3 with (refine wpList_store_row rfl 25 (.tmp 8) (.tmp 27) rfl w1.heap.size (dkA b1 q1 (Dk.made n)) rfl rfl 25 _ (heap_alloc_new _ _) disk_info rfl (one4 rfl _ _ _) ?_)
  replace h1 := h1.newVar #[.slice none 0 0, .int .i64 0, .int .i64 0, .bool false] (dkA b1 q1 (Dk.made n)) 25
  generalize World.setRow _ _ _ = W1 at h1 ⊢
  generalize w1.heap.size = g1 at h1 ⊢
  have hok1 := (dk_made_ok n hn1 (by omega)).1
  have hsl1 : (Dk.made n).sec.length = n := by simp [Dk.made]
  have hst1 : (Dk.made n).stopped = false := rfl
  obtain ⟨D1, hD1⟩ : ∃ D1, Dk.made n = D1 := ⟨_, rfl⟩
  rw [hD1] at h1 hok1 hsl1 hst1 ⊢
  have HX1 := Lib.hid (And.intro hsl1 hst1)
  clear hD1 hsl1 hst1
  go_wp2_with fail
  refine (few_s h1 v1 l1 30 (h1.get 1 rfl)).mono ?_
  rintro e w2 ⟨b2, q2, rfl, h2⟩
  have hone : (l1.take 30).length ≤ 30 := List.length_take_le _ _
  generalize l1.take 30 = one at h2 hone ⊢
  go_wp2_with (refine wpList_load_row rfl 25 (.tmp 8) rfl g1 rfl 25 _ (0, 0) _ (h2.at_ 0 rfl) Try.underlying25 rfl disk_info ?_)
  obtain ⟨D2, hF, hok2, hsl2⟩ : ∃ D2, D1.fail ((one.length : Int) / 2) 5 = (D2, 0) ∧ D2.Ok ∧ D2.sec.length = n := by
    obtain ⟨e, ok⟩ := dk_fail_ok hok1 HX1.out.2 ((one.length : Int) / 2) 5 (by omega) (by omega) (by omega) (by omega)
    exact ⟨_, e, ok, HX1.out.1⟩
  refine (fail_s h2 _ D1 _ _ D2 0 hF (h2.get 1 rfl)).mono ?_
  rintro e w3 ⟨b3, q3, rfl, h3⟩
  have HS2 := Lib.hid hsl2
  clear hF hsl2
  go_upto_region 7 with (refine wpList_store_row rfl 25 (.tmp 8) (.tmp 39) rfl g1 (dkA b3 q3 D2) rfl rfl 25 _ (h3.at_ 0 rfl) disk_info rfl (one4 rfl _ _ _) ?_)
  have h4 := h3.setRow (os1 := []) (cs' := dkA b3 q3 D2)
  generalize World.setRow _ _ _ = W4 at h4 ⊢
  replace h4 := h4.facts (fs' := [(IsDk · (dkS b3 q3 D2) D2), (IsActs · (.slice b2 one.length q2) one), (IsActs · v2 l2)]) (fun P hP => by simp only [List.mem_cons, List.not_mem_nil, or_false] at hP ⊢; rcases hP with rfl | rfl | rfl <;> simp)
  clear h3 h2 h1 h0
  go_wp2_with fail
  go_loopw [12] (RsInv1 w n g1 (.slice b2 one.length q2) one v2 l2) (fun c _ => one.length - (intOf c).toNat)
  case atStart => exact ⟨0, D2, b3, q3, by omega, rfl, hok2, HS2.out, h4⟩
  case round =>
    obtain ⟨k, D, bs, q, hk, rfl, hok, hsl, hst⟩ := hrel
    by_cases hlt : k < one.length
    · obtain ⟨_, _, e, _, _, hc⟩ := (hst.is 1 rfl).out
      cases e
      obtain ⟨ab, ao, rfl, -, ac1, ac2, -⟩ := hc k hlt
      have hsm := smallN_le (one[k]).at_
      obtain ⟨m, hm⟩ : ∃ m, smallN (one[k]).at_ = m := ⟨_, rfl⟩
      rw [hm] at hsm
      obtain ⟨hm1, hm8⟩ := hsm
      have HM := Lib.hid hm
      clear hm
      have i1 : (k : Int) < (one.length : Int) := by omega
      obtain ⟨c0, c1, c2, c3, -, -⟩ := dkO_cells (hst.at_ 0 rfl)
      have HSL := Lib.hid hsl
      clear hsl hc
      go_wp2_with fail
      have hs := hst.drew
      have hS : RsS w g1 bs q D (.slice (some ⟨ab, ao, none⟩) one.length q2) one v2 l2 wr.drew := hst.drew
      have hcs : ∀ w', RsS w g1 bs q D (.slice (some ⟨ab, ao, none⟩) one.length q2) one v2 l2 w' → w'.cell? ⟨g1, 0, none⟩ = some (.slice bs D.sec.length q) ∧ w'.cell? ⟨g1, 1, none⟩ = some (.int .i64 D.left) ∧ w'.cell? ⟨g1, 2, none⟩ = some (.int .i64 D.tear) ∧ w'.cell? ⟨g1, 3, none⟩ = some (.bool D.stopped) ∧
          w'.cell? ⟨ab, ao + k * 6 + 1, none⟩ = some (.int .i64 (one[k]).at_) ∧ w'.cell? ⟨ab, ao + k * 6 + 2, none⟩ = some (.int .u8 ((one[k]).fill.toNat : Int)) := fun w' h => by
        obtain ⟨c0, c1, c2, c3⟩ := h.cells
        obtain ⟨e1, e2⟩ := h.acts k hlt
        exact ⟨c0, c1, c2, c3, e1, e2⟩
      have HC := Lib.hid hcs
      have hk0 : (0 : Int) ≤ (k : Int) := by omega
      have hn0 : ¬ n = 0 := by omega
      clear hcs hs
      have hrem : (m : Int).tmod (n : Int) = ((m % n : Nat) : Int) := (Int.ofNat_tmod m n).symm
      have hmn : m % n < D.sec.length := by have := HSL.out; have := Nat.mod_lt m (show 0 < n by omega); omega
      obtain ⟨D', x', hw⟩ : ∃ D' x', D.write ((m % n : Nat) : Int) (fillL (one[k]).fill 128) = (D', x') ∧ D'.Ok ∧ D'.sec.length = n := by
        obtain ⟨e, ok, sl⟩ := dk_write_ok hok (m % n) hmn (fillL (one[k]).fill 128) (fillL_length _ _)
        exact ⟨_, _, e, ok, sl.trans HSL.out⟩
      have HW := Lib.hid hw
      clear hw hmn
      have HREM := Lib.hid hrem
      clear hrem
      refine wp_region_take (RsS w g1 bs q D (.slice (some ⟨ab, ao, none⟩) one.length q2) one v2 l2) (fun i => i == 17 || i == 18 || i == 19) (by kernel_rfl) ?_
      refine wpTake_val (i := 0) (v := ?_) rfl (by kernel_rfl) (by kernel_rfl) (by kernel_rfl) (by kernel_rfl) (by kernel_rfl) (fun _ _ _ h => h) hS (by rfl) (fun w' hw' => ?_) ?_
      rotate_left
      · have hh := HC.out w' hw'; have c0 := hh.1; have c1 := hh.2.1; have c2 := hh.2.2.1; have c3 := hh.2.2.2.1; have e1 := hh.2.2.2.2.1; have e2 := hh.2.2.2.2.2; clear hh
        go_simp
        try with_reducible rfl
      try simp only [Act.put, List.getElem_toArray, List.getElem_cons_succ, List.getElem_cons_zero, List.setIfInBounds_toArray, List.set_cons_zero, List.set_cons_succ]
      refine wpTake_val (i := 1) (v := ?_) rfl (by kernel_rfl) (by kernel_rfl) (by kernel_rfl) (by kernel_rfl) (by kernel_rfl) (fun _ _ _ h => h) hS (by rfl) (fun w' hw' => ?_) ?_
      rotate_left
      · have hh := HC.out w' hw'; have c0 := hh.1; have c1 := hh.2.1; have c2 := hh.2.2.1; have c3 := hh.2.2.2.1; have e1 := hh.2.2.2.2.1; have e2 := hh.2.2.2.2.2; clear hh
        go_simp
        try with_reducible rfl
      try simp only [Act.put, List.getElem_toArray, List.getElem_cons_succ, List.getElem_cons_zero, List.setIfInBounds_toArray, List.set_cons_zero, List.set_cons_succ]
      refine wpTake_val (i := 2) (v := ?_) rfl (by kernel_rfl) (by kernel_rfl) (by kernel_rfl) (by kernel_rfl) (by kernel_rfl) (fun _ _ _ h => h) hS (by rfl) (fun w' hw' => ?_) ?_
      rotate_left
      · have hh := HC.out w' hw'; have c0 := hh.1; have c1 := hh.2.1; have c2 := hh.2.2.1; have c3 := hh.2.2.2.1; have e1 := hh.2.2.2.2.1; have e2 := hh.2.2.2.2.2; clear hh
        go_simp
        try with_reducible rfl
      try simp only [Act.put, List.getElem_toArray, List.getElem_cons_succ, List.getElem_cons_zero, List.setIfInBounds_toArray, List.set_cons_zero, List.set_cons_succ]
      refine wpTake_val (i := 3) (v := ?_) rfl (by kernel_rfl) (by kernel_rfl) (by kernel_rfl) (by kernel_rfl) (by kernel_rfl) (fun _ _ _ h => h) hS (by rfl) (fun w' hw' => ?_) ?_
      rotate_left
      · have hh := HC.out w' hw'; have c0 := hh.1; have c1 := hh.2.1; have c2 := hh.2.2.1; have c3 := hh.2.2.2.1; have e1 := hh.2.2.2.2.1; have e2 := hh.2.2.2.2.2; clear hh
        go_simp
        try with_reducible rfl
      try simp only [Act.put, List.getElem_toArray, List.getElem_cons_succ, List.getElem_cons_zero, List.setIfInBounds_toArray, List.set_cons_zero, List.set_cons_succ]
      refine wpTake_val (i := 4) (v := ?_) rfl (by kernel_rfl) (by kernel_rfl) (by kernel_rfl) (by kernel_rfl) (by kernel_rfl) (fun _ _ _ h => h) hS (by rfl) (fun w' hw' => ?_) ?_
      rotate_left
      · have hh := HC.out w' hw'; have c0 := hh.1; have c1 := hh.2.1; have c2 := hh.2.2.1; have c3 := hh.2.2.2.1; have e1 := hh.2.2.2.2.1; have e2 := hh.2.2.2.2.2; clear hh
        go_simp
        try with_reducible rfl
      try simp only [Act.put, List.getElem_toArray, List.getElem_cons_succ, List.getElem_cons_zero, List.setIfInBounds_toArray, List.set_cons_zero, List.set_cons_succ]
      refine wpTake_val (i := 5) (v := ?_) rfl (by kernel_rfl) (by kernel_rfl) (by kernel_rfl) (by kernel_rfl) (by kernel_rfl) (fun _ _ _ h => h) hS (by rfl) (fun w' hw' => ?_) ?_
      rotate_left
      · have hh := HC.out w' hw'; have c0 := hh.1; have c1 := hh.2.1; have c2 := hh.2.2.1; have c3 := hh.2.2.2.1; have e1 := hh.2.2.2.2.1; have e2 := hh.2.2.2.2.2; clear hh
        go_simp
        try with_reducible rfl
      try simp only [Act.put, List.getElem_toArray, List.getElem_cons_succ, List.getElem_cons_zero, List.setIfInBounds_toArray, List.set_cons_zero, List.set_cons_succ]
      refine wpTake_call (i := 6) (v := (.int .i64 m)) 9 #[.int .i64 (one[k]).at_] rfl (by kernel_rfl) (by kernel_rfl) (by kernel_rfl) (by kernel_rfl) (by kernel_rfl) (fun _ _ _ h => h) hS (by rfl) (fun w' hw' => ?_) (fun w' hw' => ?_) ?_
      · go_simp
        try with_reducible rfl
      · exact (small_any w' _).mono fun _ _ ⟨h1, h2⟩ => ⟨by rw [h1, HM.out], h2.symm⟩
      try simp only [Act.put, List.getElem_toArray, List.getElem_cons_succ, List.getElem_cons_zero, List.setIfInBounds_toArray, List.set_cons_zero, List.set_cons_succ]
      refine wpTake_val (i := 7) (v := ?_) rfl (by kernel_rfl) (by kernel_rfl) (by kernel_rfl) (by kernel_rfl) (by kernel_rfl) (fun _ _ _ h => h) hS (by rfl) (fun w' hw' => ?_) ?_
      rotate_left
      · have hh := HC.out w' hw'; have c0 := hh.1; have c1 := hh.2.1; have c2 := hh.2.2.1; have c3 := hh.2.2.2.1; have e1 := hh.2.2.2.2.1; have e2 := hh.2.2.2.2.2; clear hh
        go_simp
        try with_reducible rfl
      try simp only [Act.put, List.getElem_toArray, List.getElem_cons_succ, List.getElem_cons_zero, List.setIfInBounds_toArray, List.set_cons_zero, List.set_cons_succ]
      refine wpTake_val (i := 8) (v := ?_) rfl (by kernel_rfl) (by kernel_rfl) (by kernel_rfl) (by kernel_rfl) (by kernel_rfl) (fun _ _ _ h => h) hS (by rfl) (fun w' hw' => ?_) ?_
      rotate_left
      · have hh := HC.out w' hw'; have c0 := hh.1; have c1 := hh.2.1; have c2 := hh.2.2.1; have c3 := hh.2.2.2.1; have e1 := hh.2.2.2.2.1; have e2 := hh.2.2.2.2.2; clear hh
        go_simp
        try with_reducible rfl
      try simp only [Act.put, List.getElem_toArray, List.getElem_cons_succ, List.getElem_cons_zero, List.setIfInBounds_toArray, List.set_cons_zero, List.set_cons_succ]
      refine wpTake_val (i := 9) (v := ?_) rfl (by kernel_rfl) (by kernel_rfl) (by kernel_rfl) (by kernel_rfl) (by kernel_rfl) (fun _ _ _ h => h) hS (by rfl) (fun w' hw' => ?_) ?_
      rotate_left
      · have hh := HC.out w' hw'; have c0 := hh.1; have c1 := hh.2.1; have c2 := hh.2.2.1; have c3 := hh.2.2.2.1; have e1 := hh.2.2.2.2.1; have e2 := hh.2.2.2.2.2; clear hh
        go_simp
        try with_reducible rfl
      try simp only [Act.put, List.getElem_toArray, List.getElem_cons_succ, List.getElem_cons_zero, List.setIfInBounds_toArray, List.set_cons_zero, List.set_cons_succ]
      refine wpTake_val (i := 10) (v := ?_) rfl (by kernel_rfl) (by kernel_rfl) (by kernel_rfl) (by kernel_rfl) (by kernel_rfl) (fun _ _ _ h => h) hS (by rfl) (fun w' hw' => ?_) ?_
      rotate_left
      · have hh := HC.out w' hw'; have c0 := hh.1; have c1 := hh.2.1; have c2 := hh.2.2.1; have c3 := hh.2.2.2.1; have e1 := hh.2.2.2.2.1; have e2 := hh.2.2.2.2.2; clear hh
        go_simp
        try with_reducible rfl
      try simp only [Act.put, List.getElem_toArray, List.getElem_cons_succ, List.getElem_cons_zero, List.setIfInBounds_toArray, List.set_cons_zero, List.set_cons_succ]
      refine wpTake_val (i := 11) (v := ?_) rfl (by kernel_rfl) (by kernel_rfl) (by kernel_rfl) (by kernel_rfl) (by kernel_rfl) (fun _ _ _ h => h) hS (by rfl) (fun w' hw' => ?_) ?_
      rotate_left
      · have hh := HC.out w' hw'; have c0 := hh.1; have c1 := hh.2.1; have c2 := hh.2.2.1; have c3 := hh.2.2.2.1; have e1 := hh.2.2.2.2.1; have e2 := hh.2.2.2.2.2; clear hh
        go_simp
        try with_reducible rfl
      try simp only [Act.put, List.getElem_toArray, List.getElem_cons_succ, List.getElem_cons_zero, List.setIfInBounds_toArray, List.set_cons_zero, List.set_cons_succ]
      refine wpTake_val (i := 12) (v := ?_) rfl (by kernel_rfl) (by kernel_rfl) (by kernel_rfl) (by kernel_rfl) (by kernel_rfl) (fun _ _ _ h => h) hS (by rfl) (fun w' hw' => ?_) ?_
      rotate_left
      · have hh := HC.out w' hw'; have c0 := hh.1; have c1 := hh.2.1; have c2 := hh.2.2.1; have c3 := hh.2.2.2.1; have e1 := hh.2.2.2.2.1; have e2 := hh.2.2.2.2.2; clear hh
        go_simp
        try with_reducible rfl
      try simp only [Act.put, List.getElem_toArray, List.getElem_cons_succ, List.getElem_cons_zero, List.setIfInBounds_toArray, List.set_cons_zero, List.set_cons_succ]
      refine wpTake_val (i := 13) (v := ?_) rfl (by kernel_rfl) (by kernel_rfl) (by kernel_rfl) (by kernel_rfl) (by kernel_rfl) (fun _ _ _ h => h) hS (by rfl) (fun w' hw' => ?_) ?_
      rotate_left
      · have hh := HC.out w' hw'; have c0 := hh.1; have c1 := hh.2.1; have c2 := hh.2.2.1; have c3 := hh.2.2.2.1; have e1 := hh.2.2.2.2.1; have e2 := hh.2.2.2.2.2; clear hh
        go_simp
        try with_reducible rfl
      try simp only [Act.put, List.getElem_toArray, List.getElem_cons_succ, List.getElem_cons_zero, List.setIfInBounds_toArray, List.set_cons_zero, List.set_cons_succ]
      refine wpTake_one (i := 14) rfl (by kernel_rfl) (fun K hK => ?_)
      go_simp
      refine (fill_s hS.st _ 128 128 rfl).mono ?_
      rintro e w5 ⟨b5, q5, rfl, h5⟩
      refine hK _ _ ⟨.inr h5.rs, ?_⟩
      clear hK K
      try simp only [Act.put, List.getElem_toArray, List.getElem_cons_succ, List.getElem_cons_zero, List.setIfInBounds_toArray, List.set_cons_zero, List.set_cons_succ]
      refine wpTake_one (i := 15) rfl (by kernel_rfl) (fun K hK => ?_)
      go_simp
      rw [HREM.out]
      refine (write_s h5 _ D _ _ (fillL (one[k]).fill 128) D' x' HW.out.1 (h5.get 1 rfl) (h5.is 0 rfl)).mono ?_
      rintro e w6 ⟨b6, q6, rfl, h6⟩
      refine hK _ _ ⟨.inr h6.rs2, ?_⟩
      clear hK K
      try simp only [Act.put, List.getElem_toArray, List.getElem_cons_succ, List.getElem_cons_zero, List.setIfInBounds_toArray, List.set_cons_zero, List.set_cons_succ]
      refine wpTake_val (i := 16) (v := ?_) rfl (by kernel_rfl) (by kernel_rfl) (by kernel_rfl) (by kernel_rfl) (by kernel_rfl) (fun _ _ _ h => h) h6.rs2 (by rfl) (fun w' hw' => ?_) ?_
      rotate_left
      · skip
        go_simp
        try with_reducible rfl
      try simp only [Act.put, List.getElem_toArray, List.getElem_cons_succ, List.getElem_cons_zero, List.setIfInBounds_toArray, List.set_cons_zero, List.set_cons_succ]
      refine wpTake_free (i := 17) (v := ?_) rfl (by kernel_rfl) rfl (by kernel_rfl) (by kernel_rfl) (by kernel_rfl) (fun _ _ _ h => h) (by rfl) (fun w' => ?_) ?_
      rotate_left
      · go_simp
        try with_reducible rfl
      try simp only [Act.put, List.getElem_toArray, List.getElem_cons_succ, List.getElem_cons_zero, List.setIfInBounds_toArray, List.set_cons_zero, List.set_cons_succ]
      refine wpTake_free (i := 18) (v := ?_) rfl (by kernel_rfl) rfl (by kernel_rfl) (by kernel_rfl) (by kernel_rfl) (fun _ _ _ h => h) (by rfl) (fun w' => ?_) ?_
      rotate_left
      · go_simp
        try with_reducible rfl
      try simp only [Act.put, List.getElem_toArray, List.getElem_cons_succ, List.getElem_cons_zero, List.setIfInBounds_toArray, List.set_cons_zero, List.set_cons_succ]
      refine wpTake_one (i := 19) rfl (by kernel_rfl) (fun K hK => ?_)
      obtain ⟨z0, z1, z2, z3, zf0, zf1, zf2, zf3⟩ := cells4 (h6.at_ 0 rfl)
      go_simp
      refine hK _ _ ⟨.inl rfl, ?_⟩
      clear hK K
      try simp only [Act.put, List.getElem_toArray, List.getElem_cons_succ, List.getElem_cons_zero, List.setIfInBounds_toArray, List.set_cons_zero, List.set_cons_succ]
      refine wpTake_done (by kernel_rfl) ?_
      have h7 := (St.store4 (os1 := []) (v0 := .slice b6 D'.sec.length q6) (v1 := .int .i64 D'.left) (v2 := .int .i64 D'.tear) (v3 := .bool D'.stopped) h6).facts (fs' := [(IsDk · (dkS b6 q6 D') D'), (IsActs · (.slice (some ⟨ab, ao, none⟩) one.length q2) one), (IsActs · v2 l2)]) (fun P hP => by simp only [List.mem_cons, List.not_mem_nil, or_false] at hP ⊢; rcases hP with rfl | rfl | rfl <;> simp)
      go_wp2
      go_roundw
      case rel => exact ⟨k + 1, D', b6, q6, by omega, by go_num, HW.out.2.1, HW.out.2.2, h7⟩
      case measure => simp [intOf]; omega

    · obtain rfl : k = one.length := by omega
      obtain ⟨X, hX, hokX, hsec, hX1, hX2⟩ : ∃ X, D.restart = X ∧ X.Ok ∧ X.sec = D.sec ∧ X.stopped = false ∧ X.left = -1 := by
        obtain ⟨e, ok⟩ := dk_restart_ok hok
        exact ⟨_, rfl, ok, by rw [e], by rw [e], by rw [e]⟩
      have HX := Lib.hid (And.intro hsec (And.intro hX1 hX2))
      have hxl : ((X.sec.length : Int) != (n : Int)) = false := by rw [hsec, hsl]; simp
      have hdl : ((D.sec.length : Int) != (n : Int)) = false := by rw [hsl]; simp
      have HSL := Lib.hid hsl
      clear hsl hsec hX1 hX2
      go_wp2_with (refine wpList_load_row rfl 25 (.tmp 8) rfl g1 rfl 25 _ (0, 0) _ (hst.at_ 0 rfl) Try.underlying25 rfl disk_info ?_)
      refine (restart_s hst _ D X hX (hst.get 0 rfl)).mono ?_
      rintro e w5 ⟨b5, q5, rfl, h5⟩
      clear hX
      go_upto_region 14 with (refine wpList_store_row rfl 25 (.tmp 13) (.tmp 69) rfl w5.heap.size (dkA b5 q5 X) rfl rfl 25 _ (heap_alloc_new _ _) disk_info rfl (one4 rfl _ _ _) ?_)
      replace h5 := h5.newVar #[.slice none 0 0, .int .i64 0, .int .i64 0, .bool false] (dkA b5 q5 X) 25
      generalize World.setRow _ _ _ = W5 at h5 ⊢
      generalize w5.heap.size = g5 at h5 ⊢
      obtain ⟨c0, c1, c2, c3, -, -⟩ := dkO_cells (h5.at_ 0 rfl)
      obtain ⟨d0, -, -, -, -, -⟩ := dkO_cells (h5.at_ 1 rfl)
      go_wp2_with fail
      refine (check_s h5 _ X hokX (h5.is 0 rfl)).mono ?_
      rintro e w6 ⟨rfl, h6⟩
      replace h6 := h6.facts (fs' := [(IsDk · (dkS b5 q5 X) X), (IsDk · (dkS bs q D) D), (IsActs · v2 l2)]) (fun P hP => by simp only [List.mem_cons, List.not_mem_nil, or_false] at hP ⊢; rcases hP with rfl | rfl | rfl <;> simp)
      clear c0 c1 c2 c3 d0 h5 hst
      go_wp2_with fail
      have HD := Lib.hid hdl
      have hsl2 := HSL.out
      have HSL2 := Lib.hid hsl2
      clear hxl hdl hsl2
      go_loopw [14] (RsInv2 w n g5 g1 b5 q5 X bs q D v2 l2) (fun c _ => n - (intOf c).toNat)
      case atStart => exact ⟨0, by omega, rfl, h6⟩
      case round =>
        obtain ⟨j, hj, rfl, hst⟩ := hrel
        by_cases hlt2 : j < n
        · have hjD : j < D.sec.length := by have := HSL2.out; omega
          have hjX : j < X.sec.length := by rw [HX.out.1]; exact hjD
          obtain ⟨_, _, e, hxc, hxm, hx⟩ := (hst.is 0 rfl : IsDk _ _ _).open_
          cases e
          obtain ⟨_, _, e, hdc, hdm, hd⟩ := (hst.is 1 rfl : IsDk _ _ _).open_
          cases e
          obtain ⟨xb, xo, ub, uc, rfl, hxc1, hxu⟩ := hx j hjX
          obtain ⟨db, dz, ub2, uc2, rfl, hdc1, hdu⟩ := hd j hjD
          have hsx : X.sec[j] = D.sec[j] := by simp only [HX.out.1]
          rw [hsx] at hxc1 hxu
          clear hsx hx hd
          obtain ⟨c0, -, -, -, -, -⟩ := dkO_cells (hst.at_ 0 rfl)
          obtain ⟨d0, -, -, -, -, -⟩ := dkO_cells (hst.at_ 1 rfl)
          have i1 : (j : Int) < (X.sec.length : Int) := by omega
          have i2 : (j : Int) < (D.sec.length : Int) := by omega
          have i0 : (0 : Int) ≤ (j : Int) := by omega
          have i3 : (j : Int) < (n : Int) := by omega
          have HXU := Lib.hid hxu
          have HDU := Lib.hid hdu
          clear hxu hdu
          generalize hlj : D.sec[j] = lj at hxc1 hdc1 HXU HDU
          clear hlj
          go_wp2_with fail
          refine wp_region_take (fun w' => w' = wr.drew) (fun i => i == 10 || i == 11) (by kernel_rfl) ?_
          refine wpTake_val (i := 0) (v := ?_) rfl (by kernel_rfl) (by kernel_rfl) (by kernel_rfl) (by kernel_rfl) (by kernel_rfl) (fun _ _ _ h => h) rfl (by rfl) (fun w' hw' => ?_) ?_
          rotate_left
          · subst hw'
            go_simp
            try with_reducible rfl
          try simp only [Act.put, List.getElem_toArray, List.getElem_cons_succ, List.getElem_cons_zero, List.setIfInBounds_toArray, List.set_cons_zero, List.set_cons_succ]
          refine wpTake_val (i := 1) (v := ?_) rfl (by kernel_rfl) (by kernel_rfl) (by kernel_rfl) (by kernel_rfl) (by kernel_rfl) (fun _ _ _ h => h) rfl (by rfl) (fun w' hw' => ?_) ?_
          rotate_left
          · subst hw'
            go_simp
            try with_reducible rfl
          try simp only [Act.put, List.getElem_toArray, List.getElem_cons_succ, List.getElem_cons_zero, List.setIfInBounds_toArray, List.set_cons_zero, List.set_cons_succ]
          refine wpTake_val (i := 2) (v := ?_) rfl (by kernel_rfl) (by kernel_rfl) (by kernel_rfl) (by kernel_rfl) (by kernel_rfl) (fun _ _ _ h => h) rfl (by rfl) (fun w' hw' => ?_) ?_
          rotate_left
          · subst hw'
            go_simp
            try with_reducible rfl
          try simp only [Act.put, List.getElem_toArray, List.getElem_cons_succ, List.getElem_cons_zero, List.setIfInBounds_toArray, List.set_cons_zero, List.set_cons_succ]
          refine wpTake_val (i := 3) (v := ?_) rfl (by kernel_rfl) (by kernel_rfl) (by kernel_rfl) (by kernel_rfl) (by kernel_rfl) (fun _ _ _ h => h) rfl (by rfl) (fun w' hw' => ?_) ?_
          rotate_left
          · subst hw'
            go_simp
            try with_reducible rfl
          try simp only [Act.put, List.getElem_toArray, List.getElem_cons_succ, List.getElem_cons_zero, List.setIfInBounds_toArray, List.set_cons_zero, List.set_cons_succ]
          refine wpTake_val (i := 4) (v := ?_) rfl (by kernel_rfl) (by kernel_rfl) (by kernel_rfl) (by kernel_rfl) (by kernel_rfl) (fun _ _ _ h => h) rfl (by rfl) (fun w' hw' => ?_) ?_
          rotate_left
          · subst hw'
            go_simp
            try with_reducible rfl
          try simp only [Act.put, List.getElem_toArray, List.getElem_cons_succ, List.getElem_cons_zero, List.setIfInBounds_toArray, List.set_cons_zero, List.set_cons_succ]
          refine wpTake_val (i := 5) (v := ?_) rfl (by kernel_rfl) (by kernel_rfl) (by kernel_rfl) (by kernel_rfl) (by kernel_rfl) (fun _ _ _ h => h) rfl (by rfl) (fun w' hw' => ?_) ?_
          rotate_left
          · subst hw'
            go_simp
            try with_reducible rfl
          try simp only [Act.put, List.getElem_toArray, List.getElem_cons_succ, List.getElem_cons_zero, List.setIfInBounds_toArray, List.set_cons_zero, List.set_cons_succ]
          refine wpTake_val (i := 6) (v := ?_) rfl (by kernel_rfl) (by kernel_rfl) (by kernel_rfl) (by kernel_rfl) (by kernel_rfl) (fun _ _ _ h => h) rfl (by rfl) (fun w' hw' => ?_) ?_
          rotate_left
          · subst hw'
            go_simp
            try with_reducible rfl
          try simp only [Act.put, List.getElem_toArray, List.getElem_cons_succ, List.getElem_cons_zero, List.setIfInBounds_toArray, List.set_cons_zero, List.set_cons_succ]
          refine wpTake_val (i := 7) (v := ?_) rfl (by kernel_rfl) (by kernel_rfl) (by kernel_rfl) (by kernel_rfl) (by kernel_rfl) (fun _ _ _ h => h) rfl (by rfl) (fun w' hw' => ?_) ?_
          rotate_left
          · subst hw'
            go_simp
            try with_reducible rfl
          try simp only [Act.put, List.getElem_toArray, List.getElem_cons_succ, List.getElem_cons_zero, List.setIfInBounds_toArray, List.set_cons_zero, List.set_cons_succ]
          refine wpTake_val (i := 8) (v := ?_) rfl (by kernel_rfl) (by kernel_rfl) (by kernel_rfl) (by kernel_rfl) (by kernel_rfl) (fun _ _ _ h => h) rfl (by rfl) (fun w' hw' => ?_) ?_
          rotate_left
          · subst hw'
            go_simp
            try with_reducible rfl
          try simp only [Act.put, List.getElem_toArray, List.getElem_cons_succ, List.getElem_cons_zero, List.setIfInBounds_toArray, List.set_cons_zero, List.set_cons_succ]
          refine wpTake_val (i := 9) (v := ?_) rfl (by kernel_rfl) (by kernel_rfl) (by kernel_rfl) (by kernel_rfl) (by kernel_rfl) (fun _ _ _ h => h) rfl (by rfl) (fun w' hw' => ?_) ?_
          rotate_left
          · subst hw'
            go_simp
            try with_reducible rfl
          try simp only [Act.put, List.getElem_toArray, List.getElem_cons_succ, List.getElem_cons_zero, List.setIfInBounds_toArray, List.set_cons_zero, List.set_cons_succ]
          refine wpTake_one (i := 10) rfl (by kernel_rfl) (fun K hK => ?_)
          go_simp
          refine (same_s hst.drew (.slice ub lj.length uc) (.slice ub2 lj.length uc2) lj HXU.out HDU.out).mono ?_
          rintro e w7 ⟨rfl, h7⟩
          refine hK _ _ ⟨.inl rfl, ?_⟩
          clear hK K
          try simp only [Act.put, List.getElem_toArray, List.getElem_cons_succ, List.getElem_cons_zero, List.setIfInBounds_toArray, List.set_cons_zero, List.set_cons_succ]
          refine wpTake_free (i := 11) (v := ?_) rfl (by kernel_rfl) rfl (by kernel_rfl) (by kernel_rfl) (by kernel_rfl) (fun _ _ _ h => h) (by rfl) (fun w' => ?_) ?_
          rotate_left
          · go_simp
            try with_reducible rfl
          try simp only [Act.put, List.getElem_toArray, List.getElem_cons_succ, List.getElem_cons_zero, List.setIfInBounds_toArray, List.set_cons_zero, List.set_cons_succ]
          refine wpTake_done (by kernel_rfl) ?_
          go_wp2
          go_roundw
          case rel => exact ⟨j + 1, by omega, by go_num, h7⟩
          case measure => simp [intOf]; omega

        · obtain rfl : n = j := by omega
          go_wp2_with fail
          refine (few_s hst v2 l2 30 (hst.get 2 rfl)).mono ?_
          rintro e w8 ⟨b8, q8, rfl, h8⟩
          generalize l2.take 30 = two at h8 ⊢
          replace h8 := h8.facts (fs' := [(IsDk · (dkS b5 q5 X) X), (IsActs · (.slice b8 two.length q8) two)]) (fun P hP => by simp only [List.mem_cons, List.not_mem_nil, or_false] at hP ⊢; rcases hP with rfl | rfl <;> simp)
          go_wp2_with fail
          go_loopw [16] (RsInv3 w n g5 g1 bs q D (.slice b8 two.length q8) two) (fun c _ => two.length - (intOf c).toNat)
          case atStart => exact ⟨0, X, b5, q5, by omega, rfl, hokX, by rw [HX.out.1]; exact HSL2.out, HX.out.2.1, HX.out.2.2, h8⟩
          case round =>
            clear h8 hst h6
            obtain ⟨k, X, bx, qx, hk3, rfl, hok3, hsl3, hfs3, hlf3, hst⟩ := hrel
            have HP := Lib.hid (And.intro hsl3 (And.intro hfs3 hlf3))
            clear hsl3 hfs3 hlf3
            by_cases hlt3 : k < two.length
            · obtain ⟨_, _, e, hac, ham, hc⟩ := (hst.is 1 rfl : IsActs _ _ _).out
              cases e
              obtain ⟨ab, ao, rfl, -, ac1, ac2, -⟩ := hc k hlt3
              clear hc
              have hsm := smallN_le (two[k]).at_
              obtain ⟨m, hm⟩ : ∃ m, smallN (two[k]).at_ = m := ⟨_, rfl⟩
              rw [hm] at hsm
              obtain ⟨hm1, hm8⟩ := hsm
              have HM := Lib.hid hm
              clear hm
              have i1 : (k : Int) < (two.length : Int) := by omega
              have hk0 : (0 : Int) ≤ (k : Int) := by omega
              have hn0 : ¬ n = 0 := by omega
              have hrem : (m : Int).tmod (n : Int) = ((m % n : Nat) : Int) := (Int.ofNat_tmod m n).symm
              have hmn : m % n < X.sec.length := by have := HP.out.1; have := Nat.mod_lt m (show 0 < n by omega); omega
              obtain ⟨r, hr⟩ : ∃ r, m % n = r := ⟨_, rfl⟩
              rw [hr] at hrem hmn
              obtain ⟨Y, hY, hokY, hslY, hfsY, hlfY, hrd⟩ : ∃ Y, X.write (r : Int) (fillL (two[k]).fill 128) = (Y, 0) ∧ Y.Ok ∧ Y.sec.length = n ∧ Y.stopped = false ∧ Y.left = -1 ∧ Y.read (r : Int) = (fillL (two[k]).fill 128, 0) := by
                obtain ⟨e, ok, sl⟩ := dk_write_ok hok3 r hmn (fillL (two[k]).fill 128) (fillL_length _ _)
                have e2 := dk_wr_free HP.out.2.1 HP.out.2.2 r hmn (hok3.size r hmn) (fillL (two[k]).fill 128) (fillL_length _ _)
                rw [e2] at e ok sl
                refine ⟨_, e, ok, sl.trans HP.out.1, HP.out.2.1, HP.out.2.2, ?_⟩
                rw [dk_read_ok ok HP.out.2.1 r (by simpa using hmn)]
                simp
              have HW := Lib.hid hY
              have HRD := Lib.hid hrd
              have HYP := Lib.hid (And.intro hslY (And.intro hfsY hlfY))
              have HREM2 := Lib.hid (show (m : Int) % (n : Int) = (r : Int) by rw [← hr]; rfl)
              have HREM := Lib.hid hrem
              clear hY hrd hslY hfsY hlfY hrem hmn hr
              go_wp2_with fail
              refine (small_any _ _).mono ?_
              rintro e w9 ⟨rfl, rfl⟩
              rw [HM.out]
              go_upto_region 26 with fail
              rw [show (m : Int) % (n : Int) = (r : Int) from HREM2.out]
              have hS : RsC g5 bx qx X ab ao k (two[k]).fill wr.drew := RsC.of (hst.drew.at_ 0 rfl) (hst.drew.is 1 rfl) hlt3
              have HC3 := Lib.hid (fun w' (h : RsC g5 bx qx X ab ao k (two[k]).fill w') => (show w'.cell? ⟨g5, 0, none⟩ = some (.slice bx X.sec.length qx) ∧ w'.cell? ⟨g5, 1, none⟩ = some (.int .i64 X.left) ∧ w'.cell? ⟨g5, 2, none⟩ = some (.int .i64 X.tear) ∧ w'.cell? ⟨g5, 3, none⟩ = some (.bool X.stopped) ∧ w'.cell? ⟨ab, ao + k * 6 + 2, none⟩ = some (.int .u8 ((two[k]).fill.toNat : Int)) from h))
              go_cut [18, 19] from 120 to 131 (RsCut3 w g5 bx qx X g1 bs q D (.slice (some ⟨ab, ao, none⟩) two.length q8) two Y)
              case first =>
                refine wp_region_take (RsC g5 bx qx X ab ao k (two[k]).fill) (fun i => i == 9 || i == 10 || i == 11 || i == 13 || i == 14) (by kernel_rfl) ?_
                refine wpTake_val (i := 0) (v := ?_) rfl (by kernel_rfl) (by kernel_rfl) (by kernel_rfl) (by kernel_rfl) (by kernel_rfl) (fun _ _ _ h => h) hS (by rfl) (fun w' hw' => ?_) ?_
                rotate_left
                · have hh := HC3.out w' hw'; have c0 := hh.1; have c1 := hh.2.1; have c2 := hh.2.2.1; have c3 := hh.2.2.2.1; have e2 := hh.2.2.2.2; clear hh
                  go_simp
                  try with_reducible rfl
                try simp only [Act.put, List.getElem_toArray, List.getElem_cons_succ, List.getElem_cons_zero, List.setIfInBounds_toArray, List.set_cons_zero, List.set_cons_succ]
                refine wpTake_val (i := 1) (v := ?_) rfl (by kernel_rfl) (by kernel_rfl) (by kernel_rfl) (by kernel_rfl) (by kernel_rfl) (fun _ _ _ h => h) hS (by rfl) (fun w' hw' => ?_) ?_
                rotate_left
                · have hh := HC3.out w' hw'; have c0 := hh.1; have c1 := hh.2.1; have c2 := hh.2.2.1; have c3 := hh.2.2.2.1; have e2 := hh.2.2.2.2; clear hh
                  go_simp
                  try with_reducible rfl
                try simp only [Act.put, List.getElem_toArray, List.getElem_cons_succ, List.getElem_cons_zero, List.setIfInBounds_toArray, List.set_cons_zero, List.set_cons_succ]
                refine wpTake_val (i := 2) (v := ?_) rfl (by kernel_rfl) (by kernel_rfl) (by kernel_rfl) (by kernel_rfl) (by kernel_rfl) (fun _ _ _ h => h) hS (by rfl) (fun w' hw' => ?_) ?_
                rotate_left
                · have hh := HC3.out w' hw'; have c0 := hh.1; have c1 := hh.2.1; have c2 := hh.2.2.1; have c3 := hh.2.2.2.1; have e2 := hh.2.2.2.2; clear hh
                  go_simp
                  try with_reducible rfl
                try simp only [Act.put, List.getElem_toArray, List.getElem_cons_succ, List.getElem_cons_zero, List.setIfInBounds_toArray, List.set_cons_zero, List.set_cons_succ]
                refine wpTake_val (i := 3) (v := ?_) rfl (by kernel_rfl) (by kernel_rfl) (by kernel_rfl) (by kernel_rfl) (by kernel_rfl) (fun _ _ _ h => h) hS (by rfl) (fun w' hw' => ?_) ?_
                rotate_left
                · have hh := HC3.out w' hw'; have c0 := hh.1; have c1 := hh.2.1; have c2 := hh.2.2.1; have c3 := hh.2.2.2.1; have e2 := hh.2.2.2.2; clear hh
                  go_simp
                  try with_reducible rfl
                try simp only [Act.put, List.getElem_toArray, List.getElem_cons_succ, List.getElem_cons_zero, List.setIfInBounds_toArray, List.set_cons_zero, List.set_cons_succ]
                refine wpTake_val (i := 4) (v := ?_) rfl (by kernel_rfl) (by kernel_rfl) (by kernel_rfl) (by kernel_rfl) (by kernel_rfl) (fun _ _ _ h => h) hS (by rfl) (fun w' hw' => ?_) ?_
                rotate_left
                · have hh := HC3.out w' hw'; have c0 := hh.1; have c1 := hh.2.1; have c2 := hh.2.2.1; have c3 := hh.2.2.2.1; have e2 := hh.2.2.2.2; clear hh
                  go_simp
                  try with_reducible rfl
                try simp only [Act.put, List.getElem_toArray, List.getElem_cons_succ, List.getElem_cons_zero, List.setIfInBounds_toArray, List.set_cons_zero, List.set_cons_succ]
                refine wpTake_val (i := 5) (v := ?_) rfl (by kernel_rfl) (by kernel_rfl) (by kernel_rfl) (by kernel_rfl) (by kernel_rfl) (fun _ _ _ h => h) hS (by rfl) (fun w' hw' => ?_) ?_
                rotate_left
                · have hh := HC3.out w' hw'; have c0 := hh.1; have c1 := hh.2.1; have c2 := hh.2.2.1; have c3 := hh.2.2.2.1; have e2 := hh.2.2.2.2; clear hh
                  go_simp
                  try with_reducible rfl
                try simp only [Act.put, List.getElem_toArray, List.getElem_cons_succ, List.getElem_cons_zero, List.setIfInBounds_toArray, List.set_cons_zero, List.set_cons_succ]
                refine wpTake_val (i := 6) (v := ?_) rfl (by kernel_rfl) (by kernel_rfl) (by kernel_rfl) (by kernel_rfl) (by kernel_rfl) (fun _ _ _ h => h) hS (by rfl) (fun w' hw' => ?_) ?_
                rotate_left
                · have hh := HC3.out w' hw'; have c0 := hh.1; have c1 := hh.2.1; have c2 := hh.2.2.1; have c3 := hh.2.2.2.1; have e2 := hh.2.2.2.2; clear hh
                  go_simp
                  try with_reducible rfl
                try simp only [Act.put, List.getElem_toArray, List.getElem_cons_succ, List.getElem_cons_zero, List.setIfInBounds_toArray, List.set_cons_zero, List.set_cons_succ]
                refine wpTake_two (i := 7) (k := 12) rfl rfl (by kernel_rfl) ?_ ?_
                · intro K hK
                  go_simp
                  refine (fill_s hst.drew _ 128 128 rfl).mono ?_
                  rintro e w10 ⟨b10, q10, rfl, h10⟩
                  refine hK _ _ ⟨.inr (RsC.of (h10.at_ 0 rfl) (h10.is 2 rfl) hlt3), ?_⟩
                  clear hK K
                  try simp only [Act.put, List.getElem_toArray, List.getElem_cons_succ, List.getElem_cons_zero, List.setIfInBounds_toArray, List.set_cons_zero, List.set_cons_succ]
                  refine wpTake_two (i := 8) (k := 12) rfl rfl (by kernel_rfl) ?_ ?_
                  · intro K hK
                    go_simp
                    refine (write_s h10 _ X _ _ (fillL (two[k]).fill 128) Y 0 HW.out (h10.get 1 rfl) (h10.is 0 rfl)).mono ?_
                    rintro e w11 ⟨b11, q11, rfl, h11⟩
                    refine hK _ _ ⟨.inr (RsC.of (h11.at_ 0 rfl) (h11.is 3 rfl) hlt3), ?_⟩
                    clear hK K
                    try simp only [Act.put, List.getElem_toArray, List.getElem_cons_succ, List.getElem_cons_zero, List.setIfInBounds_toArray, List.set_cons_zero, List.set_cons_succ]
                    refine wpTake_free (i := 9) (v := ?_) rfl (by kernel_rfl) rfl (by kernel_rfl) (by kernel_rfl) (by kernel_rfl) (fun _ _ _ h => h) (by rfl) (fun w' => ?_) ?_
                    rotate_left
                    · go_simp
                      try with_reducible rfl
                    try simp only [Act.put, List.getElem_toArray, List.getElem_cons_succ, List.getElem_cons_zero, List.setIfInBounds_toArray, List.set_cons_zero, List.set_cons_succ]
                    refine wpTake_free (i := 10) (v := ?_) rfl (by kernel_rfl) rfl (by kernel_rfl) (by kernel_rfl) (by kernel_rfl) (fun _ _ _ h => h) (by rfl) (fun w' => ?_) ?_
                    rotate_left
                    · go_simp
                      try with_reducible rfl
                    try simp only [Act.put, List.getElem_toArray, List.getElem_cons_succ, List.getElem_cons_zero, List.setIfInBounds_toArray, List.set_cons_zero, List.set_cons_succ]
                    refine wpTake_free (i := 11) (v := ?_) rfl (by kernel_rfl) rfl (by kernel_rfl) (by kernel_rfl) (by kernel_rfl) (fun _ _ _ h => h) (by rfl) (fun w' => ?_) ?_
                    rotate_left
                    · go_simp
                      try with_reducible rfl
                    try simp only [Act.put, List.getElem_toArray, List.getElem_cons_succ, List.getElem_cons_zero, List.setIfInBounds_toArray, List.set_cons_zero, List.set_cons_succ]
                    refine wpTake_one (i := 12) rfl (by kernel_rfl) (fun K hK => ?_)
                    go_simp
                    refine hK _ _ ⟨.inr (RsC.of ((h11.alloc dkZ).at_ 1 rfl) ((h11.alloc dkZ).is 3 rfl) hlt3), ?_⟩
                    clear hK K
                    try simp only [Act.put, List.getElem_toArray, List.getElem_cons_succ, List.getElem_cons_zero, List.setIfInBounds_toArray, List.set_cons_zero, List.set_cons_succ]
                    refine wpTake_one (i := 13) rfl (by kernel_rfl) (fun K hK => ?_)
                    go_simp
                    refine hK _ _ ⟨.inl rfl, ?_⟩
                    clear hK K
                    try simp only [Act.put, List.getElem_toArray, List.getElem_cons_succ, List.getElem_cons_zero, List.setIfInBounds_toArray, List.set_cons_zero, List.set_cons_succ]
                    refine wpTake_free (i := 14) (v := ?_) rfl (by kernel_rfl) rfl (by kernel_rfl) (by kernel_rfl) (by kernel_rfl) (fun _ _ _ h => h) (by rfl) (fun w' => ?_) ?_
                    rotate_left
                    · go_simp
                      try with_reducible rfl
                    try simp only [Act.put, List.getElem_toArray, List.getElem_cons_succ, List.getElem_cons_zero, List.setIfInBounds_toArray, List.set_cons_zero, List.set_cons_succ]
                    refine wpTake_done (by kernel_rfl) ?_
                    go_wp2_with fail
                    go_meet
                    case rel => exact ⟨_, b11, q11, rfl, rfl, (h11.alloc (dkB b11 q11 Y)).facts (fun P hP => by simp only [List.mem_cons, List.not_mem_nil, or_false] at hP ⊢; rcases hP with rfl | rfl | rfl <;> simp)⟩
                  · intro K hK
                    go_simp
                    refine hK _ _ ⟨.inr (RsC.of ((h10.alloc dkZ).at_ 1 rfl) ((h10.alloc dkZ).is 2 rfl) hlt3), ?_⟩
                    clear hK K
                    try simp only [Act.put, List.getElem_toArray, List.getElem_cons_succ, List.getElem_cons_zero, List.setIfInBounds_toArray, List.set_cons_zero, List.set_cons_succ]
                    refine wpTake_one (i := 8) rfl (by kernel_rfl) (fun K hK => ?_)
                    go_simp
                    refine (write_s (h10.alloc dkZ) _ X _ _ (fillL (two[k]).fill 128) Y 0 HW.out ((h10.alloc dkZ).get 1 rfl) ((h10.alloc dkZ).is 0 rfl)).mono ?_
                    rintro e w11 ⟨b11, q11, rfl, h11⟩
                    refine hK _ _ ⟨.inr (RsC.of (h11.at_ 1 rfl) (h11.is 3 rfl) hlt3), ?_⟩
                    clear hK K
                    try simp only [Act.put, List.getElem_toArray, List.getElem_cons_succ, List.getElem_cons_zero, List.setIfInBounds_toArray, List.set_cons_zero, List.set_cons_succ]
                    refine wpTake_free (i := 9) (v := ?_) rfl (by kernel_rfl) rfl (by kernel_rfl) (by kernel_rfl) (by kernel_rfl) (fun _ _ _ h => h) (by rfl) (fun w' => ?_) ?_
                    rotate_left
                    · go_simp
                      try with_reducible rfl
                    try simp only [Act.put, List.getElem_toArray, List.getElem_cons_succ, List.getElem_cons_zero, List.setIfInBounds_toArray, List.set_cons_zero, List.set_cons_succ]
                    refine wpTake_free (i := 10) (v := ?_) rfl (by kernel_rfl) rfl (by kernel_rfl) (by kernel_rfl) (by kernel_rfl) (fun _ _ _ h => h) (by rfl) (fun w' => ?_) ?_
                    rotate_left
                    · go_simp
                      try with_reducible rfl
                    try simp only [Act.put, List.getElem_toArray, List.getElem_cons_succ, List.getElem_cons_zero, List.setIfInBounds_toArray, List.set_cons_zero, List.set_cons_succ]
                    refine wpTake_free (i := 11) (v := ?_) rfl (by kernel_rfl) rfl (by kernel_rfl) (by kernel_rfl) (by kernel_rfl) (fun _ _ _ h => h) (by rfl) (fun w' => ?_) ?_
                    rotate_left
                    · go_simp
                      try with_reducible rfl
                    try simp only [Act.put, List.getElem_toArray, List.getElem_cons_succ, List.getElem_cons_zero, List.setIfInBounds_toArray, List.set_cons_zero, List.set_cons_succ]
                    refine wpTake_one (i := 13) rfl (by kernel_rfl) (fun K hK => ?_)
                    obtain ⟨z0, z1, z2, z3, zf0, zf1, zf2, zf3⟩ := cells4 (h11.at_ 0 rfl)
                    go_simp
                    refine hK _ _ ⟨.inl rfl, ?_⟩
                    clear hK K
                    try simp only [Act.put, List.getElem_toArray, List.getElem_cons_succ, List.getElem_cons_zero, List.setIfInBounds_toArray, List.set_cons_zero, List.set_cons_succ]
                    refine wpTake_free (i := 14) (v := ?_) rfl (by kernel_rfl) rfl (by kernel_rfl) (by kernel_rfl) (by kernel_rfl) (fun _ _ _ h => h) (by rfl) (fun w' => ?_) ?_
                    rotate_left
                    · go_simp
                      try with_reducible rfl
                    try simp only [Act.put, List.getElem_toArray, List.getElem_cons_succ, List.getElem_cons_zero, List.setIfInBounds_toArray, List.set_cons_zero, List.set_cons_succ]
                    refine wpTake_done (by kernel_rfl) ?_
                    go_wp2_with fail
                    go_meet
                    case rel => exact ⟨_, b11, q11, rfl, rfl, (St.store4 (os1 := []) (v0 := .slice b11 Y.sec.length q11) (v1 := .int .i64 Y.left) (v2 := .int .i64 Y.tear) (v3 := .bool Y.stopped) h11).facts (fun P hP => by simp only [List.mem_cons, List.not_mem_nil, or_false] at hP ⊢; rcases hP with rfl | rfl | rfl <;> simp)⟩
                · intro K hK
                  go_simp
                  refine hK _ _ ⟨.inr (RsC.of ((hst.drew.alloc dkZ).at_ 1 rfl) ((hst.drew.alloc dkZ).is 1 rfl) hlt3), ?_⟩
                  clear hK K
                  try simp only [Act.put, List.getElem_toArray, List.getElem_cons_succ, List.getElem_cons_zero, List.setIfInBounds_toArray, List.set_cons_zero, List.set_cons_succ]
                  refine wpTake_one (i := 7) rfl (by kernel_rfl) (fun K hK => ?_)
                  go_simp
                  refine (fill_s (hst.drew.alloc dkZ) _ 128 128 rfl).mono ?_
                  rintro e w10 ⟨b10, q10, rfl, h10⟩
                  refine hK _ _ ⟨.inr (RsC.of (h10.at_ 1 rfl) (h10.is 2 rfl) hlt3), ?_⟩
                  clear hK K
                  try simp only [Act.put, List.getElem_toArray, List.getElem_cons_succ, List.getElem_cons_zero, List.setIfInBounds_toArray, List.set_cons_zero, List.set_cons_succ]
                  refine wpTake_one (i := 8) rfl (by kernel_rfl) (fun K hK => ?_)
                  go_simp
                  refine (write_s h10 _ X _ _ (fillL (two[k]).fill 128) Y 0 HW.out (h10.get 1 rfl) (h10.is 0 rfl)).mono ?_
                  rintro e w11 ⟨b11, q11, rfl, h11⟩
                  refine hK _ _ ⟨.inr (RsC.of (h11.at_ 1 rfl) (h11.is 3 rfl) hlt3), ?_⟩
                  clear hK K
                  try simp only [Act.put, List.getElem_toArray, List.getElem_cons_succ, List.getElem_cons_zero, List.setIfInBounds_toArray, List.set_cons_zero, List.set_cons_succ]
                  refine wpTake_free (i := 9) (v := ?_) rfl (by kernel_rfl) rfl (by kernel_rfl) (by kernel_rfl) (by kernel_rfl) (fun _ _ _ h => h) (by rfl) (fun w' => ?_) ?_
                  rotate_left
                  · go_simp
                    try with_reducible rfl
                  try simp only [Act.put, List.getElem_toArray, List.getElem_cons_succ, List.getElem_cons_zero, List.setIfInBounds_toArray, List.set_cons_zero, List.set_cons_succ]
                  refine wpTake_free (i := 10) (v := ?_) rfl (by kernel_rfl) rfl (by kernel_rfl) (by kernel_rfl) (by kernel_rfl) (fun _ _ _ h => h) (by rfl) (fun w' => ?_) ?_
                  rotate_left
                  · go_simp
                    try with_reducible rfl
                  try simp only [Act.put, List.getElem_toArray, List.getElem_cons_succ, List.getElem_cons_zero, List.setIfInBounds_toArray, List.set_cons_zero, List.set_cons_succ]
                  refine wpTake_free (i := 11) (v := ?_) rfl (by kernel_rfl) rfl (by kernel_rfl) (by kernel_rfl) (by kernel_rfl) (fun _ _ _ h => h) (by rfl) (fun w' => ?_) ?_
                  rotate_left
                  · go_simp
                    try with_reducible rfl
                  try simp only [Act.put, List.getElem_toArray, List.getElem_cons_succ, List.getElem_cons_zero, List.setIfInBounds_toArray, List.set_cons_zero, List.set_cons_succ]
                  refine wpTake_one (i := 13) rfl (by kernel_rfl) (fun K hK => ?_)
                  obtain ⟨z0, z1, z2, z3, zf0, zf1, zf2, zf3⟩ := cells4 (g := wr.heap.size) (h11.at_ 0 rfl)
                  go_simp
                  refine hK _ _ ⟨.inl rfl, ?_⟩
                  clear hK K
                  try simp only [Act.put, List.getElem_toArray, List.getElem_cons_succ, List.getElem_cons_zero, List.setIfInBounds_toArray, List.set_cons_zero, List.set_cons_succ]
                  refine wpTake_free (i := 14) (v := ?_) rfl (by kernel_rfl) rfl (by kernel_rfl) (by kernel_rfl) (by kernel_rfl) (fun _ _ _ h => h) (by rfl) (fun w' => ?_) ?_
                  rotate_left
                  · go_simp
                    try with_reducible rfl
                  try simp only [Act.put, List.getElem_toArray, List.getElem_cons_succ, List.getElem_cons_zero, List.setIfInBounds_toArray, List.set_cons_zero, List.set_cons_succ]
                  refine wpTake_done (by kernel_rfl) ?_
                  go_wp2_with fail
                  go_meet
                  case rel => exact ⟨_, b11, q11, rfl, rfl, (St.store4 (os1 := []) (v0 := .slice b11 Y.sec.length q11) (v1 := .int .i64 Y.left) (v2 := .int .i64 Y.tear) (v3 := .bool Y.stopped) h11).facts (fun P hP => by simp only [List.mem_cons, List.not_mem_nil, or_false] at hP ⊢; rcases hP with rfl | rfl | rfl <;> simp)⟩

              case rest =>
                obtain ⟨gy, by_, qy, rfl, rfl, h12⟩ := hcut
                go_wp2_with (refine wpList_load_row rfl 25 (.tmp 18) rfl gy rfl 25 _ (0, 0) _ (h12.at_ 0 rfl) Try.underlying25 rfl disk_info ?_)
                refine (read_s h12 _ Y (r : Int) (fillL (two[k]).fill 128) 0 HRD.out (h12.get 0 rfl)).mono ?_
                rintro e w13 ⟨b13, q13, rfl, h13⟩
                obtain ⟨_, _, e, _, _, hc⟩ := (h13.is 3 rfl : IsActs _ _ _).out
                cases e
                obtain ⟨_, _, e, -, ac1, ac2, -⟩ := hc k hlt3
                cases e
                clear hc
                go_wp2_with fail
                refine (fill_s h13 _ 128 128 rfl).mono ?_
                rintro e w14 ⟨b14, q14, rfl, h14⟩
                go_wp2_with fail
                refine (same_s h14 _ _ (fillL (two[k]).fill 128) (h14.is 1 rfl) (h14.is 0 rfl)).mono ?_
                rintro e w15 ⟨rfl, h15⟩
                go_wp2_with (first | (refine wpList_load_row rfl 25 (.tmp 18) rfl gy rfl 25 _ (0, 0) _ (h15.at_ 0 rfl) Try.underlying25 rfl disk_info ?_) | (refine wpList_store_row rfl 25 (.tmp 13) (.tmp 155) rfl g5 (dkA by_ qy Y) rfl rfl 25 _ (h15.at_ 1 rfl) disk_info rfl (one4 rfl _ _ _) ?_))
                have h16 := ((h15.setRow (os1 := [(gy, dkB by_ qy Y)]) (cs' := dkA by_ qy Y)).loose (os1 := [])).facts (fs' := [(IsDk · (dkS by_ qy Y) Y), (IsActs · (.slice (some ⟨ab, ao, none⟩) two.length q8) two)]) (fun P hP => by simp only [List.mem_cons, List.not_mem_nil, or_false] at hP ⊢; rcases hP with rfl | rfl <;> simp)
                go_roundw
                case rel => exact ⟨k + 1, Y, by_, qy, by omega, by go_num, hokY, HYP.out.1, HYP.out.2.1, HYP.out.2.2, h16⟩
                case measure => simp [intOf]; omega
            · obtain rfl : k = two.length := by omega
              go_wp2_with fail
              refine (example_any _).mono ?_
              rintro e w16 ⟨rfl, hb⟩
              go_wp2
              go_ret
              exact ⟨rfl, hst.below.trans (hb.mono hst.size)⟩

end Go.Proofs.Ytkfikcppnbfmoaa
