/- The walk over WalMatchesWrite. -/
import Derived.Test.YtnfgapdpnihicaaZRg31
import Derived.Test.YtnfgapdpnihicaaZGE
import Derived.Test.YtnfgapdpnihicaaZLb31
set_option linter.unusedVariables false
set_option linter.unusedSimpArgs false
namespace Go.Proofs.Ytnfgapdpnihicaa
open Go Go.RowKit
open Wl
theorem write_len (d : Dk) (i : Int) (b : List UInt8) : (d.write i b).1.sec.length ≤ d.sec.length := by
  unfold Dk.write
  split
  · simp [Dk.zero]
  · rw [wr_len]
    exact Nat.le_refl _
theorem puts_len : ∀ (l : List (Nat × List UInt8)) (d : Dk), (d.puts l).1.sec.length ≤ d.sec.length
  | [], d => Nat.le_refl _
  | x :: l, d => by
    unfold Dk.puts
    split
    · exact Nat.le_trans (puts_len l _) (write_len _ _ _)
    · exact write_len _ _ _
theorem format_len (d : Dk) (f m : Int) : (d.format f m).1.sec.length ≤ d.sec.length := by
  unfold Dk.format
  split
  · simp [Dk.zero]
  · exact write_len _ _ _
theorem app_len (d : Dk) (f m : Int) (rs : List (List UInt8)) : (d.app f m rs).1.sec.length ≤ d.sec.length := by
  unfold Dk.app
  split
  · simp [Dk.zero]
  split
  · exact Nat.le_refl _
  split
  · simp [Dk.zero]
  split
  · simp [Dk.zero]
  split
  · exact Nat.le_refl _
  split
  · simp [Dk.zero]
  · exact puts_len _ _
section
variable {w0 W : World} {fs : List (World → Prop)}
theorem refFormat_s (h : St w0 W [] fs) {v : Value} {d D : Dk} {f m c : Int} (hc : d.format f m = (D, c)) (hf : -9223372036854775808 ≤ f ∧ f ≤ 9223372036854775807) (hm : -9223372036854775808 ≤ m ∧ m ≤ 9223372036854775807) (hv : IsDk W v d) :
    Calls Try.prog 20 #[v, .int .i64 f, .int .i64 m] W fun e w' => ∃ b q, e = .returned (.tuple #[dkS b q D, .int .i64 c]) ∧ St w0 w' [] ((IsDk · (dkS b q D) D) :: fs) :=
  (refFormat_any W v d hv f m hf hm hc).mono fun e w' ⟨b, q, he, hd, hb⟩ => ⟨b, q, he, (h.call hb).keep (Mono.dk _ _) hd⟩
theorem refApp_s (h : St w0 W [] fs) {v rv : Value} {d D : Dk} {f m c : Int} {rs : List (List UInt8)} (hc : d.app f m rs = (D, c)) (hf : -9223372036854775808 ≤ f ∧ f ≤ 9223372036854775807) (hm : -9223372036854775808 ≤ m ∧ m ≤ 9223372036854775807) (hv : IsDk W v d) (hr : IsLists W rv rs) (hn : rs.length ≤ 1048576) (hl : ∀ r ∈ rs, r.length ≤ 1048576) :
    Calls Try.prog 22 #[v, .int .i64 f, .int .i64 m, rv] W fun e w' => ∃ b q, e = .returned (.tuple #[dkS b q D, .int .i64 c]) ∧ St w0 w' [] ((IsDk · (dkS b q D) D) :: fs) :=
  (refAppend_any W v d hv f m hf hm rv rs hr hn hl hc).mono fun e w' ⟨b, q, he, hd, hb⟩ => ⟨b, q, he, (h.call hb).keep (Mono.dk _ _) hd⟩
end

set_option maxRecDepth 8000 in
set_option maxHeartbeats 8000000 in
theorem matchesWrite_walk (w : World) (v : Value) (d : Dk) (hv : IsDk w v d) (hsd : ∀ s ∈ d.sec, s.length ≤ 140737488351232) (f : Int) (hf : -9223372036854775808 ≤ f ∧ f ≤ 9223372036854775807) (m : Int) (hm : -9223372036854775808 ≤ m ∧ m ≤ 9223372036854775807) (rv : Value) (rs : List (List UInt8)) (hrs : IsLists w rv rs) (hsr : ∀ s ∈ rs, s.length ≤ 140737488351232) :
    Calls Try.prog 4 #[v, .int .i64 f, .int .i64 m, rv] w fun e w' => e = .returned (.bool true) ∧ Below w.heap.size w w' := by
  obtain ⟨bd, qd, rfl⟩ := hv.shape
  obtain ⟨rb, rq, rfl, -, -, -, -⟩ := id hrs.out
  obtain ⟨N, hN⟩ : ∃ N, rs.length = N := ⟨_, rfl⟩
  rw [hN] at hrs ⊢
  have h0 := ((((St.start w).putOld (Mono.lists _ _) hrs).putOld (Mono.dk _ _) hv)).boxC (dkA bd qd d) 24
  have HN := Lib.hid hN
  have HSD := Lib.hid hsd
  have HSR := Lib.hid hsr
  clear hv hsd hsr hrs hN
  go_enter Try.func4, Try.ntmps4
  go_wp2_with fail
  refine (Calls.sV h0 (example_any _)).mono ?_
  rintro e w1 ⟨rfl, h1⟩
  clear h0
  obtain ⟨r, hr⟩ : ∃ r, smallB d rs = r := ⟨_, rfl⟩
  go_wp2_with (refine wpList_load_mid rfl 24 (.tmp 4) rfl w.heap.size 0 rfl [.slice bd d.sec.length qd, .int .i64 d.left, .int .i64 d.tear, .bool d.stopped] _ (h1.is 0 rfl : IsCells _ _ _).range Try.underlying24 rfl rfl ?_)
  refine (small_s h1 hr (h1.is 1 rfl) (h1.is 2 rfl)).mono ?_
  rintro e w2 ⟨rfl, h2⟩
  clear h1
  cases r with
  | false =>
    clear hr
    go_wp2_with fail
    go_ret
    exact ⟨rfl, h2.below⟩
  | true =>
    obtain ⟨hd200, hn200, -, hall⟩ := smallB_use hr (fun s h => Nat.le_trans (HSD.out s h) (by omega)) (fun r h => Nat.le_trans (HSR.out r h) (by omega))
    have HA := Lib.hid (fun r h => Nat.le_trans (hall r h) (show 40000 ≤ 1048576 by omega))
    have hl1 : rs.length ≤ 1048576 := by omega
    have HL := Lib.hid hl1
    obtain ⟨⟨A, c1⟩, hfm⟩ : ∃ r, d.format f m = r := ⟨_, rfl⟩
    obtain ⟨⟨X, c2⟩, hap⟩ : ∃ r, d.app f m rs = r := ⟨_, rfl⟩
    have hA := format_len d f m
    have hX := app_len d f m rs
    rw [hfm] at hA
    rw [hap] at hX
    have HF := Lib.hid hfm
    have HP := Lib.hid hap
    have HX := Lib.hid (And.intro (show A.sec.length ≤ 1048576 by simp only at hA; omega) (show X.sec.length ≤ 1048576 by simp only at hX; omega))
    obtain ⟨n, hn⟩ : ∃ n, sizeL rs = n := ⟨_, rfl⟩
    have HNN := Lib.hid hn
    clear hr hfm hap hA hX hd200 hn200 hall hl1 hn
    go_wp2_with (refine wpList_load_mid rfl 24 (.tmp 4) rfl w.heap.size 0 rfl [.slice bd d.sec.length qd, .int .i64 d.left, .int .i64 d.tear, .bool d.stopped] _ (h2.is 0 rfl : IsCells _ _ _).range Try.underlying24 rfl rfl ?_)
    refine (fmt_s h2 HF.out hf hm (h2.get 1 rfl)).mono ?_
    rintro e w3 ⟨b3, q3, rfl, h3⟩
    clear h2
    go_upto_region 5 with (refine wpList_store_row rfl 24 (.tmp 10) (.tmp 29) rfl w3.heap.size (dkA b3 q3 A) rfl rfl 24 _ (heap_alloc_new _ _) disk_info rfl (one4 rfl _ _ _) ?_)
    have h4 := (h3.newVar #[.slice none 0 0, .int .i64 0, .int .i64 0, .bool false] (dkA b3 q3 A) 24).shut
    clear h3
    generalize World.setRow _ _ _ = W4 at h4 ⊢
    generalize w3.heap.size = g10 at h4 ⊢
    go_wp2_with (refine wpList_load_mid rfl 24 (.tmp 4) rfl w.heap.size 0 rfl [.slice bd d.sec.length qd, .int .i64 d.left, .int .i64 d.tear, .bool d.stopped] _ (h4.is 2 rfl : IsCells _ _ _).range Try.underlying24 rfl rfl ?_)
    refine (refFormat_s h4 HF.out hf hm (h4.is 3 rfl)).mono ?_
    rintro e w5 ⟨b5, q5, rfl, h5⟩
    clear h4
    go_upto_region 6 with (refine wpList_store_row rfl 24 (.tmp 12) (.tmp 36) rfl w5.heap.size (dkA b5 q5 A) rfl rfl 24 _ (heap_alloc_new _ _) disk_info rfl (one4 rfl _ _ _) ?_)
    have h6 := (h5.newVar #[.slice none 0 0, .int .i64 0, .int .i64 0, .bool false] (dkA b5 q5 A) 24).shut
    clear h5
    generalize World.setRow _ _ _ = W6 at h6 ⊢
    generalize w5.heap.size = g12 at h6 ⊢
    go_wp2_with (refine wpList_load_mid rfl 24 (.tmp 4) rfl w.heap.size 0 rfl [.slice bd d.sec.length qd, .int .i64 d.left, .int .i64 d.tear, .bool d.stopped] _ (h6.is 4 rfl : IsCells _ _ _).range Try.underlying24 rfl rfl ?_)
    refine (app_s h6 HP.out hf hm (h6.get 5 rfl) (h6.is 6 rfl) HL.out HA.out).mono ?_
    rintro e w7 ⟨b7, q7, rfl, h7⟩
    clear h6
    go_upto_region 7 with (refine wpList_store_row rfl 24 (.tmp 14) (.tmp 44) rfl w7.heap.size (dkA b7 q7 X) rfl rfl 24 _ (heap_alloc_new _ _) disk_info rfl (one4 rfl _ _ _) ?_)
    have h8 := (h7.newVar #[.slice none 0 0, .int .i64 0, .int .i64 0, .bool false] (dkA b7 q7 X) 24).shut
    clear h7
    generalize World.setRow _ _ _ = W8 at h8 ⊢
    generalize w7.heap.size = g14 at h8 ⊢
    go_wp2_with (refine wpList_load_mid rfl 24 (.tmp 4) rfl w.heap.size 0 rfl [.slice bd d.sec.length qd, .int .i64 d.left, .int .i64 d.tear, .bool d.stopped] _ (h8.is 6 rfl : IsCells _ _ _).range Try.underlying24 rfl rfl ?_)
    refine (refApp_s h8 HP.out hf hm (h8.is 7 rfl) (h8.is 8 rfl) HL.out HA.out).mono ?_
    rintro e w9 ⟨b9, q9, rfl, h9⟩
    clear h8
    go_upto_region 8 with (refine wpList_store_row rfl 24 (.tmp 16) (.tmp 52) rfl w9.heap.size (dkA b9 q9 X) rfl rfl 24 _ (heap_alloc_new _ _) disk_info rfl (one4 rfl _ _ _) ?_)
    have h10 := (h9.newVar #[.slice none 0 0, .int .i64 0, .int .i64 0, .bool false] (dkA b9 q9 X) 24).shut
    clear h9
    generalize World.setRow _ _ _ = W10 at h10 ⊢
    generalize w9.heap.size = g16 at h10 ⊢
    have e1 : (c1 == c1) = true := by simp
    have e2 : (c2 == c2) = true := by simp
    have e3 : ((n : Int) == (n : Int)) = true := by simp
    obtain ⟨x0, x1, x2, x3⟩ := (h10.is 6 rfl : IsCells _ _ _).c4
    obtain ⟨y0, y1, y2, y3⟩ := (h10.is 4 rfl : IsCells _ _ _).c4
    go_wp2_with fail
    refine (Calls.sV h10 (sameDisk_eq _ _ _ A HX.out.1 (h10.is 7 rfl) (h10.is 5 rfl))).mono ?_
    rintro e w11 ⟨rfl, h11⟩
    clear h10 x0 x1 x2 x3 y0 y1 y2 y3
    obtain ⟨x0, x1, x2, x3⟩ := (h11.is 2 rfl : IsCells _ _ _).c4
    obtain ⟨y0, y1, y2, y3⟩ := (h11.is 0 rfl : IsCells _ _ _).c4
    go_wp2_with fail
    refine (Calls.sV h11 (sameDisk_eq _ _ _ X HX.out.2 (h11.is 3 rfl) (h11.is 1 rfl))).mono ?_
    rintro e w12 ⟨rfl, h12⟩
    clear h11 x0 x1 x2 x3 y0 y1 y2 y3
    go_wp2_with fail
    refine (sectors_s h12 HNN.out (h12.is 10 rfl) HL.out HA.out).mono ?_
    rintro e w13 ⟨rfl, h13⟩
    clear h12
    have hsec := refSectors_any w13 (.slice rb N rq) rs (h13.is 10 rfl) HL.out HA.out
    rw [show needs (stream rs).length = n from HNN.out] at hsec
    have HSEC := Lib.hid hsec
    clear hsec
    go_wp2_with fail
    refine (Calls.sV h13 HSEC.out).mono ?_
    rintro e w14 ⟨rfl, h14⟩
    clear h13
    go_wp2_with fail
    go_ret
    exact ⟨rfl, h14.below⟩
end Go.Proofs.Ytnfgapdpnihicaa
