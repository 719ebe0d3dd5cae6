/- The walk of chapter 30's worked examples, which are true. -/
import Derived.Test.YtkfikcppnbfmoaaChecked
import Derived.Test.YtkfikcppnbfmoaaEx30
namespace Go.Proofs.Ytkfikcppnbfmoaa
open Go.RowKit

/-- A new variable with a disk, and a code. -/
def NewDk (w0 : World) (os : List (Nat × Obj)) (D : Dk) (c : Int) (x y : Value) (wc : World) : Prop := ∃ g b q fs, x = .pointer (some ⟨g, 0, none⟩) ∧ y = .int .i64 c ∧ St w0 wc ((g, dkB b q D) :: os) ((IsDk · (dkS b q D) D) :: fs)
/-- A disk stored anew in a variable, and a code; some facts stay. -/
def SetDk (w0 : World) (os1 os2 : List (Nat × Obj)) (g : Nat) (D : Dk) (c : Int) (fs0 : List (World → Prop)) (y : Value) (wc : World) : Prop := ∃ b q, y = .int .i64 c ∧ St w0 wc (os1 ++ (g, dkB b q D) :: os2) ((IsDk · (dkS b q D) D) :: fs0)

set_option maxHeartbeats 8000000 in
set_option maxRecDepth 100000 in
theorem example_any (w : World) :
    Calls Try.prog 24 #[] w fun e w' => e = .returned (.bool true) ∧ Below w.heap.size w w' := by
  have h0 := St.start w
  go_enter Try.func24, Try.ntmps24
  go_wp2_with fail
  refine (new_s h0 0 Dk.zero 1 (by decide +kernel)).mono ?_
  rintro e w1 ⟨b1, q1, rfl, h1⟩
  go_upto_region 2 with (refine wpList_store_row rfl 25 (.tmp 1) (.tmp 26) rfl w1.heap.size (dkA b1 q1 Dk.zero) rfl rfl 25 _ (heap_alloc_new _ _) disk_info rfl (one4 rfl _ _ _) ?_)
  replace h1 := h1.newVar #[.slice none 0 0, .int .i64 0, .int .i64 0, .bool false] (dkA b1 q1 Dk.zero) 25
  generalize World.setRow _ _ _ = W1 at h1 ⊢
  generalize w1.heap.size = g1 at h1 ⊢
  go_wp2_with fail
  refine (new_s h1 4097 Dk.zero 1 (by decide +kernel)).mono ?_
  rintro e w2 ⟨b2, q2, rfl, h2⟩
  go_upto_region 3 with (refine wpList_store_row rfl 25 (.tmp 3) (.tmp 30) rfl w2.heap.size (dkA b2 q2 Dk.zero) rfl rfl 25 _ (heap_alloc_new _ _) disk_info rfl (one4 rfl _ _ _) ?_)
  replace h2 := h2.newVar #[.slice none 0 0, .int .i64 0, .int .i64 0, .bool false] (dkA b2 q2 Dk.zero) 25
  generalize World.setRow _ _ _ = W2 at h2 ⊢
  generalize w2.heap.size = g2 at h2 ⊢
  go_wp2_with fail
  refine (new_s h2 2 exD 0 exD_new).mono ?_
  rintro e w3 ⟨b3, q3, rfl, h3⟩
  go_upto_region 4 with (refine wpList_store_row rfl 25 (.tmp 5) (.tmp 34) rfl w3.heap.size (dkA b3 q3 exD) rfl rfl 25 _ (heap_alloc_new _ _) disk_info rfl (one4 rfl _ _ _) ?_)
  replace h3 := h3.newVar #[.slice none 0 0, .int .i64 0, .int .i64 0, .bool false] (dkA b3 q3 exD) 25
  generalize World.setRow _ _ _ = W3 at h3 ⊢
  generalize w3.heap.size = g3 at h3 ⊢
  obtain ⟨c0, c1, c2, c3, -, -⟩ := dkO_cells (h3.at_ 0 rfl)
  go_cut [7, 8] from 36 to 41 (NewDk w [(g3, dkB b3 q3 exD), (g2, dkB b2 q2 Dk.zero), (g1, dkB b1 q1 Dk.zero)] exX 0)
  case first =>
    go_region_held3 (fun w' => w'.cell? ⟨g3, 0, none⟩ = some (.slice b3 exD.sec.length q3) ∧ w'.cell? ⟨g3, 1, none⟩ = some (.int .i64 exD.left) ∧ w'.cell? ⟨g3, 2, none⟩ = some (.int .i64 exD.tear) ∧ w'.cell? ⟨g3, 3, none⟩ = some (.bool exD.stopped)) (go_keep) (first | (go_at_call 17; first | (refine (fill_s h3.drew 9 128 128 rfl).mono ?_; rintro e w4 ⟨b4, q4, rfl, h4⟩; obtain ⟨m0, m1, m2, m3, -, -⟩ := dkO_cells (h4.find (g := g3) (o := dkB b3 q3 exD) (by simp))) | (refine (fill_s (h3.alloc dkZ).drew 9 128 128 rfl).mono ?_; rintro e w4 ⟨b4, q4, rfl, h4⟩; obtain ⟨m0, m1, m2, m3, -, -⟩ := dkO_cells (h4.find (g := g3) (o := dkB b3 q3 exD) (by simp)))) | (go_at_call 16; first | (refine (write_s h4 _ exD 1 _ (fillL 9 128) exX 0 exX_code (h4.get 1 rfl) (h4.is 0 rfl)).mono ?_; rintro e w5 ⟨b5, q5, rfl, h5⟩; obtain ⟨z0, z1, z2, z3, zf0, zf1, zf2, zf3⟩ := cells4 (h5.at_ 0 rfl); obtain ⟨hn1, hn2⟩ := h5.ne01; simp only at hn1 hn2; obtain ⟨p0, p1, p2, p3, -, -⟩ := dkO_cells (h5.find (g := g3) (o := dkB b3 q3 exD) (by simp))) | (refine (write_s (h4.alloc dkZ) _ exD 1 _ (fillL 9 128) exX 0 exX_code ((h4.alloc dkZ).get 1 rfl) ((h4.alloc dkZ).is 0 rfl)).mono ?_; rintro e w5 ⟨b5, q5, rfl, h5⟩; obtain ⟨z0, z1, z2, z3, zf0, zf1, zf2, zf3⟩ := cells4 (h5.at_ 0 rfl); obtain ⟨hn1, hn2⟩ := h5.ne01; simp only at hn1 hn2; obtain ⟨p0, p1, p2, p3, -, -⟩ := dkO_cells (h5.find (g := g3) (o := dkB b3 q3 exD) (by simp)))))
    all_goals (go_wp2_with fail; go_meet; case rel => first | exact ⟨_, b5, q5, _, rfl, rfl, h5.alloc _⟩ | exact ⟨_, b5, q5, _, rfl, rfl, St.store4 (os1 := []) h5⟩)
  case rest =>
    obtain ⟨g4, b4, q4, fs4, rfl, rfl, h4⟩ := hcut
    replace h4 := h4.facts (fs' := [(IsDk · (dkS b4 q4 exX) exX)]) (fun P hP => List.mem_cons.2 (.inl (List.mem_singleton.1 hP)))
    clear h3 h2 h1 c0 c1 c2 c3
    go_wp2_with (refine wpList_load_row rfl 25 (.tmp 7) rfl g4 rfl 25 _ (0, 0) _ (h4.at_ 0 rfl) Try.underlying25 rfl disk_info ?_)
    refine (read_s h4 _ exX 1 (fillL 9 128) 0 exB (h4.get 0 rfl)).mono ?_
    rintro e w5 ⟨b5, q5, rfl, h5⟩
    go_wp2_with (refine wpList_load_row rfl 25 (.tmp 7) rfl g4 rfl 25 _ (0, 0) _ (h5.at_ 0 rfl) Try.underlying25 rfl disk_info ?_)
    refine (read_s h5 _ exX 0 (List.replicate 128 0) 0 exC (h5.get 1 rfl)).mono ?_
    rintro e w6 ⟨b6, q6, rfl, h6⟩
    go_wp2_with (refine wpList_load_row rfl 25 (.tmp 7) rfl g4 rfl 25 _ (0, 0) _ (h6.at_ 0 rfl) Try.underlying25 rfl disk_info ?_)
    refine (fail_s h6 _ exX 1 3 exF 0 exF_code (h6.get 2 rfl)).mono ?_
    rintro e w7 ⟨b7, q7, rfl, h7⟩
    go_upto_region 8 with (refine wpList_store_row rfl 25 (.tmp 13) (.tmp 55) rfl w7.heap.size (dkA b7 q7 exF) rfl rfl 25 _ (heap_alloc_new _ _) disk_info rfl (one4 rfl _ _ _) ?_)
    replace h7 := h7.newVar #[.slice none 0 0, .int .i64 0, .int .i64 0, .bool false] (dkA b7 q7 exF) 25
    generalize World.setRow _ _ _ = W7 at h7 ⊢
    generalize w7.heap.size = g7 at h7 ⊢
    clear h4 h5 h6
    go_cut [15] from 57 to 62 (SetDk w [] [(g4, dkB b4 q4 exX), (g3, dkB b3 q3 exD), (g2, dkB b2 q2 Dk.zero), (g1, dkB b1 q1 Dk.zero)] g7 exY1 0 [(IsBytes · (.slice b6 (List.replicate 128 (0 : UInt8)).length q6) (List.replicate 128 0)), (IsBytes · (.slice b5 (fillL 9 128).length q5) (fillL 9 128))])
    case first =>
      obtain ⟨c0, c1, c2, c3, -, -⟩ := dkO_cells (h7.at_ 0 rfl)
      go_region_with (first | (go_at_call 17; refine (fill_s h7.drew 7 128 128 rfl).mono ?_; rintro e w8 ⟨b8, q8, rfl, h8⟩; obtain ⟨m0, m1, m2, m3, -, -⟩ := dkO_cells (h8.at_ 0 rfl)) | (go_at_call 16; refine (write_s h8 _ exF 0 _ (fillL 7 128) exY1 0 exY1_code (h8.get 1 rfl) (h8.is 0 rfl)).mono ?_; rintro e w9 ⟨b9, q9, rfl, h9⟩; obtain ⟨z0, z1, z2, z3, zf0, zf1, zf2, zf3⟩ := cells4 (h9.at_ 0 rfl)))
      all_goals (go_wp2_with fail; go_meet; case rel => exact ⟨b9, q9, rfl, (St.store4 (os1 := []) h9).facts (fun P hP => by simp only [List.mem_cons, List.not_mem_nil, or_false] at hP ⊢; rcases hP with rfl | rfl | rfl <;> simp)⟩)
    case rest =>
      obtain ⟨bp1, qp1, rfl, hp1⟩ := hcut
      clear h7
      go_wp2_with fail
      go_cut [16] from 63 to 68 (SetDk w [] [(g4, dkB b4 q4 exX), (g3, dkB b3 q3 exD), (g2, dkB b2 q2 Dk.zero), (g1, dkB b1 q1 Dk.zero)] g7 exY2 300 [(IsBytes · (.slice b6 (List.replicate 128 (0 : UInt8)).length q6) (List.replicate 128 0)), (IsBytes · (.slice b5 (fillL 9 128).length q5) (fillL 9 128))])
      case first =>
        obtain ⟨c0, c1, c2, c3, -, -⟩ := dkO_cells (hp1.at_ 0 rfl)
        go_region_with (first | (go_at_call 17; refine (fill_s hp1.drew 7 128 128 rfl).mono ?_; rintro e w8 ⟨b8, q8, rfl, h8⟩; obtain ⟨m0, m1, m2, m3, -, -⟩ := dkO_cells (h8.at_ 0 rfl)) | (go_at_call 16; refine (write_s h8 _ exY1 1 _ (fillL 7 128) exY2 300 exY2_code (h8.get 1 rfl) (h8.is 0 rfl)).mono ?_; rintro e w9 ⟨b9, q9, rfl, h9⟩; obtain ⟨z0, z1, z2, z3, zf0, zf1, zf2, zf3⟩ := cells4 (h9.at_ 0 rfl)))
        all_goals (go_wp2_with fail; go_meet; case rel => exact ⟨b9, q9, rfl, (St.store4 (os1 := []) h9).facts (fun P hP => by simp only [List.mem_cons, List.not_mem_nil, or_false] at hP ⊢; rcases hP with rfl | rfl | rfl <;> simp)⟩)
      case rest =>
        obtain ⟨bp2, qp2, rfl, hp2⟩ := hcut
        clear hp1
        go_wp2_with fail
        go_cut [17] from 69 to 74 (SetDk w [] [(g4, dkB b4 q4 exX), (g3, dkB b3 q3 exD), (g2, dkB b2 q2 Dk.zero), (g1, dkB b1 q1 Dk.zero)] g7 exY3 300 [(IsBytes · (.slice b6 (List.replicate 128 (0 : UInt8)).length q6) (List.replicate 128 0)), (IsBytes · (.slice b5 (fillL 9 128).length q5) (fillL 9 128))])
        case first =>
          obtain ⟨c0, c1, c2, c3, -, -⟩ := dkO_cells (hp2.at_ 0 rfl)
          go_region_with (first | (go_at_call 17; refine (fill_s hp2.drew 1 128 128 rfl).mono ?_; rintro e w8 ⟨b8, q8, rfl, h8⟩; obtain ⟨m0, m1, m2, m3, -, -⟩ := dkO_cells (h8.at_ 0 rfl)) | (go_at_call 16; refine (write_s h8 _ exY2 0 _ (fillL 1 128) exY3 300 exY3_code (h8.get 1 rfl) (h8.is 0 rfl)).mono ?_; rintro e w9 ⟨b9, q9, rfl, h9⟩; obtain ⟨z0, z1, z2, z3, zf0, zf1, zf2, zf3⟩ := cells4 (h9.at_ 0 rfl)))
          all_goals (go_wp2_with fail; go_meet; case rel => exact ⟨b9, q9, rfl, (St.store4 (os1 := []) h9).facts (fun P hP => by simp only [List.mem_cons, List.not_mem_nil, or_false] at hP ⊢; rcases hP with rfl | rfl | rfl <;> simp)⟩)
        case rest =>
          obtain ⟨bp3, qp3, rfl, hp3⟩ := hcut
          clear hp2
          go_wp2_with (refine wpList_load_row rfl 25 (.tmp 13) rfl g7 rfl 25 _ (0, 0) _ (hp3.at_ 0 rfl) Try.underlying25 rfl disk_info ?_)
          refine (read_s hp3 _ exY3 0 [] 300 exO (hp3.get 0 rfl)).mono ?_
          rintro e w10 ⟨b10, q10, rfl, h10⟩
          go_wp2_with (refine wpList_load_row rfl 25 (.tmp 13) rfl g7 rfl 25 _ (0, 0) _ (h10.at_ 0 rfl) Try.underlying25 rfl disk_info ?_)
          refine (restart_s h10 _ exY3 exR rfl (h10.get 1 rfl)).mono ?_
          rintro e w11 ⟨b11, q11, rfl, h11⟩
          go_upto_region 13 with (refine wpList_store_row rfl 25 (.tmp 13) (.tmp 81) rfl g7 (dkA b11 q11 exR) rfl rfl 25 _ (h11.at_ 0 rfl) disk_info rfl (one4 rfl _ _ _) ?_)
          have h12 := h11.setRow (os1 := []) (cs' := dkA b11 q11 exR)
          generalize World.setRow _ _ _ = w12 at h12 ⊢
          go_wp2_with (refine wpList_load_row rfl 25 (.tmp 13) rfl g7 rfl 25 _ (0, 0) _ (h12.at_ 0 rfl) Try.underlying25 rfl disk_info ?_)
          refine (read_s h12 _ exR 1 exSl 0 exS (h12.get 0 rfl)).mono ?_
          rintro e w13 ⟨b13, q13, rfl, h13⟩
          rw [exSl_len]
          simp only [exSl_len] at h13
          go_wp2_with (refine wpList_load_row rfl 25 (.tmp 13) rfl g7 rfl 25 _ (0, 0) _ (h13.at_ 0 rfl) Try.underlying25 rfl disk_info ?_)
          refine (read_s h13 _ exR 0 (fillL 7 128) 0 exT (h13.get 1 rfl)).mono ?_
          rintro e w14 ⟨b14, q14, rfl, h14⟩
          replace h14 := h14.facts (fs' := [(IsBytes · (.slice b14 (fillL 7 128).length q14) (fillL 7 128)), (IsBytes · (.slice b13 128 q13) exSl), (IsBytes · (.slice b6 (List.replicate 128 (0 : UInt8)).length q6) (List.replicate 128 0)), (IsBytes · (.slice b5 (fillL 9 128).length q5) (fillL 9 128))]) (fun P hP => by simp only [List.mem_cons, List.not_mem_nil, or_false] at hP ⊢; rcases hP with rfl | rfl | rfl | rfl <;> simp)
          clear h13 h12 h11 h10 hp3
          have hs := h14.drew
          have hq13 : 128 ≤ q13 ∧ ∃ sb so, b13 = some ⟨sb, so, none⟩ := by
            obtain ⟨_, _, e, hxl, hl, _, _, hc⟩ := (h14.is 1 rfl : IsBytes _ (.slice b13 128 q13) exSl)
            cases e
            obtain ⟨b, o, e, -⟩ := hc 0 (by rw [hxl, exSl_len]; omega)
            rw [exSl_len] at hl
            exact ⟨hl, b, o, e⟩
          obtain ⟨hq13, sb, so, rfl⟩ := hq13
          have hq4 : (3 : Int) ≤ (q13 : Int) := by omega
          have hq5 : ¬ q13 = 3 := by omega
          have hlen2 : 3 ≤ exSl.length := by rw [exSl_len]; omega
          have hq3 : 3 ≤ q13 := by omega
          obtain ⟨mc, hmc⟩ : ∃ mc, mc = (List.map u8v (List.replicate 128 0)).toArray := ⟨_, rfl⟩
          have hmk : ∀ W : World, (Instr.makeSlice 34 (.int .i64 128) (.int .i64 128)).run Try.prog W = .ok (.slice (some ⟨W.heap.size, 0, none⟩) 128 128) (W.alloc (.cells mc 5)) := by rw [hmc]; exact run_make128
          have hmb : ∀ W : World, IsBytes (W.alloc (.cells mc 5)) (.slice (some ⟨W.heap.size, 0, none⟩) 128 128) (List.replicate 128 0) := fun W => by
            have := IsBytes.new W 5 (0, 0) (List.replicate 128 0) (by simp [maxLen])
            rw [← hmc] at this
            simpa only [List.length_replicate] using this
          have HMB := Lib.hid hmb
          clear hmc hmb
          have hsd : ∀ W : World, IsBytes W (.slice (some ⟨sb, so, none⟩) 128 q13) exSl → IsBytes W (.slice (some ⟨sb, so + 3, none⟩) 125 (q13 - 3)) (fillL 12 125) := fun W h => by
            have := h.from_ 3 hlen2
            rw [if_neg hq5, exSl_drop] at this
            exact this
          have hst : ∀ W : World, IsBytes W (.slice (some ⟨sb, so, none⟩) 128 q13) exSl → IsBytes W (.slice (some ⟨sb, so, none⟩) 3 q13) (fillL 7 3) := fun W h => by
            have := h.take 3 hlen2
            rwa [exSl_take] at this
          have HSD := Lib.hid hsd
          have HST := Lib.hid hst
          clear hsd hst
          have HZ6 := Lib.hid (fun (W' : World) (h : IsBytes W' (.slice b6 (List.replicate 128 (0 : UInt8)).length q6) (List.replicate 128 0)) => (show IsBytes W' (.slice b6 128 q6) (List.replicate 128 0) from by rwa [List.length_replicate] at h))
          generalize hL0 : exSl = S0 at *
          generalize exR = dR at *
          generalize exY3 = dY3 at *
          generalize exY2 = dY2 at *
          generalize exY1 = dY1 at *
          generalize exF = dF at *
          generalize exX = dX at *
          generalize exD = dD at *
          generalize Dk.zero = dZ at *
          generalize hL9 : fillL 9 128 = L9 at *
          generalize hL7 : fillL 7 128 = L7 at *
          generalize hL3 : fillL 7 3 = L3 at *
          generalize hL5 : fillL 12 125 = L5 at *
          generalize hLZ : List.replicate 128 (0 : UInt8) = LZ at *
          have F9 : Hid (∀ W' fs, St w W' ((g7, dkB b11 q11 dR) :: [(g4, dkB b4 q4 dX), (g3, dkB b3 q3 dD), (g2, dkB b2 q2 dZ), (g1, dkB b1 q1 dZ)]) fs → Calls Try.prog 17 #[.int .u8 9, .int .i64 128] W' fun e w' => ∃ bs q, e = .returned (.slice bs L9.length q) ∧ St w w' ((g7, dkB b11 q11 dR) :: [(g4, dkB b4 q4 dX), (g3, dkB b3 q3 dD), (g2, dkB b2 q2 dZ), (g1, dkB b1 q1 dZ)]) ((IsBytes · (.slice bs L9.length q) L9) :: fs)) := Lib.hid (fun W' fs h => fill_l h 9 9 128 rfl L9 hL9)
          have F7 : Hid (∀ W' fs, St w W' ((g7, dkB b11 q11 dR) :: [(g4, dkB b4 q4 dX), (g3, dkB b3 q3 dD), (g2, dkB b2 q2 dZ), (g1, dkB b1 q1 dZ)]) fs → Calls Try.prog 17 #[.int .u8 7, .int .i64 128] W' fun e w' => ∃ bs q, e = .returned (.slice bs L7.length q) ∧ St w w' ((g7, dkB b11 q11 dR) :: [(g4, dkB b4 q4 dX), (g3, dkB b3 q3 dD), (g2, dkB b2 q2 dZ), (g1, dkB b1 q1 dZ)]) ((IsBytes · (.slice bs L7.length q) L7) :: fs)) := Lib.hid (fun W' fs h => fill_l h 7 7 128 rfl L7 hL7)
          have F3 : Hid (∀ W' fs, St w W' ((g7, dkB b11 q11 dR) :: [(g4, dkB b4 q4 dX), (g3, dkB b3 q3 dD), (g2, dkB b2 q2 dZ), (g1, dkB b1 q1 dZ)]) fs → Calls Try.prog 17 #[.int .u8 7, .int .i64 3] W' fun e w' => ∃ bs q, e = .returned (.slice bs L3.length q) ∧ St w w' ((g7, dkB b11 q11 dR) :: [(g4, dkB b4 q4 dX), (g3, dkB b3 q3 dD), (g2, dkB b2 q2 dZ), (g1, dkB b1 q1 dZ)]) ((IsBytes · (.slice bs L3.length q) L3) :: fs)) := Lib.hid (fun W' fs h => fill_l h 7 7 3 rfl L3 hL3)
          have F5 : Hid (∀ W' fs, St w W' ((g7, dkB b11 q11 dR) :: [(g4, dkB b4 q4 dX), (g3, dkB b3 q3 dD), (g2, dkB b2 q2 dZ), (g1, dkB b1 q1 dZ)]) fs → Calls Try.prog 17 #[.int .u8 12, .int .i64 125] W' fun e w' => ∃ bs q, e = .returned (.slice bs L5.length q) ∧ St w w' ((g7, dkB b11 q11 dR) :: [(g4, dkB b4 q4 dX), (g3, dkB b3 q3 dD), (g2, dkB b2 q2 dZ), (g1, dkB b1 q1 dZ)]) ((IsBytes · (.slice bs L5.length q) L5) :: fs)) := Lib.hid (fun W' fs h => fill_l h 12 12 125 rfl L5 hL5)
          clear hL0 hL9 hL7 hL3 hL5 hLZ h14
          replace hs : St w _ ((g7, dkB b11 q11 dR) :: [(g4, dkB b4 q4 dX), (g3, dkB b3 q3 dD), (g2, dkB b2 q2 dZ), (g1, dkB b1 q1 dZ)]) _ := hs
          go_wp2_with fail
          go_region_held3 (fun _ => True) (trivial) (first | (go_at_call 17; first | ((with_reducible refine (F9.out _ _ hs).mono ?_); rintro e ww ⟨bz, qz, rfl, hs⟩) | ((with_reducible refine (F3.out _ _ hs).mono ?_); rintro e ww ⟨bz, qz, rfl, hs⟩) | ((with_reducible refine (F5.out _ _ hs).mono ?_); rintro e ww ⟨bz, qz, rfl, hs⟩) | ((with_reducible refine (F7.out _ _ hs).mono ?_); rintro e ww ⟨bz, qz, rfl, hs⟩)) | (go_at_call 15; first | ((with_reducible refine (same_s hs _ _ L9 (hs.is 4 rfl) (hs.is 0 rfl)).mono ?_); rintro e ww ⟨rfl, hs⟩; replace hs := hs.pop) | ((with_reducible refine (same_s (hs.box _) _ _ LZ (HZ6.out _ ((hs.box _).is 2 rfl)) (HMB.out _)).mono ?_); rintro e ww ⟨rfl, hs⟩) | ((with_reducible refine (same_s hs _ _ L3 (HST.out _ (hs.is 2 rfl)) (hs.is 0 rfl)).mono ?_); rintro e ww ⟨rfl, hs⟩; replace hs := hs.pop) | ((with_reducible refine (same_s hs _ _ L5 (HSD.out _ (hs.is 2 rfl)) (hs.is 0 rfl)).mono ?_); rintro e ww ⟨rfl, hs⟩; replace hs := hs.pop) | ((with_reducible refine (same_s hs _ _ L7 (hs.is 1 rfl) (hs.is 0 rfl)).mono ?_); rintro e ww ⟨rfl, hs⟩; replace hs := hs.pop)))
          go_wp2
          go_ret
          exact ⟨rfl, hs.below⟩

end Go.Proofs.Ytkfikcppnbfmoaa
