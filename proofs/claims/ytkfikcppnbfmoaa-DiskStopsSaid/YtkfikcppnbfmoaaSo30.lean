/- The walk of the law DiskStops. -/
import Derived.Test.YtkfikcppnbfmoaaChecked
import Derived.Test.YtkfikcppnbfmoaaPc30
import Derived.Test.YtkfikcppnbfmoaaRegO
import Derived.BigQuiet
set_option linter.unusedVariables false
namespace Go.Proofs.Ytkfikcppnbfmoaa
open Go.RowKit

/-- The disk that stops (D) and the one that shall be (X), after i writes. -/
structure StpR (n many part i : Nat) (D X : Dk) : Prop where
  ok : X.Ok
  okD : D.Ok
  len : X.sec.length = n
  left : X.left = -1
  tear : X.tear = 0
  run : X.stopped = false
  sec : D.sec = X.sec
  tearD : D.tear = part
  before : i ≤ many → D.stopped = false ∧ D.left = (many : Int) - i
  after : many < i → D.stopped = true
theorem dk_ext {a b : Dk} (h1 : a.sec = b.sec) (h2 : a.left = b.left) (h3 : a.tear = b.tear) (h4 : a.stopped = b.stopped) : a = b := by
  cases a; cases b; simp only at h1 h2 h3 h4; subst h1 h2 h3 h4; rfl
section
variable {n many part i : Nat} {D X : Dk}
theorem StpR.done (h : StpR n many part i D X) : D.restart = X := by
  rw [(dk_restart_ok h.okD).1]
  exact dk_ext h.sec h.left.symm h.tear.symm h.run.symm
theorem StpR.step_lt (h : StpR n many part i D X) (hi : i < many) (hp : part ≤ 128) {r : Nat} (hr : r < n) {b : List UInt8} (hb : b.length = 128) : ∃ D' X', D.write r b = (D', 0) ∧ X.write r b = (X', 0) ∧ StpR n many part (i + 1) D' X' := by
  obtain ⟨h1, h2⟩ := h.before (by omega)
  have hrX : r < X.sec.length := by rw [h.len]; exact hr
  have hrD : r < D.sec.length := by rw [h.sec]; exact hrX
  obtain ⟨e1, k1, l1⟩ := dk_write_ok h.okD r hrD b hb
  obtain ⟨e2, k2, l2⟩ := dk_write_ok h.ok r hrX b hb
  have f2 := dk_wr_free h.run h.left r hrX (h.ok.size r hrX) b hb
  have f1 : D.wr r b = ({ D with sec := putAt D.sec r b, left := D.left - 1 }, 0) := by
    unfold Dk.wr
    rw [if_neg (by simp [h1]), if_neg (by omega), if_pos (by omega)]
  have hsec : putAt D.sec r b = X.sec.set r b := by
    unfold putAt
    rw [h.sec]
    congr 1
    rw [List.drop_of_length_le, List.append_nil]
    rw [List.getD_eq_getElem?_getD, List.getElem?_eq_getElem hrX, Option.getD_some, h.ok.size r hrX]
    omega
  rw [f1] at e1 k1
  rw [f2] at e2 k2
  refine ⟨_, _, e1, e2, ⟨k2, k1, by simp [h.len], h.left, h.tear, h.run, hsec, h.tearD, fun _ => ⟨h1, by simp only; omega⟩, fun _ => by omega⟩⟩
theorem StpR.step_eq (h : StpR n many part i D X) (hi : i = many) (hp : part ≤ 128) {r : Nat} (hr : r < n) {b : List UInt8} (hb : b.length = 128) : ∃ D' X' old, D.write r b = (D', 300) ∧ X.read r = (old, 0) ∧ old.length = 128 ∧ X.write r (b.take part ++ old.drop part) = (X', 0) ∧ StpR n many part (i + 1) D' X' := by
  obtain ⟨h1, h2⟩ := h.before (by omega)
  have hrX : r < X.sec.length := by rw [h.len]; exact hr
  have hrD : r < D.sec.length := by rw [h.sec]; exact hrX
  have h128 := h.ok.size r hrX
  have hpl : (b.take part).length = part := by rw [List.length_take]; omega
  have hnl : (b.take part ++ (X.sec[r]).drop part).length = 128 := by rw [List.length_append, hpl, List.length_drop, h128]; omega
  obtain ⟨e1, k1, l1⟩ := dk_write_ok h.okD r hrD b hb
  obtain ⟨e2, k2, l2⟩ := dk_write_ok h.ok r hrX _ hnl
  have f2 := dk_wr_free h.run h.left r hrX h128 _ hnl
  have f1 : D.wr r b = ({ D with sec := putAt D.sec r (b.take D.tear.toNat), stopped := true }, 300) := by
    unfold Dk.wr
    rw [if_neg (by simp [h1]), if_pos (by omega)]
  have hsec : putAt D.sec r (b.take D.tear.toNat) = X.sec.set r (b.take part ++ (X.sec[r]).drop part) := by
    unfold putAt
    rw [h.sec, h.tearD, Int.toNat_natCast, hpl, List.getD_eq_getElem?_getD, List.getElem?_eq_getElem hrX, Option.getD_some]
  rw [f1] at e1 k1
  rw [f2] at e2 k2
  refine ⟨_, _, X.sec[r], e1, dk_read_ok h.ok h.run r hrX, h128, e2, ⟨k2, k1, by simp [h.len], h.left, h.tear, h.run, hsec, h.tearD, fun _ => by omega, fun _ => rfl⟩⟩
theorem StpR.step_gt (h : StpR n many part i D X) (hi : many < i) {r : Nat} (hr : r < n) {b : List UInt8} (hb : b.length = 128) : D.write r b = (D, 300) ∧ StpR n many part (i + 1) D X := by
  have h1 := h.after hi
  have hrX : r < X.sec.length := by rw [h.len]; exact hr
  have hrD : r < D.sec.length := by rw [h.sec]; exact hrX
  obtain ⟨e1, k1, l1⟩ := dk_write_ok h.okD r hrD b hb
  have f1 : D.wr r b = (D, 300) := by
    unfold Dk.wr
    rw [if_pos h1]
  rw [f1] at e1
  exact ⟨e1, ⟨h.ok, h.okD, h.len, h.left, h.tear, h.run, h.sec, h.tearD, fun _ => by omega, fun _ => h1⟩⟩
end
def StpInv (w0 : World) (n many part g2 g1 : Nat) (v : Value) (one : List ActL) (c : Value) (wr : World) : Prop :=
  ∃ (j : Nat) (D X : Dk) (bs : Option Addr) (q : Nat) (b2 : Option Addr) (q2 : Nat), j ≤ one.length ∧ c = .int .i64 j ∧ StpR n many part j D X ∧ St w0 wr [(g2, dkB b2 q2 X), (g1, dkB bs q D)] [(IsDk · (dkS b2 q2 X) X), (IsDk · (dkS bs q D) D), (IsActs · v one)]
theorem neg_abs {x : Int} (h : x < 0) (hb : -1000 < x) : wrap64 (-x) = (x.natAbs : Int) := by unfold wrap64; omega

set_option maxHeartbeats 16000000 in
set_option maxRecDepth 100000 in
theorem stops_walk (w : World) (s0 : Int) (v1 : Value) (l1 : List ActL) (hv1 : IsActs w v1 l1) (lf tr : Int) :
    Calls Try.prog 5 #[.int .i64 s0, v1, .int .i64 lf, .int .i64 tr] w fun e w' => e = .returned (.bool true) ∧ Below w.heap.size w w' := by
  have h0 := (St.start w).putOld (Mono.acts v1 l1) hv1
  have hn := smallN_le s0
  have hm41 : (lf.tmod 41).natAbs < 41 := by rw [Int.natAbs_tmod]; exact Nat.mod_lt _ (by decide)
  have hp129 : (tr.tmod 129).natAbs < 129 := by rw [Int.natAbs_tmod]; exact Nat.mod_lt _ (by decide)
  go_enter Try.func5, Try.ntmps5
  go_wp2_with fail
  refine (small_s h0 s0).mono ?_
  rintro e w0 ⟨rfl, rfl⟩
  generalize smallN s0 = n at hn ⊢
  obtain ⟨hn1, hn8⟩ := hn
  go_wp2_with fail
  refine (new_s h0 n (Dk.made n) 0 (dk_made_ok n hn1 (by omega)).2).mono ?_
  rintro e w1 ⟨b1, q1, rfl, h1⟩
  go_upto_region 3 with (refine wpList_store_row rfl 25 (.tmp 10) (.tmp 34) rfl w1.heap.size (dkA b1 q1 (Dk.made n)) rfl rfl 25 _ (heap_alloc_new _ _) disk_info rfl (one4 rfl _ _ _) ?_)
  replace h1 := h1.newVar #[.slice none 0 0, .int .i64 0, .int .i64 0, .bool false] (dkA b1 q1 (Dk.made n)) 25
  generalize World.setRow _ _ _ = W1 at h1 ⊢
  generalize w1.heap.size = g1 at h1 ⊢
  go_upto_if 39 with fail
  go_cut [12] from 36 to 40 (fun c wc => c = .int .i64 ((lf.tmod 41).natAbs : Int) ∧ wc = W1)
  case first =>
    by_cases hs : lf.tmod 41 < 0
    · go_wp2_with fail
      go_meet
      case rel => exact ⟨congrArg (Value.int .i64) (by omega), rfl⟩
    · go_wp2_with fail
      go_meet
      case rel => exact ⟨congrArg (Value.int .i64) (by omega), rfl⟩
  case rest =>
  obtain ⟨rfl, rfl⟩ := hcut
  generalize (lf.tmod 41).natAbs = many at hm41 ⊢
  go_upto_if 45 with fail
  go_cut [13] from 42 to 47 (fun c wc' => c = .int .i64 ((tr.tmod 129).natAbs : Int) ∧ wc' = wc)
  case first =>
    by_cases hs : tr.tmod 129 < 0
    · go_wp2_with fail
      go_meet
      case rel => exact ⟨congrArg (Value.int .i64) (by omega), rfl⟩
    · go_wp2_with fail
      go_meet
      case rel => exact ⟨congrArg (Value.int .i64) (by omega), rfl⟩
  case rest =>
  obtain ⟨rfl, rfl⟩ := hcut
  generalize (tr.tmod 129).natAbs = part at hp129 ⊢
  have hok1 := (dk_made_ok n hn1 (by omega)).1
  obtain ⟨hF, hokF⟩ := dk_fail_ok hok1 rfl (many : Int) (part : Int) (by omega) (by omega) (by omega) (by omega)
  have hRS : StpR n many part 0 { Dk.made n with left := many, tear := part } (Dk.made n) := ⟨hok1, hokF, by simp [Dk.made], rfl, rfl, rfl, rfl, rfl, fun _ => ⟨rfl, by simp⟩, fun h => absurd h (Nat.not_lt_zero _)⟩
  have hNEW := (dk_made_ok n hn1 (by omega)).2
  generalize ({ Dk.made n with left := many, tear := part } : Dk) = D1 at hF hRS hokF
  generalize Dk.made n = X1 at h1 hF hRS hNEW hok1 ⊢
  have HF := Lib.hid hF
  have HNEW := Lib.hid hNEW
  clear hF hNEW
  go_wp2_with (refine wpList_load_row rfl 25 (.tmp 10) rfl g1 rfl 25 _ (0, 0) _ (h1.at_ 0 rfl) Try.underlying25 rfl disk_info ?_)
  refine (fail_s h1 _ X1 _ _ D1 0 HF.out (h1.get 0 rfl)).mono ?_
  rintro e w3 ⟨b3, qd, rfl, h3⟩
  go_upto_region 12 with (refine wpList_store_row rfl 25 (.tmp 10) (.tmp 53) rfl g1 (dkA b3 qd D1) rfl rfl 25 _ (h3.at_ 0 rfl) disk_info rfl (one4 rfl _ _ _) ?_)
  have h4 : St w _ [(g1, dkB b3 qd D1)] _ := h3.setRow (os1 := []) (cs' := dkA b3 qd D1)
  generalize World.setRow _ _ _ = W4 at h4 ⊢
  go_wp2_with fail
  refine (new_s h4 n X1 0 HNEW.out).mono ?_
  rintro e w5 ⟨b5, q5, rfl, h5⟩
  go_upto_region 13 with (refine wpList_store_row rfl 25 (.tmp 15) (.tmp 64) rfl w5.heap.size (dkA b5 q5 X1) rfl rfl 25 _ (heap_alloc_new _ _) disk_info rfl (one4 rfl _ _ _) ?_)
  replace h5 := h5.newVar #[.slice none 0 0, .int .i64 0, .int .i64 0, .bool false] (dkA b5 q5 X1) 25
  generalize World.setRow _ _ _ = W5 at h5 ⊢
  generalize w5.heap.size = g2 at h5 ⊢
  go_wp2_with fail
  refine (few_s h5 v1 l1 40 (h5.get 3 rfl)).mono ?_
  rintro e w6 ⟨b6, q3, rfl, h6⟩
  generalize l1.take 40 = one at h6 ⊢
  replace h6 := h6.facts (fs' := [(IsDk · (dkS b5 q5 X1) X1), (IsDk · (dkS b3 qd D1) D1), (IsActs · (.slice b6 one.length q3) one)]) (fun P hP => by simp only [List.mem_cons, List.not_mem_nil, or_false] at hP ⊢; rcases hP with rfl | rfl | rfl <;> simp)
  clear h0 h1 h3 h4 h5
  have HPT := Lib.hid (show part ≤ 128 by omega)
  go_wp2_with fail
  go_loopw [18] (StpInv w n many part g2 g1 (.slice b6 one.length q3) one) (fun c _ => one.length - (intOf c).toNat)
  case atStart => exact ⟨0, D1, X1, b3, qd, b5, q5, by omega, rfl, hRS, h6⟩
  case round =>
    clear h6 hRS hokF hok1
    obtain ⟨j, D, X, bs, q, b2, q2, hj, rfl, hR, hst⟩ := hrel
    have HR := Lib.hid hR
    clear hR
    by_cases hlt : j < one.length
    · obtain ⟨_, _, e, hac, ham, hc⟩ := (hst.is 2 rfl : IsActs _ _ _).out
      cases e
      obtain ⟨ab, ao, rfl, -, ac1, ac2, -⟩ := hc j hlt
      clear hc
      generalize (one[j]).at_ = at_ at ac1
      generalize (one[j]).fill = fl at ac2
      obtain ⟨m, hm⟩ : ∃ m, smallN at_ = m := ⟨_, rfl⟩
      have HM := Lib.hid hm
      clear hm
      have i1 : (j : Int) < (one.length : Int) := by omega
      have hk0 : (0 : Int) ≤ (j : Int) := by omega
      have hn0 : ¬ n = 0 := by omega
      have hrem : (m : Int).tmod (n : Int) = ((m % n : Nat) : Int) := (Int.ofNat_tmod m n).symm
      have hmn : m % n < n := Nat.mod_lt _ (by omega)
      obtain ⟨r, hr⟩ : ∃ r, m % n = r := ⟨_, rfl⟩
      rw [hr] at hrem hmn
      clear hr
      go_wp2_with (first | (go_at_call 9; refine (small_any _ _).mono ?_; rintro e w4 ⟨rfl, rfl⟩; rw [HM.out]))
      clear ac1
      refine (fill_s hst fl 128 128 rfl).mono ?_
      rintro e w7 ⟨bb, qb, rfl, h7⟩
      have hbl := fillL_length fl 128
      generalize fillL fl 128 = bl at h7 hbl ⊢
      have HBL := Lib.hid hbl
      clear hbl ac2 hst hrem
      have HPO : ∀ P ∈ [(IsDk · (dkS b2 q2 X) X), (IsDk · (dkS bs q D) D), (IsActs · (.slice (some ⟨ab, ao, none⟩) one.length q3) one)], P ∈ [(IsDk · (dkS b2 q2 X) X), (IsDk · (dkS bs q D) D), (IsActs · (.slice (some ⟨ab, ao, none⟩) one.length q3) one)] := fun _ h => h
      by_cases c1 : j < many
      · obtain ⟨D2, X2, hD2, hX2, hR2⟩ := HR.out.step_lt c1 HPT.out hmn HBL.out
        have HDW := Lib.hid hD2
        have HXW := Lib.hid hX2
        have HR2 := Lib.hid hR2
        clear hD2 hX2 hR2
        have c1' : (j : Int) < (many : Int) := by omega
        have c2' : ((j : Int) == (many : Int)) = false := by simp; omega
        go_wp2_with (refine wpList_load_row rfl 25 (.tmp 10) rfl g1 rfl 25 _ (0, 0) _ (h7.at_ 1 rfl) Try.underlying25 rfl disk_info ?_)
        refine (write_s h7 _ D r _ bl D2 0 HDW.out (h7.get 2 rfl) (h7.is 0 rfl)).mono ?_
        rintro e w8 ⟨by_, qy, rfl, h8⟩
        go_upto_region 20 with (refine wpList_store_row rfl 25 (.tmp 21) (.tmp 93) rfl w8.heap.size (dkA by_ qy D2) rfl rfl 25 _ (heap_alloc_new _ _) disk_info rfl (one4 rfl _ _ _) ?_)
        replace h8 := h8.newVar #[.slice none 0 0, .int .i64 0, .int .i64 0, .bool false] (dkA by_ qy D2) 25
        generalize World.setRow _ _ _ = W8 at h8 ⊢
        generalize w8.heap.size = gy at h8 ⊢
        go_upto_region 21 with (first | (refine wpList_load_row rfl 25 (.tmp 21) rfl gy rfl 25 _ (0, 0) _ (h8.at_ 0 rfl) Try.underlying25 rfl disk_info ?_) | (refine wpList_store_row rfl 25 (.tmp 10) (.tmp 95) rfl g1 (dkA by_ qy D2) rfl rfl 25 _ (h8.at_ 2 rfl) disk_info rfl (one4 rfl _ _ _) ?_))
        have h9 : St w _ [(g2, dkB b2 q2 X), (g1, dkB by_ qy D2)] _ := (h8.setRow (os1 := [(gy, dkB by_ qy D2), (g2, dkB b2 q2 X)]) (cs' := dkA by_ qy D2)).loose (os1 := [])
        generalize World.setRow _ _ _ = W9 at h9 ⊢
        clear h8 h7
        go_wp2_with (refine wpList_load_row rfl 25 (.tmp 15) rfl g2 rfl 25 _ (0, 0) _ (h9.at_ 0 rfl) Try.underlying25 rfl disk_info ?_)
        refine (write_s h9 _ X r _ bl X2 0 HXW.out (h9.get 2 rfl) (h9.is 1 rfl)).mono ?_
        rintro e w10 ⟨bz, qz, rfl, h10⟩
        go_upto_region 25 with (refine wpList_store_row rfl 25 (.tmp 23) (.tmp 118) rfl w10.heap.size (dkA bz qz X2) rfl rfl 25 _ (heap_alloc_new _ _) disk_info rfl (one4 rfl _ _ _) ?_)
        replace h10 := h10.newVar #[.slice none 0 0, .int .i64 0, .int .i64 0, .bool false] (dkA bz qz X2) 25
        generalize World.setRow _ _ _ = W10 at h10 ⊢
        generalize w10.heap.size = gz at h10 ⊢
        go_wp2_with (first | (refine wpList_load_row rfl 25 (.tmp 23) rfl gz rfl 25 _ (0, 0) _ (h10.at_ 0 rfl) Try.underlying25 rfl disk_info ?_) | (refine wpList_store_row rfl 25 (.tmp 15) (.tmp 122) rfl g2 (dkA bz qz X2) rfl rfl 25 _ (h10.at_ 1 rfl) disk_info rfl (one4 rfl _ _ _) ?_))
        have h11 : St w _ [(g2, dkB bz qz X2), (g1, dkB by_ qy D2)] _ := (h10.setRow (os1 := [(gz, dkB bz qz X2)]) (cs' := dkA bz qz X2)).loose (os1 := [])
        replace h11 := h11.facts (fs' := [(IsDk · (dkS bz qz X2) X2), (IsDk · (dkS by_ qy D2) D2), (IsActs · (.slice (some ⟨ab, ao, none⟩) one.length q3) one)]) (fun P hP => by simp only [List.mem_cons, List.not_mem_nil, or_false] at hP ⊢; rcases hP with rfl | rfl | rfl <;> simp)
        clear h10 h9
        go_roundw
        case rel => exact ⟨j + 1, D2, X2, by_, qy, bz, qz, by omega, by go_num, HR2.out, h11⟩
        case measure => simp [intOf]; omega
      by_cases c2 : j = many
      · obtain ⟨D2, X2, old, hD2, hrd, hol, hX2, hR2⟩ := HR.out.step_eq c2 HPT.out hmn HBL.out
        have HDW := Lib.hid hD2
        have HXW := Lib.hid hX2
        have HRD := Lib.hid hrd
        have HR2 := Lib.hid hR2
        have HOL := Lib.hid hol
        clear hD2 hX2 hR2 hrd hol
        have c1' : ¬ (j : Int) < (many : Int) := by omega
        have c2' : ((j : Int) == (many : Int)) = true := by simp; omega
        clear c1 c2
        go_wp2_with (refine wpList_load_row rfl 25 (.tmp 10) rfl g1 rfl 25 _ (0, 0) _ (h7.at_ 1 rfl) Try.underlying25 rfl disk_info ?_)
        refine (write_s h7 _ D r _ bl D2 300 HDW.out (h7.get 2 rfl) (h7.is 0 rfl)).mono ?_
        rintro e w8 ⟨by_, qy, rfl, h8⟩
        go_upto_region 20 with (refine wpList_store_row rfl 25 (.tmp 21) (.tmp 93) rfl w8.heap.size (dkA by_ qy D2) rfl rfl 25 _ (heap_alloc_new _ _) disk_info rfl (one4 rfl _ _ _) ?_)
        replace h8 := h8.newVar #[.slice none 0 0, .int .i64 0, .int .i64 0, .bool false] (dkA by_ qy D2) 25
        generalize World.setRow _ _ _ = W8 at h8 ⊢
        generalize w8.heap.size = gy at h8 ⊢
        go_upto_region 21 with (first | (refine wpList_load_row rfl 25 (.tmp 21) rfl gy rfl 25 _ (0, 0) _ (h8.at_ 0 rfl) Try.underlying25 rfl disk_info ?_) | (refine wpList_store_row rfl 25 (.tmp 10) (.tmp 95) rfl g1 (dkA by_ qy D2) rfl rfl 25 _ (h8.at_ 2 rfl) disk_info rfl (one4 rfl _ _ _) ?_))
        have h9 : St w _ [(g2, dkB b2 q2 X), (g1, dkB by_ qy D2)] _ := (h8.setRow (os1 := [(gy, dkB by_ qy D2), (g2, dkB b2 q2 X)]) (cs' := dkA by_ qy D2)).loose (os1 := [])
        generalize World.setRow _ _ _ = W9 at h9 ⊢
        clear h8 h7
        go_wp2_with (refine wpList_load_row rfl 25 (.tmp 15) rfl g2 rfl 25 _ (0, 0) _ (h9.at_ 0 rfl) Try.underlying25 rfl disk_info ?_)
        refine (read_s h9 _ X r old 0 HRD.out (h9.get 2 rfl)).mono ?_
        rintro e w10 ⟨bo, qo, rfl, h10⟩
        have hol : ((old.length : Int) != 128) = false := by rw [HOL.out]; rfl
        have hol2 : (part : Int) ≤ (old.length : Int) := by rw [HOL.out]; have := HPT.out; omega
        have hbl2 : (part : Int) ≤ (bl.length : Int) := by rw [HBL.out]; have := HPT.out; omega
        replace h10 := h10.facts (fs' := [(IsBytes · (.slice bo old.length qo) old), (IsDk · (dkS by_ qy D2) D2), (IsDk · (dkS b2 q2 X) X), (IsBytes · (.slice bb bl.length qb) bl), (IsActs · (.slice (some ⟨ab, ao, none⟩) one.length q3) one)]) (fun P hP => by simp only [List.mem_cons, List.not_mem_nil, or_false] at hP ⊢; rcases hP with rfl | rfl | rfl | rfl | rfl <;> simp)
        have hqo : old.length ≤ qo := by
          obtain ⟨_, _, e, _, hl, _⟩ := (h10.is 0 rfl : IsBytes _ _ _)
          cases e
          exact hl
        have hqb : bl.length ≤ qb := by
          obtain ⟨_, _, e, _, hl, _⟩ := (h10.is 3 rfl : IsBytes _ _ _)
          cases e
          exact hl
        have hq1 : (part : Int) ≤ (qo : Int) := by omega
        have hq2 : (part : Int) ≤ (qb : Int) := by omega
        have hp0 : (0 : Int) ≤ (part : Int) := by omega
        go_upto_region 32 with fail
        have HTK : Hid (∀ W, IsBytes W (.slice bb bl.length qb) bl → IsBytes W (.slice bb part qb) (bl.take part)) := Lib.hid fun W h => h.take part (by have := HBL.out; have := HPT.out; omega)
        have HDR : Hid (∀ W, IsBytes W (.slice bo old.length qo) old → IsBytes W (.slice (if qo = part then bo else bo.map (·.add part)) (old.length - part) (qo - part)) (old.drop part)) := Lib.hid fun W h => h.from_ part (by have := HOL.out; have := HPT.out; omega)
        have HLN : Hid ((bl.take part).length ≤ 128 ∧ (old.drop part).length ≤ 128) := Lib.hid ⟨by rw [List.length_take, HBL.out]; omega, by rw [List.length_drop, HOL.out]; omega⟩
        clear hol
        refine wp_region_sto [pVal (dkS b2 q2 X), pVal ?c32_1, pAny, pVal ?c32_3, pVal ?c32_4, pVal ?c32_5, pAny, pVal ?c32_7, pVal ?c32_8, pVal ?c32_9, pBytes (bl.take part ++ old.drop part), pDkT X2 0, pDkT X2 0, pDk X2, pVal ?c32_14, pPtr, pAny, pVal ?c32_17] (fun oo => osN 15 16 13 25 (.cells dkZv.cells 25 (0, 0)) ([(g2, dkB b2 q2 X), (g1, dkB by_ qy D2)] ++ oo)) (ow3 2 6 10 5 (bl.take part)) 164 [0, 0, 0, 0, 0, 24, 60, 0, 0, 384, 1020, 2047, 4095, 8191, 8191, 0, 49151, 131071] [[], [], [], [], [], [(4, 144), (3, 143)], [(5, 145), (2, 142)], [], [], [(8, 148), (7, 147)], [(9, 149), (6, 146)], [(10, 150), (1, 141), (0, 140)], [(11, 151)], [(12, 139)], [(12, 139)], [], [(13, 152), (15, 27)], [(14, 153)]] [(0, 140), (1, 141), (2, 142), (3, 143), (4, 144), (5, 145), (6, 146), (7, 147), (8, 148), (9, 149), (10, 150), (11, 151), (12, 139), (13, 152), (14, 153), (15, 27), (17, 28)] (by kernel_rfl) (by kernel_rfl) rfl rfl h10 ow3_none (fun L V h => (osN0 L V h).trans (List.append_nil _)) (ow3_all (by decide)) (osN1 (by decide) (by decide)) ?ob ?en
        case ob =>
          refine ⟨?_, ?_, ?_, ?_, ?_, ?_, ?_, ?_, ?_, ?_, ?_, ?_, ?_, ?_, ?_, ?_, ?_, ?_, trivial⟩
          · -- 0: t140 := Op.load 25 (t15)
            intro zx1 zx2 zx3 zx4 L V W hL hd hw oo hoo hst 
            refine opW_mono ?_ fun v W' h => ⟨oo, hoo, h⟩
            exact ob_c rfl (run_load_own rfl rfl (hst.find (g := g2) (o := dkB b2 q2 X) (osN_mem (by simp) L V)) Try.underlying25 rfl disk_info) hst rfl
          · -- 1: t141 := Op.move (t19)
            intro zx1 zx2 zx3 zx4 L V W hL hd hw oo hoo hst 
            refine opW_mono ?_ fun v W' h => ⟨oo, hoo, h⟩
            refine ob_c rfl ?_ hst rfl
            go_simp
            try with_reducible rfl
          · -- 2: t142 := Op.buildSlice 34 0 #[]
            intro zx1 zx2 zx3 zx4 L V W hL hd hw oo hoo hst 
            exact ob3_build rfl (by decide) (by decide) osN_perm (fun _ _ => rfl) rfl rfl Try.underlying34 (by kernel_rfl) hL (hw 6 rfl (by decide)) (hw 10 rfl (by decide)) hoo hst
          · -- 3: t143 := Op.move (t20)
            intro zx1 zx2 zx3 zx4 L V W hL hd hw oo hoo hst 
            refine opW_mono ?_ fun v W' h => ⟨oo, hoo, h⟩
            refine ob_c rfl ?_ hst rfl
            go_simp
            try with_reducible rfl
          · -- 4: t144 := Op.move (t13)
            intro zx1 zx2 zx3 zx4 L V W hL hd hw oo hoo hst 
            refine opW_mono ?_ fun v W' h => ⟨oo, hoo, h⟩
            refine ob_c rfl ?_ hst rfl
            go_simp
            try with_reducible rfl
          · -- 5: t145 := Op.slice 34 (t143) none (some (t144)) none
            intro zx1 zx2 zx3 zx4 L V W hL hd hw oo hoo hst u3 e3 p3 u4 e4 p4
            obtain rfl : u3 = _ := p3
            obtain rfl : u4 = _ := p4
            refine opW_mono ?_ fun v W' h => ⟨oo, hoo, h⟩
            refine ob_c rfl ?_ hst rfl
            go_simp
            try with_reducible rfl
          · -- 6: t146 := Op.call { callee := builtin Builtin.append, args := #[t142, t145], argTypes := #[34, 34] }
            intro zx1 zx2 zx3 zx4 L V W hL hd hw oo hoo hst u2 e2 p2 u5 e5 p5
            obtain rfl : u5 = _ := p5
            exact ob3_app1 rfl (by decide) (by decide) osN_perm (fun _ _ => rfl) rfl rfl Try.underlying34 Try.underlying34 byte_info (by rw [e2]; rfl) rfl (HTK.out _ (hst.base 3 rfl)) (by have := HLN.out; omega) (hd 2 rfl) hL (hw 10 rfl (by decide)) hoo hst
          · -- 7: t147 := Op.move (t25)
            intro zx1 zx2 zx3 zx4 L V W hL hd hw oo hoo hst 
            refine opW_mono ?_ fun v W' h => ⟨oo, hoo, h⟩
            refine ob_c rfl ?_ hst rfl
            go_simp
            try with_reducible rfl
          · -- 8: t148 := Op.move (t13)
            intro zx1 zx2 zx3 zx4 L V W hL hd hw oo hoo hst 
            refine opW_mono ?_ fun v W' h => ⟨oo, hoo, h⟩
            refine ob_c rfl ?_ hst rfl
            go_simp
            try with_reducible rfl
          · -- 9: t149 := Op.slice 34 (t147) (some (t148)) none none
            intro zx1 zx2 zx3 zx4 L V W hL hd hw oo hoo hst u7 e7 p7 u8 e8 p8
            obtain rfl : u7 = _ := p7
            obtain rfl : u8 = _ := p8
            refine opW_mono ?_ fun v W' h => ⟨oo, hoo, h⟩
            refine ob_c rfl ?_ hst rfl
            go_simp
            try with_reducible rfl
          · -- 10: t150 := Op.call { callee := builtin Builtin.append, args := #[t146, t149], argTypes := #[34, 34] }
            intro zx1 zx2 zx3 zx4 L V W hL hd hw oo hoo hst u6 e6 p6 u9 e9 p9
            obtain rfl : u9 = _ := p9
            exact ob3_app2 rfl (by decide) (by decide) osN_perm (fun _ _ => rfl) rfl rfl Try.underlying34 Try.underlying34 byte_info (by rw [e6]; rfl) rfl (HDR.out _ (hst.base 0 rfl)) (by have := HLN.out; omega) (hd 2 rfl) (hd 6 rfl) hL hoo hst
          · -- 11: t151 := Op.call { callee := value (func 16), args := #[t140, t141, t150], argTypes := #[25, 3, 34] }
            intro zx1 zx2 zx3 zx4 L V W hL hd hw oo hoo hst u0 e0 p0 u1 e1 p1 u10 e10 p10
            obtain rfl : u0 = _ := p0
            obtain rfl : u1 = _ := p1
            obtain ⟨b10, q10, rfl, hb10⟩ := p10
            refine opW_mono ?_ fun v W' h => ⟨oo, hoo, h⟩
            refine ob_call rfl ?_ (write_p hst _ X r _ (bl.take part ++ old.drop part) X2 0 HXW.out (hst.base 2 rfl) hb10)
            go_simp
          · -- 12: t139 := Op.move (t151)
            intro zx1 zx2 zx3 zx4 L V W hL hd hw oo hoo hst u11 e11 p11
            refine opW_mono ?_ fun v W' h => ⟨oo, hoo, h⟩
            refine ob_v u11 rfl ?_ hst rfl p11
            go_simp
          · -- 13: t152 := Op.extract (t139) 0
            intro zx1 zx2 zx3 zx4 L V W hL hd hw oo hoo hst u12 e12 p12
            obtain ⟨b12, q12, rfl, hd12⟩ := p12
            refine opW_mono ?_ fun v W' h => ⟨oo, hoo, h⟩
            refine ob_v (dkS b12 q12 X2) rfl ?_ hst (osN_keep (hw 16 rfl (by decide)) (by decide) (by decide)) ⟨b12, q12, rfl, hd12⟩
            go_simp
          · -- 14: t153 := Op.extract (t139) 1
            intro zx1 zx2 zx3 zx4 L V W hL hd hw oo hoo hst u12 e12 p12
            obtain ⟨b12, q12, rfl, hd12⟩ := p12
            refine opW_mono ?_ fun v W' h => ⟨oo, hoo, h⟩
            refine ob_c rfl ?_ hst rfl
            go_simp
            try with_reducible rfl
          · -- 15: t27 := Op.alloc 25
            intro zx1 zx2 zx3 zx4 L V W hL hd hw oo hoo hst 
            refine opW_mono ?_ fun v W' h => ⟨oo, hoo, h⟩
            exact ob_new _ rfl rfl dk_zero_var rfl (by decide) hL (hw 16 rfl (by decide)) rfl hst
          · -- 16: tNone := Op.store 25 (t27) (t152)
            intro zx1 zx2 zx3 zx4 L V W hL hd hw oo hoo hst u15 e15 p15 u13 e13 p13
            obtain ⟨g15, rfl⟩ := p15
            obtain ⟨b13, q13, rfl, hd13⟩ := p13
            refine opW_mono ?_ fun v W' h => ⟨oo, hoo, h⟩
            exact ob_put (ia := 15) (k := 13) (z := dkZv) rfl rfl rfl rfl e15 e13 rfl (by decide) (by decide) (hd 15 rfl) hL rfl disk_info (one4 rfl _ _ _) hst
          · -- 17: t28 := Op.assign (t153)
            intro zx1 zx2 zx3 zx4 L V W hL hd hw oo hoo hst u14 e14 p14
            obtain rfl : u14 = _ := p14
            refine opW_mono ?_ fun v W' h => ⟨oo, hoo, h⟩
            refine ob_c rfl ?_ hst rfl
            go_simp
            try with_reducible rfl
        case en =>
          intro V W hst u0 e0 p0 u1 e1 p1 u2 e2 p2 u3 e3 p3 u4 e4 p4 u5 e5 p5 u6 e6 p6 u7 e7 p7 u8 e8 p8 u9 e9 p9 u10 e10 p10 u11 e11 p11 u12 e12 p12 u13 e13 p13 u14 e14 p14 u15 e15 p15 u17 e17 p17
          obtain rfl : u0 = _ := p0
          obtain rfl : u1 = _ := p1
          obtain rfl : u3 = _ := p3
          obtain rfl : u4 = _ := p4
          obtain rfl : u5 = _ := p5
          obtain rfl : u7 = _ := p7
          obtain rfl : u8 = _ := p8
          obtain rfl : u9 = _ := p9
          obtain ⟨b10, q10, rfl, hb10⟩ := p10
          obtain ⟨b11, q11, rfl, hd11⟩ := p11
          obtain ⟨b12, q12, rfl, hd12⟩ := p12
          obtain ⟨b13, q13, rfl, hd13⟩ := p13
          obtain rfl : u14 = _ := p14
          obtain ⟨g15, rfl⟩ := p15
          obtain rfl : u17 = _ := p17
          simp only [EndAll, Act.put, List.getElem_toArray, List.getElem_cons_succ, List.getElem_cons_zero, List.setIfInBounds_toArray, List.set_cons_zero, List.set_cons_succ]
          have h9 := hst.put (Mono.dk _ _) hd13
          rw [osN_end e15 e13, List.append_nil] at h9
          clear hst h10
          go_wp2_with (first | (refine wpList_load_row rfl 25 (.tmp 27) rfl g15 rfl 25 _ (0, 0) _ (h9.at_ 0 rfl) Try.underlying25 rfl disk_info ?_) | (refine wpList_store_row rfl 25 (.tmp 15) (.tmp 156) rfl g2 (dkA b13 q13 X2) rfl rfl 25 _ (h9.at_ 1 rfl) disk_info rfl (one4 rfl _ _ _) ?_))
          have h11 := ((h9.setRow (os1 := [(g15, dkB b13 q13 X2)]) (cs' := dkA b13 q13 X2)).loose (os1 := [])).facts (fs' := [(IsDk · (dkS b13 q13 X2) X2), (IsDk · (dkS by_ qy D2) D2), (IsActs · (.slice (some ⟨ab, ao, none⟩) one.length q3) one)]) (fun P hP => by simp only [List.mem_cons, List.not_mem_nil, or_false] at hP ⊢; rcases hP with rfl | rfl | rfl <;> simp)
          clear h9 e0 e1 e2 e3 e4 e5 e6 e7 e8 e9 e10 e11 e12 e13 e14 e15 e17
          go_roundw
          case rel => exact ⟨j + 1, D2, X2, by_, qy, b13, q13, by omega, by go_num, HR2.out, h11⟩
          case measure => simp [intOf]; omega
      · obtain ⟨hD2, hR2⟩ := HR.out.step_gt (by omega) hmn HBL.out
        have HDW := Lib.hid hD2
        have HR2 := Lib.hid hR2
        clear hD2 hR2
        have c1' : ¬ (j : Int) < (many : Int) := by omega
        have c2' : ((j : Int) == (many : Int)) = false := by simp; omega
        clear c1 c2
        go_wp2_with (refine wpList_load_row rfl 25 (.tmp 10) rfl g1 rfl 25 _ (0, 0) _ (h7.at_ 1 rfl) Try.underlying25 rfl disk_info ?_)
        refine (write_s h7 _ D r _ bl D 300 HDW.out (h7.get 2 rfl) (h7.is 0 rfl)).mono ?_
        rintro e w8 ⟨by_, qy, rfl, h8⟩
        go_upto_region 20 with (refine wpList_store_row rfl 25 (.tmp 21) (.tmp 93) rfl w8.heap.size (dkA by_ qy D) rfl rfl 25 _ (heap_alloc_new _ _) disk_info rfl (one4 rfl _ _ _) ?_)
        replace h8 := h8.newVar #[.slice none 0 0, .int .i64 0, .int .i64 0, .bool false] (dkA by_ qy D) 25
        generalize World.setRow _ _ _ = W8 at h8 ⊢
        generalize w8.heap.size = gy at h8 ⊢
        go_wp2_with (first | (refine wpList_load_row rfl 25 (.tmp 21) rfl gy rfl 25 _ (0, 0) _ (h8.at_ 0 rfl) Try.underlying25 rfl disk_info ?_) | (refine wpList_store_row rfl 25 (.tmp 10) (.tmp 95) rfl g1 (dkA by_ qy D) rfl rfl 25 _ (h8.at_ 2 rfl) disk_info rfl (one4 rfl _ _ _) ?_))
        have h9 : St w _ [(g2, dkB b2 q2 X), (g1, dkB by_ qy D)] _ := (h8.setRow (os1 := [(gy, dkB by_ qy D), (g2, dkB b2 q2 X)]) (cs' := dkA by_ qy D)).loose (os1 := [])
        replace h9 := h9.facts (fs' := [(IsDk · (dkS b2 q2 X) X), (IsDk · (dkS by_ qy D) D), (IsActs · (.slice (some ⟨ab, ao, none⟩) one.length q3) one)]) (fun P hP => by simp only [List.mem_cons, List.not_mem_nil, or_false] at hP ⊢; rcases hP with rfl | rfl | rfl <;> simp)
        clear h8 h7
        go_roundw
        case rel => exact ⟨j + 1, D, X, by_, qy, b2, q2, by omega, by go_num, HR2.out, h9⟩
        case measure => simp [intOf]; omega
    · obtain rfl : j = one.length := by omega
      have HDN := Lib.hid HR.out.done
      have HXM : Hid (X.sec.length ≤ 1048576) := Lib.hid (by have := HR.out.ok.many; omega)
      go_upto_region 36 with fail
      refine wp_region_st [pVal (dkS bs q D), pDk X, pVal (dkS b2 q2 X), pVal (.bool true), pVal ?c36_4, pVal (.bool true), pVal ?c36_6, pVal ?c36_7] (osC [(g2, dkB b2 q2 X), (g1, dkB bs q D)]) 164 [0, 1, 0, 7, 15, 31, 63, 127] [[], [(0, 157)], [], [(2, 159), (1, 158)], [(3, 160)], [(4, 161)], [(5, 162), (4, 161)], [(6, 163)]] [(0, 157), (1, 158), (2, 159), (3, 160), (4, 161), (5, 162), (6, 163), (7, 8)] (by kernel_rfl) (by kernel_rfl) rfl rfl hst osC0 osC1 ?ob ?en
      case ob =>
        refine ⟨?_, ?_, ?_, ?_, ?_, ?_, ?_, ?_, trivial⟩
        · -- 0: t157 := Op.load 25 (t10)
          intro zx1 zx2 zx3 zx4 L V W hL hd hw hst 
          exact ob_c rfl (run_load_own rfl rfl (hst.find (g := g1) (o := dkB bs q D) (by simp [osC])) Try.underlying25 rfl disk_info) hst rfl
        · -- 1: t158 := Op.call { callee := value (func 21), args := #[t157], argTypes := #[25] }
          intro zx1 zx2 zx3 zx4 L V W hL hd hw hst u0 e0 p0
          obtain rfl : u0 = _ := p0
          refine ob_call rfl ?_ (restart_p hst _ D X HDN.out (hst.base 1 rfl))
          go_simp
        · -- 2: t159 := Op.load 25 (t15)
          intro zx1 zx2 zx3 zx4 L V W hL hd hw hst 
          exact ob_c rfl (run_load_own rfl rfl (hst.find (g := g2) (o := dkB b2 q2 X) (by simp [osC])) Try.underlying25 rfl disk_info) hst rfl
        · -- 3: t160 := Op.call { callee := value (func 12), args := #[t158, t159], argTypes := #[25, 25] }
          intro zx1 zx2 zx3 zx4 L V W hL hd hw hst u1 e1 p1 u2 e2 p2
          obtain ⟨b1r, q1r, rfl, hd1r⟩ := p1
          obtain rfl : u2 = _ := p2
          refine ob_call rfl ?_ (sameDisk_p hst _ _ X HXM.out hd1r (hst.base 0 rfl))
          go_simp
        · -- 4: t161 := Op.move (t160)
          intro zx1 zx2 zx3 zx4 L V W hL hd hw hst u3 e3 p3
          obtain rfl : u3 = _ := p3
          refine ob_c rfl ?_ hst rfl
          go_simp
          try with_reducible rfl
        · -- 5: t162 := Op.call { callee := value (func 24), args := #[], argTypes := #[] }
          intro zx1 zx2 zx3 zx4 L V W hL hd hw hst u4 e4 p4
          obtain rfl : u4 = _ := p4
          refine ob_call rfl ?_ (example_p hst)
          go_simp
        · -- 6: t163 := Op.pick (t161) (t162) (const (bool false))
          intro zx1 zx2 zx3 zx4 L V W hL hd hw hst u4 e4 p4 u5 e5 p5
          obtain rfl : u4 = _ := p4
          obtain rfl : u5 = _ := p5
          refine ob_c rfl ?_ hst rfl
          go_simp
          try with_reducible rfl
        · -- 7: t8 := Op.assign (t163)
          intro zx1 zx2 zx3 zx4 L V W hL hd hw hst u6 e6 p6
          obtain rfl : u6 = _ := p6
          refine ob_c rfl ?_ hst rfl
          go_simp
          try with_reducible rfl
      case en =>
        intro V W hst u0 e0 p0 u1 e1 p1 u2 e2 p2 u3 e3 p3 u4 e4 p4 u5 e5 p5 u6 e6 p6 u7 e7 p7
        obtain rfl : u0 = _ := p0
        obtain ⟨b1r, q1r, rfl, hd1r⟩ := p1
        obtain rfl : u2 = _ := p2
        obtain rfl : u3 = _ := p3
        obtain rfl : u4 = _ := p4
        obtain rfl : u5 = _ := p5
        obtain rfl : u6 = _ := p6
        obtain rfl : u7 = _ := p7
        simp only [EndAll, Act.put, List.getElem_toArray, List.getElem_cons_succ, List.getElem_cons_zero, List.setIfInBounds_toArray, List.set_cons_zero, List.set_cons_succ]
        go_wp2
        go_ret
        exact ⟨rfl, hst.below⟩
end Go.Proofs.Ytkfikcppnbfmoaa
