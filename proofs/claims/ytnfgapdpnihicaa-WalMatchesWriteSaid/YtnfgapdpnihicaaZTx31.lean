/- The walks over texts, joined, empty; the contracts of chapter 31 in the words of a walk's state. -/
import Derived.Test.YtnfgapdpnihicaaZHl31
import Derived.Test.YtnfgapdpnihicaaZPw31
import Derived.Test.YtnfgapdpnihicaaZFit31
import Derived.Test.YtnfgapdpnihicaaZGD
set_option linter.unusedVariables false
set_option linter.unusedSimpArgs false
namespace Go.Proofs.Ytnfgapdpnihicaa
open Go Go.RowKit

/-- A disk's value, opened; its block. -/
@[reducible] def dkS (bs : Option Addr) (q : Nat) (d : Dk) : Value := .agg #[.slice bs d.sec.length q, .int .i64 d.left, .int .i64 d.tear, .bool d.stopped]
@[reducible] def dkA (bs : Option Addr) (q : Nat) (d : Dk) : Array Value := #[.slice bs d.sec.length q, .int .i64 d.left, .int .i64 d.tear, .bool d.stopped]
@[reducible] def dkB (bs : Option Addr) (q : Nat) (d : Dk) : Obj := .cells (dkA bs q d) 24 (0, 0)
@[reducible] def dkZ : Obj := .cells #[.slice none 0 0, .int .i64 0, .int .i64 0, .bool false] 24 (0, 0)
theorem IsDk.shape {w : World} {v : Value} {d : Dk} (h : IsDk w v d) : ∃ bs q, v = dkS bs q d := by
  obtain ⟨sv, rfl, hl⟩ := h
  obtain ⟨bs, q, rfl, -⟩ := hl.out
  exact ⟨bs, q, rfl⟩
theorem St.newVar {w0 W : World} {os : List (Nat × Obj)} {fs : List (World → Prop)} (h : St w0 W os fs) (cs0 cs : Array Value) (t : TypeId) : St w0 ((W.alloc (.cells cs0 t (0, 0))).setRow W.heap.size cs) ((W.heap.size, .cells cs t (0, 0)) :: os) fs :=
  (h.alloc (.cells cs0 t (0, 0))).setRow (os1 := [])
theorem dk_write_ok {d : Dk} (hd : d.Ok) (i : Nat) (hi : i < d.sec.length) (b : List UInt8) (hb : b.length = 128) : d.write i b = d.wr i b ∧ (d.wr i b).1.Ok ∧ (d.wr i b).1.sec.length = d.sec.length := by
  refine ⟨?_, dk_ok_wr hd i hi b hb, ?_⟩
  · unfold Dk.write
    rw [if_neg]
    · rfl
    · rintro (h | h | h | h)
      · rw [(Dk.valid_iff d).2 hd] at h; cases h
      · omega
      · omega
      · exact h hb
  · unfold Dk.wr
    split
    · rfl
    · split <;> simp [putAt]
theorem dk_wr_free {d : Dk} (hs : d.stopped = false) (hl : d.left = -1) (i : Nat) (hi : i < d.sec.length) (h128 : (d.sec[i]).length = 128) (b : List UInt8) (hb : b.length = 128) : d.wr i b = ({ d with sec := d.sec.set i b }, 0) := by
  have hp : putAt d.sec i b = d.sec.set i b := by
    unfold putAt
    congr 1
    rw [List.drop_of_length_le]
    · simp
    · rw [List.getD_eq_getElem?_getD, List.getElem?_eq_getElem hi]
      simp only [Option.getD_some]
      omega
  unfold Dk.wr
  rw [if_neg (by simp [hs]), if_neg (by omega), if_neg (by omega), hp]
theorem dk_restart_ok {d : Dk} (hd : d.Ok) : d.restart = { d with left := -1, tear := 0, stopped := false } ∧ d.restart.Ok := by
  have e : d.restart = { d with left := -1, tear := 0, stopped := false } := by simp [Dk.restart, (Dk.valid_iff d).2 hd]
  refine ⟨e, ?_⟩
  rw [e]
  exact ⟨hd.one, hd.many, hd.size, by simp, by simp, by simp, by simp, fun _ => rfl, fun h => by simp at h⟩
theorem dk_made_ok (n : Nat) (h1 : 1 ≤ n) (h2 : n ≤ 4096) : (Dk.made n).Ok ∧ Dk.new n = (Dk.made n, 0) := by
  refine ⟨⟨by simp [Dk.made]; omega, by simp [Dk.made]; omega, fun i hi => by simp [Dk.made], by simp [Dk.made], by simp [Dk.made], by simp [Dk.made], by simp [Dk.made], fun _ => rfl, fun h => by simp [Dk.made] at h⟩, ?_⟩
  unfold Dk.new
  rw [if_neg (by omega)]
  simp
theorem dk_fail_ok {d : Dk} (hd : d.Ok) (hs : d.stopped = false) (l t : Int) (hl : 0 ≤ l) (hl2 : l ≤ 1099511627776) (ht : 0 ≤ t) (ht2 : t ≤ 128) : d.fail l t = ({ d with left := l, tear := t }, 0) ∧ Dk.Ok { d with left := l, tear := t } := by
  refine ⟨?_, ⟨hd.one, hd.many, hd.size, by simp; omega, hl2, ht, ht2, fun h => by simp at h; omega, fun h => by simp [hs] at h⟩⟩
  unfold Dk.fail
  rw [if_neg, if_neg (by simp [hs])]
  rintro (h | h | h | h | h)
  · rw [(Dk.valid_iff d).2 hd] at h; cases h
  all_goals omega

set_option maxRecDepth 8000 in
set_option maxHeartbeats 2000000 in
theorem texts_any (w : World) (S : Nat → Bool) (hS : ∀ k, S k = true → k < w.heap.size) (v : Value) (ss : List ByteArray) (hv : IsRow 1 w v ss.length (ss.map Value.string)) (hn : ss.length ≤ 1048576) (hs : ∀ s ∈ ss, s.size ≤ 1048576) :
    Calls Try.prog 39 #[v] w fun en w' => ∃ b q, en = .returned (.slice b ss.length q) ∧ IsLists (mask S w') (.slice b ss.length q) (ss.map (·.data.toList)) ∧ Below w.heap.size w w' := by
  obtain ⟨vb, vq, rfl, hx1, hx2, hx3, -, hat⟩ := id hv
  unfold maxLen at hx3
  obtain ⟨n, hN⟩ : ∃ n, ss.length = n := ⟨_, rfl⟩
  rw [hN] at hv hx2 hn ⊢
  have HN := Lib.hid hN
  have HS := Lib.hid hs
  have h0 := (St.start w).putOld (P := (IsRow 1 · (.slice vb n vq) n (ss.map Value.string))) (Mono.row _ _ _ _) hv
  clear hv hs hat hx1 hN
  go_enter Try.func39, Try.ntmps39
  go_wp2_with fail
  go_loopw [3, 4] (fun ov iv wr => ∃ (k : Nat) (xs : List Value) (oo : List (Nat × Obj)) (ob : Option Addr) (oq : Nat), k ≤ n ∧ ov = .slice ob k oq ∧ iv = .int .i64 k ∧ OwnP 42 1 (.slice ob k oq) k xs oo ∧ St w wr (oo ++ []) [(fun x => Elems 1 rdB (mask S x) xs ((ss.take k).map (·.data.toList))), (IsRow 1 · (.slice vb n vq) n (ss.map Value.string))]) (fun _ iv _ => n - (intOf iv).toNat)
  case atStart => exact ⟨0, [], [], none, 0, by omega, rfl, rfl, ⟨by simp, .inl ⟨rfl, rfl, rfl⟩⟩, h0.put (Mono.elemsOff _ _) Elems.nil⟩
  case round =>
    clear h0
    obtain ⟨k, xs, oo, ob, oq, hk, rfl, rfl, ho, hst⟩ := hrel
    by_cases hlt : k < n
    · have hks : k < ss.length := by rw [HN.out]; exact hlt
      obtain ⟨_, _, e, hx1, -, -, -, hat⟩ := (hst.is 1 rfl : IsRow _ _ _ _ _)
      cases e
      obtain ⟨gb, off, rfl, hcell⟩ := hat k (by rw [List.length_map]; exact hks)
      rw [List.getElem_map] at hcell
      have htk : (ss.take (k + 1)).map (·.data.toList) = (ss.take k).map (·.data.toList) ++ [(ss[k]).data.toList] := by rw [← List.take_append_getElem hks, List.map_append]; rfl
      have hsz := HS.out _ (List.getElem_mem hks)
      obtain ⟨X, hX⟩ : ∃ X, ss[k] = X := ⟨_, rfl⟩
      rw [hX] at hcell htk hsz
      have HTK := Lib.hid htk
      clear hat hx1 hX htk
      obtain ⟨cx, wt, hcv, hcc, hbx, hbt⟩ := run_strBytes (P := Try.prog) wr 9 42 5 X Try.underlying9 Try.underlying42 Try.underlying5 (by unfold maxLen; omega)
      have h14 := hst.putNew hS hbt (Nat.le_refl _) hbx
      have h15 := h14.alloc (.cells #[.slice (some ⟨wr.heap.size, 0, none⟩) X.size cx] 42)
      have h16 := h15.shut
      go_upto_region 4 with (first | (rw [hcv]) | (at_builtin; go_loud (refine wpList_append_any' rfl (.tmp 11) (.tmp 17) 22 22 rfl w.heap.size 42 (.slice none 0 0) 1 24 Try.underlying22 slice_info rfl _ k xs rfl (ho.owns h16) _ 1 [.slice (some ⟨wr.heap.size, 0, none⟩) X.size cx] rfl (Src.row Try.underlying22 (IsRow.block (n := 1) (xs := [.slice (some ⟨wr.heap.size, 0, none⟩) X.size cx]) (h15.at_ 0 rfl) rfl (by unfold maxLen; omega)) (fun u hu => by simp only [List.mem_cons, List.not_mem_nil, or_false] at hu; subst hu; rfl)) (by omega) (by unfold maxLen; omega) h16.size ?_); intro v' w' r1 r2 r3; obtain ⟨oo2, k17, h17⟩ := ho.append h16 r1 r2 r3; obtain ⟨vb2, vq2, rfl⟩ := own_slice r1))
      have h19 := h17.put (Mono.elemsOff (S := S) _ _) (Elems.append (h17.get 2 rfl) (Elems.one (a := X.data.toList) rfl ⟨_, rfl, h17.get 1 rfl⟩))
      rw [← HTK.out] at h19
      clear hst h14 h15 h16 hbt hbx hcv r1 r2 r3
      go_wp2_with fail
      go_roundw
      case rel =>
        exact ⟨k + 1, _, oo2, vb2, vq2, by omega, rfl, by go_num, k17, h19.facts (fun P hP => by simp only [List.mem_cons, List.not_mem_nil, or_false] at hP ⊢; rcases hP with rfl | rfl <;> simp)⟩
      case measure => simp [intOf]; omega
    · obtain rfl : n = k := by omega
      rw [show ss.take n = ss by rw [← HN.out, List.take_length]] at hst
      have hrow := ho.owns hst
      have hgeq := fun kk hk => (World.ownsRow.lt hrow kk hk).1
      have h20 := ho.done hst
      have hls : IsLists (mask S wr) (.slice ob n oq) (ss.map (·.data.toList)) := lists_of (mask_row (h20.is 0 rfl : IsRow _ _ _ _ _) fun kk hk => by
        cases hq : S kk with
        | false => rfl
        | true => have := hS kk hq; have := hgeq kk hk; omega) (h20.is 1 rfl) (by rw [List.length_map, HN.out])
      have hb := h20.below
      clear h20 hgeq hrow hst
      go_wp2_with fail
      go_ret
      exact ⟨ob, oq, rfl, hls, hb⟩
theorem lists_one {w : World} {v : Value} {n : Nat} {xs : List Value} {ll : List (List UInt8)} (h : Elems 1 rdB w xs ll) : ∀ u ∈ xs, u.oneCell' = true := by
  intro u hu
  obtain ⟨i, hi, rfl⟩ := List.mem_iff_getElem.1 hu
  obtain ⟨h1, h2⟩ := h
  rw [Nat.mul_one] at h1
  obtain ⟨u, e, hb⟩ := h2 i (by omega)
  rw [Nat.mul_one, List.drop_eq_getElem_cons hi, List.take_succ_cons, List.take_zero] at e
  obtain ⟨b, q, rfl, -⟩ := hb.out
  have e' := (List.cons.inj e).1
  rw [show xs[i] = _ from e']
  rfl
set_option maxHeartbeats 2000000 in
theorem joined_any (w : World) (S : Nat → Bool) (hS : ∀ k, S k = true → k < w.heap.size) (va vb : Value) (a b : List (List UInt8)) (ha : IsLists (mask S w) va a) (hb : IsLists (mask S w) vb b) (hl : a.length + b.length ≤ 1099511627776) :
    Calls Try.prog 28 #[va, vb] w fun en w' => ∃ (g : Option Addr) (q : Nat), en = .returned (.slice g (a ++ b).length q) ∧ IsLists (mask S w') (.slice g (a ++ b).length q) (a ++ b) ∧ Below w.heap.size w w' := by
  obtain ⟨xa, hra, hea⟩ := elems_of ha
  obtain ⟨xb, hrb, heb⟩ := elems_of hb
  have hoa := lists_one (v := va) (n := 0) hea
  have hob := lists_one (v := vb) (n := 0) heb
  obtain ⟨ab, aq, rfl, -, -, -, -⟩ := id ha.out
  obtain ⟨bb, bq, rfl, -, -, -, -⟩ := id hb.out
  rw [List.length_append]
  obtain ⟨n, hn⟩ : ∃ n, a.length = n := ⟨_, rfl⟩
  obtain ⟨m, hm⟩ : ∃ n, b.length = n := ⟨_, rfl⟩
  rw [hn] at hra hl ⊢
  rw [hm] at hrb hl ⊢
  have HL := Lib.hid (And.intro hn hm)
  have h0 := ((((St.start w).putOld (P := (IsRow 1 · (.slice ab n aq) n xa)) (Mono.row _ _ _ _) (hra.sub (mask_is _ _))).putOld (P := (IsRow 1 · (.slice bb m bq) m xb)) (Mono.row _ _ _ _) (hrb.sub (mask_is _ _))).putOld (P := fun x => Elems 1 rdB (mask S x) xa a) (Mono.elemsOff _ _) hea).putOld (P := fun x => Elems 1 rdB (mask S x) xb b) (Mono.elemsOff _ _) heb
  obtain ⟨k1, h1⟩ := OwnP.fresh (E := 42) (sz := 1) h0
  clear ha hb hra hrb hea heb hn hm
  go_enter Try.func28, Try.ntmps28
  go_wp2_with (at_builtin; first
    | (refine wpList_append_any' rfl (.tmp 5) (.tmp 6) 22 22 rfl w.heap.size 42 (.slice none 0 0) 1 24 Try.underlying22 slice_info rfl _ 0 [] rfl (k1.owns h1) _ n xa rfl (Src.row Try.underlying22 (h1.is 3 rfl : IsRow _ _ _ _ _) hoa) (by omega) (by unfold maxLen; omega) h1.size ?_; intro v2 w2 r1 r2 r3; obtain ⟨oo2, k2, h2⟩ := k1.append h1 r1 r2 r3; rw [Nat.zero_add, List.nil_append] at k2)
    | (refine wpList_append_any' rfl (.tmp 7) (.tmp 8) 22 22 rfl w.heap.size 42 (.slice none 0 0) 1 24 Try.underlying22 slice_info rfl _ n xa rfl (k2.owns h2) _ m xb rfl (Src.row Try.underlying22 (h2.is 2 rfl : IsRow _ _ _ _ _) hob) (by omega) (by unfold maxLen; omega) h2.size ?_; intro v4 w4 s1 s2 s3; obtain ⟨oo4, k4, h4⟩ := k2.append h2 s1 s2 s3; obtain ⟨g4, q4, rfl⟩ := own_slice s1))
  have hrow := k4.owns h4
  have hgeq := fun kk hk => (World.ownsRow.lt hrow kk hk).1
  have h20 := k4.done h4
  have hls : IsLists (mask S w4) (.slice g4 (n + m) q4) (a ++ b) := lists_of (mask_row (h20.is 0 rfl : IsRow _ _ _ _ _) fun kk hk => by
    cases hq : S kk with
    | false => rfl
    | true => have := hS kk hq; have := hgeq kk hk; omega) (Elems.append (h20.is 2 rfl) (h20.is 1 rfl)) (by rw [List.length_append, HL.out.1, HL.out.2])
  have hb := h20.below
  clear h20 hgeq hrow h4 k4
  go_ret
  exact ⟨_, _, rfl, hls, hb⟩
/-- A formatted region of a new disk. -/
theorem format_made {n f m : Nat} (h1 : 1 ≤ n) (h2 : n ≤ 4096) (h3 : 1 ≤ m) (h4 : f + m ≤ n) : (Dk.made n).format f m = (Dk.made n, 0) := by
  have hok := (dk_made_ok n h1 h2).1
  have hl : (Dk.made n).sec.length = n := by simp [Dk.made]
  have hft : (Dk.made n).fits f m = true := by
    unfold Dk.fits
    rw [(Dk.valid_iff _).2 hok, Bool.true_and, decide_eq_true_eq, hl]
    omega
  unfold Dk.format
  rw [hft, if_neg (by decide), (dk_write_ok hok f (by omega) zeroSec zeroSec_len).1, dk_wr_free rfl rfl f (by omega) (hok.size f (by omega)) _ zeroSec_len]
  have : (Dk.made n).sec.set f zeroSec = (Dk.made n).sec := by
    apply List.ext_getElem?
    intro i
    rw [List.getElem?_set]
    split
    · rename_i e
      subst e
      rw [if_pos (by omega)]
      simp only [Dk.made, zeroSec]
      rw [List.getElem?_replicate, if_pos (by omega)]
    · rfl
  rw [this]
theorem dk_zero_var : (Try.prog.info? 24).bind (·.zero) = some (.agg #[.slice none 0 0, .int .i64 0, .int .i64 0, .bool false]) := by kernel_rfl
set_option maxRecDepth 8000 in
set_option maxHeartbeats 2000000 in
theorem empty_any (w : World) (S : Nat → Bool) (hS : ∀ k, S k = true → k < w.heap.size) (n f m : Nat) (h1 : 1 ≤ n) (h2 : n ≤ 4096) (h3 : 1 ≤ m) (h4 : f + m ≤ n) :
    Calls Try.prog 31 #[.int .i64 n, .int .i64 f, .int .i64 m] w fun en w' => ∃ v', en = .returned (.tuple #[v', .bool true]) ∧ IsDk (mask S w') v' (Dk.made n) ∧ Below w.heap.size w w' := by
  have hf := format_made h1 h2 h3 h4
  have hN := (dk_made_ok n h1 h2).2
  have h0 := (St.start w).alloc (.cells #[.slice none 0 0, .int .i64 0, .int .i64 0, .bool false] 24)
  obtain ⟨D, hD⟩ : ∃ D, Dk.made n = D := ⟨_, rfl⟩
  rw [hD] at hf hN ⊢
  have HF := Lib.hid (And.intro hf hN)
  have HB := Lib.hid (And.intro h1 (And.intro h2 (And.intro h3 h4)))
  clear hf hN hD h1 h2 h3 h4
  go_enter Try.func31, Try.ntmps31
  go_wp2_with fail
  have hx := new_any (orS S (inL (keys [(w.heap.size, Obj.cells #[.slice none 0 0, .int .i64 0, .int .i64 0, .bool false] 24 (0, 0))]))) _ (h0.orLt hS) n
  rw [HF.out.2] at hx
  refine hx.mono ?_
  rintro en w1 ⟨v', rfl, hd, hb⟩
  obtain ⟨bs, q, rfl⟩ := hd.shape
  have k1 := h0.callOff hb (Mono.dk _ _) hd
  clear hx hd hb h0
  go_upto_region 2 with (refine wpList_store_row rfl 24 (.tmp 8) (.tmp 15) rfl w1.heap.size (dkA bs q D) rfl rfl 24 _ (heap_alloc_new _ _) disk_info rfl (one4 rfl _ _ _) ?_)
  replace k1 := k1.newVar #[.slice none 0 0, .int .i64 0, .int .i64 0, .bool false] (dkA bs q D) 24
  generalize World.setRow _ _ _ = W1 at k1 ⊢
  generalize w1.heap.size = g1 at k1 ⊢
  go_wp2_with (refine wpList_load_row rfl 24 (.tmp 8) rfl g1 rfl 24 _ (0, 0) _ (k1.at_ 0 rfl) Try.underlying24 rfl disk_info ?_)
  have hbd := HB.out
  have hx := format_any _ _ (k1.orLt hS) _ D (k1.off (Mono.dk _ _) 0 rfl) f m (by omega) (by omega)
  rw [HF.out.1] at hx
  refine hx.mono ?_
  rintro en w2 ⟨v', rfl, hd, hb⟩
  obtain ⟨b2, q2, rfl⟩ := hd.shape
  have k2 := k1.callOff hb (Mono.dk _ _) hd
  clear hx hd hb k1 hbd
  go_upto_region 5 with (refine wpList_store_row rfl 24 (.tmp 10) (.tmp 25) rfl w2.heap.size (dkA b2 q2 D) rfl rfl 24 _ (heap_alloc_new _ _) disk_info rfl (one4 rfl _ _ _) ?_)
  replace k2 := k2.newVar #[.slice none 0 0, .int .i64 0, .int .i64 0, .bool false] (dkA b2 q2 D) 24
  generalize World.setRow _ _ _ = W2 at k2 ⊢
  generalize w2.heap.size = g2 at k2 ⊢
  have k3 := k2.setRow (os1 := [_, _]) (cs' := dkA b2 q2 D)
  go_wp2_with (first
    | (refine wpList_load_row rfl 24 (.tmp 10) rfl g2 rfl 24 _ (0, 0) _ (k2.at_ 0 rfl) Try.underlying24 rfl disk_info ?_)
    | (refine wpList_store_row rfl 24 (.tmp 6) (.tmp 27) rfl w.heap.size (dkA b2 q2 D) rfl rfl 24 _ (k2.at_ 2 rfl) disk_info rfl (one4 rfl _ _ _) ?_))
  refine ret_disk w.heap.size (.slice b2 D.sec.length q2) D.left D.tear D.stopped rfl rfl (k3.at_ 2 rfl) rfl ⟨_, rfl, (k3.is 0 rfl : IsDk (mask S _) _ _), k3.below⟩
end Go.Proofs.Ytnfgapdpnihicaa
