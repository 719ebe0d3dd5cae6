/- The walk over wal.Append. -/
import Derived.Test.YtnfgapdpnihicaaZWp31
import Derived.Test.YtnfgapdpnihicaaZGB
import Derived.RegionIn
import Derived.Deep.CutRange
set_option linter.unusedVariables false
set_option linter.unusedSimpArgs false
namespace Go.Proofs.Ytnfgapdpnihicaa
open Go Go.RowKit
attribute [local go_sem] Oper.semAt_some

theorem sec_info : (Try.prog.info? 73).map (·.size) = some 128 := by kernel_rfl
theorem results_dc {fn : Func} {p q : Tmp} (h : fn.results = #[.cell p 24, .cell q 27]) (tmps : Array Value) (w : World) (gp gq : Nat) (cs : Array Value) (z : Value)
    (hp : tmps.getD p undef = .pointer (some ⟨gp, 0, none⟩)) (hq : tmps.getD q undef = .pointer (some ⟨gq, 0, none⟩))
    (hg : w.heap[gp]? = some (.cells cs 24 (0, 0))) (hn : cs.size = 4) (cz : w.cell? ⟨gq, 0, none⟩ = some z) : (results fn tmps).run Try.prog w = .ok (.tuple #[.agg cs, z]) w := by
  have e1 := run_loadVar_row (P := Try.prog) w gp 24 24 cs (0, 0) _ hg Try.underlying24 rfl (by rw [disk_info, hn])
  have e2 : (loadVar 27 ⟨gq, 0, none⟩).run Try.prog w = .ok z w := by simp [go_sem, cz]
  have hp' : tmps[p]?.getD undef = .pointer (some ⟨gp, 0, none⟩) := by simpa using hp
  have hq' : tmps[q]?.getD undef = .pointer (some ⟨gq, 0, none⟩) := by simpa using hq
  unfold results
  simp only [h]
  simp [hp', hq', asAddr, e1, e2, Sem.run_bind, Sem.run_pure, Result.andThen_ok]
theorem ret_dc {fn : Func} {R : Ending → World → Prop} {a : Act} {w : World} {p q : Tmp} (gp gq : Nat) (cs : Array Value) (z : Value) (h : fn.results = #[.cell p 24, .cell q 27]) (hp : a.tmps.getD p undef = .pointer (some ⟨gp, 0, none⟩)) (hq : a.tmps.getD q undef = .pointer (some ⟨gq, 0, none⟩))
    (hg : w.heap[gp]? = some (.cells cs 24 (0, 0))) (hn : cs.size = 4) (cz : w.cell? ⟨gq, 0, none⟩ = some z) (hd : a.defers = []) (hR : R (.returned (.tuple #[.agg cs, z])) w) : bodyPost Try.prog fn R .ret a w :=
  bodyPost_ret (results_dc h _ _ gp gq cs z hp hq hg hn cz) hd hR
set_option maxRecDepth 8000 in
set_option maxHeartbeats 2000000 in
/-- Append's writer, whose data may avoid further blocks. -/
theorem put_S (S : Nat → Bool) {w0 W : World} {gd ge : Nat} {e0 : Int} {bs : Option Addr} {n q : Nat} {left tear : Int} {st : Bool} {os : List (Nat × Obj)} {fs : List (World → Prop)} {d D : Dk} {c : Int} (h : St w0 W ((ge, .cells #[.int .i64 e0] 27 (0, 0)) :: (gd, .cells #[.slice bs n q, .int .i64 left, .int .i64 tear, .bool st] 24 (0, 0)) :: os) ((fun x => IsDk (mask S x) (.agg #[.slice bs n q, .int .i64 left, .int .i64 tear, .bool st]) d) :: fs)) (hS : ∀ k, S k = true → k < w0.heap.size)
    (i : Int) (l : List UInt8) (hl : l.length = 128) (hR : d.write i l = (D, c)) :
    Calls Try.prog 49 #[.int .i64 i, .agg (l.map u8v).toArray, .pointer (some ⟨gd, 0, none⟩), .pointer (some ⟨ge, 0, none⟩)] W fun e w' => ∃ b5 q5, e = .returned (.bool (c == 0)) ∧
      St w0 w' ((ge, .cells #[.int .i64 c] 27 (0, 0)) :: (gd, .cells #[.slice b5 D.sec.length q5, .int .i64 D.left, .int .i64 D.tear, .bool D.stopped] 24 (0, 0)) :: os) ((fun x => IsDk (mask S x) (.agg #[.slice b5 D.sec.length q5, .int .i64 D.left, .int .i64 D.tear, .bool D.stopped]) D) :: (fun x => IsDk (mask S x) (.agg #[.slice bs n q, .int .i64 left, .int .i64 tear, .bool st]) d) :: fs) := by
  have HR := Lib.hid hR
  clear hR
  have h2 := h.alloc (.cells (l.map u8v).toArray 73)
  go_enter Try.func49, Try.ntmps49
  go_upto_region 1 with fail
  try rw [show (Value.agg (l.map u8v).toArray).cells = (l.map u8v).toArray from rfl]
  generalize World.alloc _ _ = W2 at h2 ⊢
  generalize W.heap.size = g5 at h2 ⊢
  clear h
  have h3 := h2.drew
  refine wp_region_take (fun w' => w' = W2.drew) (fun i => i == 3 || i == 4 || i == 5 || i == 6 || i == 7 || i == 8) (by kernel_rfl) ?_
  refine wpTake_val (i := 0) (v := .agg #[.slice bs n q, .int .i64 left, .int .i64 tear, .bool st]) rfl (by kernel_rfl) (by kernel_rfl) (by kernel_rfl) (by kernel_rfl) (by kernel_rfl) (fun _ _ _ h => h) rfl (by rfl) (fun w' hw' => ?_) ?_
  · subst hw'
    exact run_load_disk rfl rfl (h3.at_ 2 rfl) rfl
  try simp only [Act.put, List.getElem_toArray, List.getElem_cons_succ, List.getElem_cons_zero, List.setIfInBounds_toArray, List.set_cons_zero, List.set_cons_succ]
  refine wpTake_val (i := 1) (v := .int .i64 i) rfl (by kernel_rfl) (by kernel_rfl) (by kernel_rfl) (by kernel_rfl) (by kernel_rfl) (fun _ _ _ h => h) rfl (by rfl) (fun w' hw' => ?_) ?_
  · subst hw'
    go_simp
  try simp only [Act.put, List.getElem_toArray, List.getElem_cons_succ, List.getElem_cons_zero, List.setIfInBounds_toArray, List.set_cons_zero, List.set_cons_succ]
  refine wpTake_val (i := 2) (v := .slice (some ⟨g5, 0, none⟩) 128 128) rfl (by kernel_rfl) (by kernel_rfl) (by kernel_rfl) (by kernel_rfl) (by kernel_rfl) (fun _ _ _ h => h) rfl (by rfl) (fun w' hw' => ?_) ?_
  · subst hw'
    have hz := h3.at_ 0 rfl
    go_simp
  try simp only [Act.put, List.getElem_toArray, List.getElem_cons_succ, List.getElem_cons_zero, List.setIfInBounds_toArray, List.set_cons_zero, List.set_cons_succ]
  refine wpTake_one (i := 3) rfl (by kernel_rfl) (fun K hK => ?_)
  go_simp
  have hwc := write_call (orS S (inL (keys _))) _ (h3.orLt hS) _ d i _ l (h3.off (Mono.dk _ _) 0 rfl) (sec_bytes (h3.at_ 0 rfl) hl (by unfold maxLen; omega))
  rw [HR.out] at hwc
  refine hwc.mono ?_
  rintro e w5 ⟨_, rfl, ⟨sv5, rfl, hl5⟩, hb5⟩
  obtain ⟨b5, q5, rfl, -⟩ := hl5.out
  have h5 := h3.callOff (S := S) (P := fun x => IsDk x (.agg #[.slice b5 D.sec.length q5, .int .i64 D.left, .int .i64 D.tear, .bool D.stopped]) D) hb5 (Mono.dk _ _) ⟨_, rfl, hl5⟩
  simp only [dkV]
  refine hK _ _ ⟨.inl rfl, ?_⟩
  clear hK K
  try simp only [Act.put, List.getElem_toArray, List.getElem_cons_succ, List.getElem_cons_zero, List.setIfInBounds_toArray, List.set_cons_zero, List.set_cons_succ]
  refine wpTake_free (i := 4) (v := ?_) rfl (by kernel_rfl) rfl (by kernel_rfl) (by kernel_rfl) (by kernel_rfl) (fun _ _ _ h => h) (by rfl) (fun w' => ?_) ?_
  rotate_left
  · go_simp
    try with_reducible rfl
  try simp only [Act.put, List.getElem_toArray, List.getElem_cons_succ, List.getElem_cons_zero, List.setIfInBounds_toArray, List.set_cons_zero, List.set_cons_succ]
  refine wpTake_free (i := 5) (v := ?_) rfl (by kernel_rfl) rfl (by kernel_rfl) (by kernel_rfl) (by kernel_rfl) (fun _ _ _ h => h) (by rfl) (fun w' => ?_) ?_
  rotate_left
  · go_simp
    try with_reducible rfl
  try simp only [Act.put, List.getElem_toArray, List.getElem_cons_succ, List.getElem_cons_zero, List.setIfInBounds_toArray, List.set_cons_zero, List.set_cons_succ]
  refine wpTake_free (i := 6) (v := ?_) rfl (by kernel_rfl) rfl (by kernel_rfl) (by kernel_rfl) (by kernel_rfl) (fun _ _ _ h => h) (by rfl) (fun w' => ?_) ?_
  rotate_left
  · go_simp
    try with_reducible rfl
  try simp only [Act.put, List.getElem_toArray, List.getElem_cons_succ, List.getElem_cons_zero, List.setIfInBounds_toArray, List.set_cons_zero, List.set_cons_succ]
  refine wpTake_one (i := 7) rfl (by kernel_rfl) (fun K hK => ?_)
  have h6 := h5.setRow (os1 := [_, _]) (cs' := #[.slice b5 D.sec.length q5, .int .i64 D.left, .int .i64 D.tear, .bool D.stopped])
  refine step_store rfl rfl rfl rfl (h5.at_ 2 rfl) disk_info rfl (one4 rfl _ _ _) ?_
  refine hK _ _ ⟨.inl rfl, ?_⟩
  clear hK K
  try simp only [Act.put, List.getElem_toArray, List.getElem_cons_succ, List.getElem_cons_zero, List.setIfInBounds_toArray, List.set_cons_zero, List.set_cons_succ]
  refine wpTake_one (i := 8) rfl (by kernel_rfl) (fun K hK => ?_)
  obtain ⟨z0, zf0⟩ := cellF (j := 0) (h6.at_ 1 rfl) rfl
  have h7 := h6.setCell (os1 := [_]) (i := 0) (v := .int .i64 c)
  go_simp
  refine hK _ _ ⟨.inl rfl, ?_⟩
  clear hK K
  try simp only [Act.put, List.getElem_toArray, List.getElem_cons_succ, List.getElem_cons_zero, List.setIfInBounds_toArray, List.set_cons_zero, List.set_cons_succ]
  refine wpTake_done (by kernel_rfl) ?_
  have c9 := (cellF (j := 0) (h7.at_ 1 rfl) rfl).1
  go_wp2_with fail
  go_ret
  exact ⟨rfl, _, _, h7.loose (os1 := [])⟩


set_option maxRecDepth 8000 in
set_option maxHeartbeats 8000000 in
theorem append_any (w : World) (S : Nat → Bool) (hS : ∀ k, S k = true → k < w.heap.size) (v : Value) (d : Dk) (hvm : IsDk (mask S w) v d) (f m : Int) (hf : -9223372036854775808 ≤ f ∧ f ≤ 9223372036854775807) (hm : -9223372036854775808 ≤ m ∧ m ≤ 9223372036854775807) (rv : Value) (rs : List (List UInt8)) (hrs : IsLists w rv rs) (hrn : rs.length ≤ 1048576) (hrr : ∀ r ∈ rs, r.length ≤ 1048576) :
    Calls Try.prog 21 #[v, .int .i64 f, .int .i64 m, rv] w fun en w' => ∃ v', en = .returned (.tuple #[v', .int .i64 (d.app f m rs).2]) ∧ IsDk (mask S w') v' (d.app f m rs).1 ∧ Below w.heap.size w w' := by
  obtain ⟨⟨D, c⟩, hR⟩ : ∃ R, d.app f m rs = R := ⟨_, rfl⟩
  rw [hR]
  unfold Dk.app at hR
  have HR := Lib.hid hR
  clear hR
  obtain ⟨rb, rq, rfl, -, -, -, -⟩ := id hrs.out
  have hvm' := hvm
  obtain ⟨sv, rfl, hl⟩ := hvm
  obtain ⟨bs, q, rfl, -⟩ := hl.out
  simp only [dkV] at hvm' ⊢
  obtain ⟨n, hn⟩ : ∃ n, d.sec.length = n := ⟨_, rfl⟩
  obtain ⟨N, hN⟩ : ∃ x, rs.length = x := ⟨_, rfl⟩
  rw [hN] at hrs
  rw [hn] at hvm' ⊢
  obtain ⟨left, hleft⟩ : ∃ x, d.left = x := ⟨_, rfl⟩
  obtain ⟨tear, htear⟩ : ∃ x, d.tear = x := ⟨_, rfl⟩
  obtain ⟨st, hst⟩ : ∃ x, d.stopped = x := ⟨_, rfl⟩
  rw [hleft, htear, hst] at hvm' ⊢
  have HD := Lib.hid (And.intro hn (And.intro hleft (And.intro htear hst)))
  have HN := Lib.hid (And.intro hN (And.intro hrn hrr))
  have h0 := ((((St.start w).putOld (P := (IsLists · (.slice rb N rq) rs)) (Mono.lists _ _) hrs).putOld (P := fun x => IsDk (mask S x) (.agg #[.slice bs n q, .int .i64 left, .int .i64 tear, .bool st]) d) (Mono.off S (Mono.dk _ _)) hvm').alloc (.cells #[.slice bs n q, .int .i64 left, .int .i64 tear, .bool st] 24)).alloc (.cells #[.slice none 0 0, .int .i64 0, .int .i64 0, .bool false] 24)
  have h1 := h0.alloc (.cells #[.int .i64 0] 27)
  simp only [al_size] at h1
  clear hvm' hl hn hleft htear hst h0 hrs hN hrn hrr
  rw [HN.out.1]
  obtain ⟨c0, c1, c2, c3, -⟩ := dkO_cells (h1.at_ 2 rfl)
  go_enter Try.func21, Try.ntmps21
  go_wp2_with fail
  refine (Calls.sV h1 (fits_any _ _ d ((h1.is 0 rfl : IsDk (mask S _) _ _).sub (mask_is _ _)) f m hf hm)).mono ?_
  rintro en w1 ⟨rfl, h2⟩
  clear h1 c0 c1 c2 c3
  generalize hg4 : w.heap.size = g4 at h2 ⊢
  generalize hg8 : g4 + 1 = g8 at h2 ⊢
  generalize hg9 : g8 + 1 = g9 at h2 ⊢
  obtain ⟨ft, hft⟩ : ∃ b, d.fits f m = b := ⟨_, rfl⟩
  have hr := HR.out
  rw [hft] at hr ⊢
  clear HR
  cases ft with
  | false =>
    rw [if_pos rfl] at hr
    cases hr
    have h3 := h2.setRow (os1 := [_]) (cs' := #[.slice none 0 0, .int .i64 0, .int .i64 0, .bool false])
    have h4 := h3.setCell (os1 := []) (i := 0) (v := .int .i64 1)
    obtain ⟨z9, zf9⟩ := cellF (j := 0) (h3.at_ 0 rfl) rfl
    go_wp2_with (refine wpList_store_row rfl 24 (.tmp 8) (.tmp 25) rfl g8 #[.slice none 0 0, .int .i64 0, .int .i64 0, .bool false] rfl rfl 24 _ (h2.at_ 1 rfl) disk_info rfl (one4 rfl _ _ _) ?_)
    exact ret_dc g8 g9 _ _ rfl rfl rfl (h4.at_ 1 rfl) rfl (cellF (j := 0) (h4.at_ 0 rfl) rfl).1 rfl ⟨_, rfl, dk_zero _, hg4 ▸ h4.below⟩
  | true =>
    rw [if_neg (by decide)] at hr
    have h2' := h2.perm (os' := [(g9, _), (g4, _), (g8, _)]) (List.Perm.cons _ (List.Perm.swap _ _ _))
    clear h2
    obtain ⟨c0, c1, c2, c3, -⟩ := dkO_cells (h2'.at_ 1 rfl)
    cases st with
    | true =>
      rw [HD.out.2.2.2, if_pos rfl] at hr
      cases hr
      have h3 := h2'.setRow (os1 := [_, _]) (cs' := #[.slice bs n q, .int .i64 left, .int .i64 tear, .bool true])
      have h4 := h3.setCell (os1 := []) (i := 0) (v := .int .i64 300)
      obtain ⟨z9, zf9⟩ := cellF (j := 0) (h3.at_ 0 rfl) rfl
      go_wp2_with (refine wpList_store_row rfl 24 (.tmp 8) (.tmp 28) rfl g8 #[.slice bs n q, .int .i64 left, .int .i64 tear, .bool true] rfl rfl 24 _ (h2'.at_ 2 rfl) disk_info rfl (one4 rfl _ _ _) ?_)
      exact ret_dc g8 g9 _ _ rfl rfl rfl (h4.at_ 2 rfl) rfl (cellF (j := 0) (h4.at_ 0 rfl) rfl).1 rfl ⟨_, rfl, (h4.is 0 rfl : IsDk (mask S _) _ _), hg4 ▸ h4.below⟩
    | false =>
      rw [HD.out.2.2.2, if_neg (by decide)] at hr
      have HR := Lib.hid hr
      clear hr
      go_wp2_with fail
      go_loopw [31] (fun iv wr => ∃ k : Nat, k ≤ N ∧ iv = .int .i64 k ∧ Hid (∀ j (hj : j < rs.length), j < k → rs[j].length ≤ 8192) ∧ St w wr [(g9, .cells #[.int .i64 0] 27 (0, 0)), (g4, .cells #[.slice bs n q, .int .i64 left, .int .i64 tear, .bool false] 24 (0, 0)), (g8, .cells #[.slice none 0 0, .int .i64 0, .int .i64 0, .bool false] 24 (0, 0))] [fun x => IsDk (mask S x) (.agg #[.slice bs n q, .int .i64 left, .int .i64 tear, .bool false]) d, (IsLists · (.slice rb N rq) rs)]) (fun iv _ => N - (intOf iv).toNat)
      case atStart => exact ⟨0, by omega, rfl, Lib.hid (fun j _ h => absurd h (by omega)), h2'⟩
      case round =>
        clear h2' c0 c1 c2 c3
        obtain ⟨k, hk, rfl, hlong, hst⟩ := hrel
        have hNs := HN.out.2.1
        rw [HN.out.1] at hNs
        by_cases hlt : k < N
        · have hkl : k < rs.length := by rw [HN.out.1]; exact hlt
          obtain ⟨_, _, e, -, -, -, hat⟩ := (hst.is 1 rfl : IsLists _ _ _).out
          rw [HN.out.1] at e
          cases e
          obtain ⟨gb, off, u, rfl, hcell, hu⟩ := hat k hkl
          obtain ⟨ub, uc, rfl, -⟩ := hu.out
          obtain ⟨L, hL⟩ : ∃ x, rs[k].length = x := ⟨_, rfl⟩
          rw [hL] at hcell hu
          by_cases hbig : 8192 < L
          · have hlg := Wl.long_yes hkl (by rw [hL]; exact hbig)
            have hr := HR.out
            rw [if_pos hlg] at hr
            cases hr
            have h3 := hst.setRow (os1 := [_, _]) (cs' := #[.slice none 0 0, .int .i64 0, .int .i64 0, .bool false])
            have h4 := h3.setCell (os1 := []) (i := 0) (v := .int .i64 2)
            obtain ⟨z9, zf9⟩ := cellF (j := 0) (h3.at_ 0 rfl) rfl
            clear hat hL HR hlg hlong hu
            go_wp2_with (refine wpList_store_row rfl 24 (.tmp 8) (.tmp 38) rfl g8 #[.slice none 0 0, .int .i64 0, .int .i64 0, .bool false] rfl rfl 24 _ (hst.at_ 2 rfl) disk_info rfl (one4 rfl _ _ _) ?_)
            exact ret_dc g8 g9 _ _ rfl rfl rfl (h4.at_ 2 rfl) rfl (cellF (j := 0) (h4.at_ 0 rfl) rfl).1 rfl ⟨_, rfl, dk_zero _, hg4 ▸ h4.below⟩
          · have hl2 : Hid (∀ j (hj : j < rs.length), j < k + 1 → rs[j].length ≤ 8192) := Lib.hid fun j hj hjk => by
              rcases Nat.lt_or_ge j k with h9 | h9
              · exact hlong.out j hj h9
              · have : j = k := by omega
                subst this
                omega
            clear hat hL HR hlong hu
            go_wp2_with fail
            go_roundw
            case rel => exact ⟨k + 1, by omega, by go_num, hl2, hst⟩
            case measure => simp [intOf]; omega
        · have hkN : k = N := by omega
          subst hkN
          have hlg := Wl.long_no (rs := rs) (fun j hj => hlong.out j hj (by rw [HN.out.1] at hj; exact hj))
          clear hlong hlt
          have hr := HR.out
          rw [if_neg (by rw [hlg]; decide)] at hr
          have HR2 := Lib.hid hr
          clear hr HR hlg hk
          obtain ⟨⟨RS, E, C⟩, hsc⟩ : ∃ r, d.scan f m = r := ⟨_, rfl⟩
          have hsok := fun h : C = 0 => Dk.scan_ok (d := d) (f := f) (m := m) (rs := RS) (E := E) (by rw [hsc, h])
          have HOK := Lib.hid hsok
          have hr := HR2.out
          rw [hsc] at hr
          dsimp only at hr
          clear HR2 hsok
          obtain ⟨c0, c1, c2, c3, -⟩ := dkO_cells (hst.at_ 1 rfl)
          go_wp2_with fail
          have hscan := scan_any _ noS (fun k hk => by cases hk) _ d ((hst.is 0 rfl : IsDk (mask S _) _ _).sub (mask_is _ _)) f m hf hm
          rw [hsc] at hscan
          refine (Calls.mono hscan ?_)
          rintro en w2 ⟨lv, rfl, hls, hb⟩
          have h3 := hst.call hb
          obtain ⟨b2, q2, rfl, -⟩ := id hls.out
          clear hst hscan hsc hls hb c0 c1 c2 c3
          obtain ⟨z9, zf9⟩ := cellF (j := 0) (h3.at_ 0 rfl) rfl
          have h4 := h3.setCell (os1 := []) (i := 0) (v := .int .i64 C)
          by_cases hC : C = 0
          · subst hC
            rw [if_neg (fun h => h rfl)] at hr
            obtain ⟨hok, hstp, p, k2, rfl, rfl, hk1, hk2, hE1, hE2, hscl⟩ := HOK.out rfl
            have hHR := Lib.hid hr
            clear hr HOK
            go_upto_region 14 with fail
            clear z9 zf9 h3
            generalize World.setCell _ _ _ = W4 at h4 ⊢
            have hkN := HN.out.2.1
            rw [HN.out.1] at hkN
            by_cases hk0 : k = 0
            · subst hk0
              have hr := hHR.out
              rw [if_pos HN.out.1] at hr
              cases hr
              obtain ⟨c0, c1, c2, c3, -⟩ := dkO_cells (h4.at_ 1 rfl)
              have h5 := h4.setRow (os1 := [_, _]) (cs' := #[.slice bs n q, .int .i64 left, .int .i64 tear, .bool false])
              have h6 := h5.setCell (os1 := []) (i := 0) (v := .int .i64 0)
              obtain ⟨z9, zf9⟩ := cellF (j := 0) (h5.at_ 0 rfl) rfl
              clear hHR hscl
              go_wp2_with (refine wpList_store_row rfl 24 (.tmp 8) (.tmp 55) rfl g8 #[.slice bs n q, .int .i64 left, .int .i64 tear, .bool false] rfl rfl 24 _ (h4.at_ 2 rfl) disk_info rfl (one4 rfl _ _ _) ?_)
              exact ret_dc g8 g9 _ _ rfl rfl rfl (h6.at_ 2 rfl) rfl (cellF (j := 0) (h6.at_ 0 rfl) rfl).1 rfl ⟨_, rfl, (h6.is 0 rfl : IsDk (mask S _) _ _), hg4 ▸ h6.below⟩
            · have hr := hHR.out
              rw [if_neg (by rw [HN.out.1]; exact hk0)] at hr
              obtain ⟨s, hs⟩ : ∃ s, Wl.stream rs = s := ⟨_, rfl⟩
              have hsl := stream_len (rs := rs) HN.out.2.1 HN.out.2.2
              rw [hs] at hr hsl
              have hHR2 := Lib.hid hr
              clear hr hHR
              go_wp2_with fail
              have hstr := stream_any _ _ rs (h4.is 1 rfl : IsLists _ _ _) HN.out.2.1 HN.out.2.2
              rw [hs] at hstr
              refine (Calls.sB h4 hstr).mono ?_
              rintro en w5 ⟨v5, rfl, h5⟩
              obtain ⟨sl, hsle⟩ : ∃ x, s.length = x := ⟨_, rfl⟩
              have h5b := (h5.is 0 rfl : IsBytes _ _ _)
              obtain ⟨sb, sc, rfl, -⟩ := h5b.out
              rw [hsle] at hsl h5 h5b
              rw [hsle]
              clear h4 hstr h5b hs
              go_wp2_with fail
              refine (needs_any _ sl (by omega)).mono ?_
              rintro en w6 ⟨rfl, rfl⟩
              obtain ⟨M, hM⟩ : ∃ M, Wl.needs sl = M := ⟨_, rfl⟩
              have hMu : M = 1 + sl / 128 := hM.symm
              have hr := hHR2.out
              rw [hsle, hM] at hr
              rw [hM]
              have hdn := hok.many
              have hw1 : IntKind.i64.wrap ((p : Int) + (k2 : Int)) = (p : Int) + k2 := by rw [IntKind.wrap_i64]; omega
              have hw2 : IntKind.i64.wrap ((p : Int) + (k2 : Int) - (E : Int)) = (p : Int) + k2 - E := by rw [IntKind.wrap_i64]; omega
              have hMb : M ≤ 10156250001 := by omega
              by_cases hfull : (p : Int) + k2 - E < M
              · rw [if_pos hfull] at hr
                cases hr
                have h6 := h5.setRow (os1 := [_, _]) (cs' := #[.slice none 0 0, .int .i64 0, .int .i64 0, .bool false])
                have h7 := h6.setCell (os1 := []) (i := 0) (v := .int .i64 310)
                obtain ⟨z9, zf9⟩ := cellF (j := 0) (h6.at_ 0 rfl) rfl
                clear hHR2 hscl hsl hMu hM hdn hMb hE1 hE2 hk1 hk2 hkN hf hm
                go_wp2_with (refine wpList_store_row rfl 24 (.tmp 8) (.tmp 68) rfl g8 #[.slice none 0 0, .int .i64 0, .int .i64 0, .bool false] rfl rfl 24 _ (h5.at_ 2 rfl) disk_info rfl (one4 rfl _ _ _) ?_)
                exact ret_dc g8 g9 _ _ rfl rfl rfl (h7.at_ 2 rfl) rfl (cellF (j := 0) (h7.at_ 0 rfl) rfl).1 rfl ⟨_, rfl, dk_zero _, hg4 ▸ h7.below⟩
              · rw [if_neg hfull] at hr
                have hfb : ¬ ((p : Int) + k2 - E < M) := hfull
                have hEM : E + M ≤ p + k2 := by omega
                have hpe : ((p : Int) + (k2 : Int)).toNat = p + k2 := by omega
                rw [hpe] at hr
                have hsl2 : sl ≤ 524288 := by omega
                have HS := Lib.hid (And.intro hr (And.intro hsle (And.intro hMu (And.intro hEM (And.intro hok (And.intro hstp (And.intro hk2 (And.intro hE1 hdn))))))))
                clear hHR2 hr hsle hM hMu hscl hok hstp hdn hk2 hMb hsl hkN
                go_upto_region 21 with (refine wpList_alloc rfl 73 rfl _ sector_zero ?_)
                try simp only [Act.put, List.getElem_toArray, List.getElem_cons_succ, List.getElem_cons_zero, List.setIfInBounds_toArray, List.set_cons_zero, List.set_cons_succ]
                rw [zero_cells, show (Value.agg (zeroSec.map u8v).toArray).cells = (zeroSec.map u8v).toArray from rfl]
                have h6 := h5.alloc (.cells (zeroSec.map u8v).toArray 73)
                clear h5
                generalize World.alloc _ _ = W6 at h6 ⊢
                generalize w6.heap.size = gh at h6 ⊢
                obtain ⟨kk, hkk⟩ : ∃ x, Nat.min sl 127 = x := ⟨_, rfl⟩
                have hkl1 : kk ≤ sl := by rw [← hkk]; exact Nat.min_le_left _ _
                have hkl2 : kk ≤ 127 := by rw [← hkk]; exact Nat.min_le_right _ _
                have HKK := Lib.hid hkk
                clear hkk
                obtain ⟨A, hA⟩ : ∃ A, ((s.take kk ++ List.replicate (128 - kk) 0).map u8v).toArray = A := ⟨_, rfl⟩
                have HA := Lib.hid hA
                clear hA
                have hfrom := fun W (h : IsBytes W (.slice sb sl sc) s) => h.from_ kk (by rw [HS.out.2.1]; exact hkl1)
                go_cut [14] from 69 to 73 (fun sv wr => ∃ (b' : Option Addr) (q' : Nat), sv = .slice b' (sl - kk) q' ∧ St w wr [(gh, .cells A 73 (0, 0)), (g9, .cells #[.int .i64 0] 27 (0, 0)), (g4, .cells #[.slice bs n q, .int .i64 left, .int .i64 tear, .bool false] 24 (0, 0)), (g8, .cells #[.slice none 0 0, .int .i64 0, .int .i64 0, .bool false] 24 (0, 0))] [(IsBytes · (.slice b' (sl - kk) q') (s.drop kk)), fun x => IsDk (mask S x) (.agg #[.slice bs n q, .int .i64 left, .int .i64 tear, .bool false]) d])
                case first =>
                  have hz := h6.at_ 0 rfl
                  have h7 := h6.setRow (os1 := []) (cs' := A)
                  by_cases hcp : sc = kk
                  · subst hcp
                    have h8 := h7.put (Mono.bytes _ _) (hfrom _ (h7.get 0 rfl))
                    rw [if_pos rfl, Nat.sub_self] at h8
                    have h9 := h8.facts (fs' := [(IsBytes · (.slice sb (sl - sc) 0) (s.drop sc)), fun x => IsDk (mask S x) (.agg #[.slice bs n q, .int .i64 left, .int .i64 tear, .bool false]) d]) (fun P hP => by simp only [List.mem_cons, List.not_mem_nil, or_false] at hP ⊢; rcases hP with rfl | rfl <;> simp)
                    go_wp2_with (go_loud (refine wpList_copy_arr rfl (.tmp 70) (.tmp 71) 42 42 rfl 5 Try.underlying42 (by kernel_rfl) gh 127 128 128 rfl sb sl sc s rfl (h6.is 0 rfl) 73 hz (by decide) _ HKK.out A HA.out ?_))
                    go_meet
                    case rel => exact ⟨_, _, rfl, h9⟩
                  · have h8 := h7.put (Mono.bytes _ _) (hfrom _ (h7.get 0 rfl))
                    rw [if_neg hcp] at h8
                    have h9 := h8.facts (fs' := [(IsBytes · (.slice (sb.map (·.add kk)) (sl - kk) (sc - kk)) (s.drop kk)), fun x => IsDk (mask S x) (.agg #[.slice bs n q, .int .i64 left, .int .i64 tear, .bool false]) d]) (fun P hP => by simp only [List.mem_cons, List.not_mem_nil, or_false] at hP ⊢; rcases hP with rfl | rfl <;> simp)
                    go_wp2_with (go_loud (refine wpList_copy_arr rfl (.tmp 70) (.tmp 71) 42 42 rfl 5 Try.underlying42 (by kernel_rfl) gh 127 128 128 rfl sb sl sc s rfl (h6.is 0 rfl) 73 hz (by decide) _ HKK.out A HA.out ?_))
                    go_meet
                    case rel => exact ⟨_, _, rfl, h9⟩
                case rest =>
                obtain ⟨b1, q1, rfl, h7⟩ := hcut
                clear h6 hfrom
                have h8 := h7.setCell (os1 := []) (i := 127) (v := .int .u8 165)
                have hcl : (List.take kk s).length = kk := by rw [List.length_take, HS.out.2.1]; omega
                obtain ⟨t7, tf7⟩ := cellF (j := 127) (h7.at_ 0 rfl) (by rw [← HA.out]; exact fill_at hcl (by omega) (by omega))
                rw [show A.setIfInBounds 127 (.int .u8 165) = ((Wl.headS s).map u8v).toArray by rw [← HA.out]; exact head_set (by rw [HS.out.2.1]; exact HKK.out)] at h8
                obtain ⟨HB, hHB⟩ : ∃ A, ((Wl.headS s).map u8v).toArray = A := ⟨_, rfl⟩
                rw [hHB] at h8
                have HHB := Lib.hid hHB
                clear hHB
                have hp := HS.out.1
                unfold Wl.sched at hp
                obtain ⟨TL, hTL⟩ : ∃ T, ((if E + M < p + k2 then [(E + M, zeroSec)] else []) ++ [(E, Wl.headS s)]) = T := ⟨_, rfl⟩
                rw [hTL, drop_fill (k := kk) (by rw [HS.out.2.1]; exact HKK.out)] at hp
                have HTL := Lib.hid hTL
                have HP := Lib.hid hp
                clear hTL hp
                have hM1 : 1 ≤ M := by have := HS.out.2.2.1; omega
                have hM2 : M ≤ 4097 := by have := HS.out.2.2.1; omega
                have hE2 : E ≤ 4096 := by have := HS.out.2.2.2.1; have := HS.out.2.2.2.2.2.2.2.2; have := HS.out.2.2.2.2.2.2.1; omega
                go_upto_region 25 with fail
                clear t7 tf7 h7
                generalize World.setCell _ _ _ = W8 at h8 ⊢
                go_loopw [14, 18] (fun bv iv wr => ∃ (i : Nat) (b : Option Addr) (nn qq : Nat) (l : List UInt8) (di : Dk) (bd : Option Addr) (nd qd : Nat), 1 ≤ i ∧ i ≤ M ∧ iv = .int .i64 i ∧ bv = .slice b nn qq ∧ nn ≤ 524288 ∧ Hid (di.puts (Wl.secs E i (M - i) l ++ TL) = (D, c)) ∧ St w wr [(g9, .cells #[.int .i64 0] 27 (0, 0)), (g4, .cells #[.slice bd nd qd, .int .i64 di.left, .int .i64 di.tear, .bool di.stopped] 24 (0, 0)), (gh, .cells HB 73 (0, 0)), (g8, .cells #[.slice none 0 0, .int .i64 0, .int .i64 0, .bool false] 24 (0, 0))] [(fun x => IsDk (mask S x) (.agg #[.slice bd nd qd, .int .i64 di.left, .int .i64 di.tear, .bool di.stopped]) di), (IsBytes · (.slice b nn qq) l)]) (fun _ iv _ => M - (intOf iv).toNat)
                case atStart =>
                  refine ⟨1, _, _, _, _, d, bs, n, q, by omega, hM1, rfl, rfl, by omega, HP, ?_⟩
                  rw [HD.out.2.1, HD.out.2.2.1, HD.out.2.2.2]
                  exact ((h8.perm (os' := [(g9, _), (g4, _), (gh, _), (g8, _)]) ((List.Perm.swap _ _ _).trans (List.Perm.cons _ (List.Perm.swap _ _ _)))).facts (fs' := [(fun x => IsDk (mask S x) (.agg #[.slice bs n q, .int .i64 left, .int .i64 tear, .bool false]) d), (IsBytes · (.slice b1 (sl - kk) q1) (s.drop kk))]) (fun P hP => by simp only [List.mem_cons, List.not_mem_nil, or_false] at hP ⊢; rcases hP with rfl | rfl <;> simp))
                case round =>
                  clear h8 HP
                  obtain ⟨i, b, nn, qq, l, di, bd, nd, qd, hi1, hiM, rfl, rfl, hnn, HPL, hst⟩ := hrel
                  by_cases hlt : i < M
                  · obtain ⟨j, hj⟩ : ∃ j, M - i = j + 1 := ⟨M - i - 1, by omega⟩
                    have hp := HPL.out
                    rw [hj] at hp
                    unfold Wl.secs at hp
                    rw [List.cons_append] at hp
                    have HP1 := Lib.hid hp
                    clear hp HPL
                    go_upto_region 28 with (refine wpList_alloc rfl 73 rfl _ sector_zero ?_)
                    try simp only [Act.put, List.getElem_toArray, List.getElem_cons_succ, List.getElem_cons_zero, List.setIfInBounds_toArray, List.set_cons_zero, List.set_cons_succ]
                    rw [zero_cells, show (Value.agg (zeroSec.map u8v).toArray).cells = (zeroSec.map u8v).toArray from rfl]
                    have h6 := hst.alloc (.cells (zeroSec.map u8v).toArray 73)
                    clear hst
                    generalize World.alloc _ _ = W6 at h6 ⊢
                    generalize wr.heap.size = gs at h6 ⊢
                    obtain ⟨kk2, hkk⟩ : ∃ x, Nat.min nn 128 = x := ⟨_, rfl⟩
                    have hkm1 : kk2 ≤ nn := by rw [← hkk]; exact Nat.min_le_left _ _
                    have hkm2 : kk2 ≤ 128 := by rw [← hkk]; exact Nat.min_le_right _ _
                    have HKK2 := Lib.hid hkk
                    have hnl : nn = l.length := by obtain ⟨_, _, e, _, _, _, _⟩ := (h6.is 1 rfl : IsBytes _ _ _); cases e; rfl
                    have hsf := sect_fill (l := l) (k := kk2) (by rw [← hnl]; exact hkk)
                    have hfrom := fun W (h : IsBytes W (.slice b nn qq) l) => h.from_ kk2 (by rw [← hnl]; exact hkm1)
                    have hA2 : ((l.take kk2 ++ List.replicate (128 - kk2) 0).map u8v).toArray = ((Wl.piece l).map u8v).toArray := by rw [hsf.1]
                    obtain ⟨A2, hPA⟩ : ∃ A, ((Wl.piece l).map u8v).toArray = A := ⟨_, rfl⟩
                    rw [hPA] at hA2
                    rw [hsf.2] at hfrom
                    have HA2 := Lib.hid (And.intro hA2 hPA)
                    clear hkk hA2 hPA hsf hnl
                    go_cut [14] from 81 to 85 (fun sv wr => ∃ (b' : Option Addr) (q' : Nat), sv = .slice b' (nn - kk2) q' ∧ St w wr [(gs, .cells A2 73 (0, 0)), (g9, .cells #[.int .i64 0] 27 (0, 0)), (g4, .cells #[.slice bd nd qd, .int .i64 di.left, .int .i64 di.tear, .bool di.stopped] 24 (0, 0)), (gh, .cells HB 73 (0, 0)), (g8, .cells #[.slice none 0 0, .int .i64 0, .int .i64 0, .bool false] 24 (0, 0))] [(IsBytes · (.slice b' (nn - kk2) q') (l.drop 128)), fun x => IsDk (mask S x) (.agg #[.slice bd nd qd, .int .i64 di.left, .int .i64 di.tear, .bool di.stopped]) di])
                    case first =>
                      have hz := h6.at_ 0 rfl
                      have h7 := h6.setRow (os1 := []) (cs' := A2)
                      by_cases hcp : qq = kk2
                      · subst hcp 
                        have h8 := h7.put (Mono.bytes _ _) (hfrom _ (h7.get 1 rfl))
                        rw [if_pos rfl, Nat.sub_self] at h8
                        have h9 := h8.facts (fs' := [(IsBytes · (.slice b (nn - qq) 0) (l.drop 128)), fun x => IsDk (mask S x) (.agg #[.slice bd nd qd, .int .i64 di.left, .int .i64 di.tear, .bool di.stopped]) di]) (fun P hP => by simp only [List.mem_cons, List.not_mem_nil, or_false] at hP ⊢; rcases hP with rfl | rfl <;> simp)
                        go_wp2_with (go_loud (refine wpList_copy_arr rfl (.tmp 82) (.tmp 83) 42 42 rfl 5 Try.underlying42 (by kernel_rfl) gs 128 128 128 rfl b nn _ l rfl (h6.is 1 rfl) 73 hz (by decide) _ HKK2.out A2 HA2.out.1 ?_))
                        go_meet
                        case rel => exact ⟨_, _, rfl, h9⟩
                      · have h8 := h7.put (Mono.bytes _ _) (hfrom _ (h7.get 1 rfl))
                        skip
                        rw [if_neg hcp] at h8
                        have h9 := h8.facts (fs' := [(IsBytes · (.slice (b.map (·.add kk2)) (nn - kk2) (qq - kk2)) (l.drop 128)), fun x => IsDk (mask S x) (.agg #[.slice bd nd qd, .int .i64 di.left, .int .i64 di.tear, .bool di.stopped]) di]) (fun P hP => by simp only [List.mem_cons, List.not_mem_nil, or_false] at hP ⊢; rcases hP with rfl | rfl <;> simp)
                        go_wp2_with (go_loud (refine wpList_copy_arr rfl (.tmp 82) (.tmp 83) 42 42 rfl 5 Try.underlying42 (by kernel_rfl) gs 128 128 128 rfl b nn _ l rfl (h6.is 1 rfl) 73 hz (by decide) _ HKK2.out A2 HA2.out.1 ?_))
                        go_meet
                        case rel => exact ⟨_, _, rfl, h9⟩
                    case rest =>
                    obtain ⟨b9, q9, rfl, h7⟩ := hcut
                    clear h6 hfrom
                    obtain ⟨⟨D1, c1⟩, hwr⟩ : ∃ r, di.write ((E + i : Nat) : Int) (Wl.piece l) = r := ⟨_, rfl⟩
                    have hw : IntKind.i64.wrap ((E : Int) + (i : Int)) = ((E + i : Nat) : Int) := by rw [IntKind.wrap_i64]; omega
                    have HWR := Lib.hid hwr
                    clear hwr
                    have h8 := h7.perm (os' := [(g9, _), (g4, _), (gs, _), (gh, _), (g8, _)]) ((List.Perm.swap _ _ _).trans (List.Perm.cons _ (List.Perm.swap _ _ _)))
                    have h9 := h8.facts (fs' := [(fun x => IsDk (mask S x) (.agg #[.slice bd nd qd, .int .i64 di.left, .int .i64 di.tear, .bool di.stopped]) di), (IsBytes · (.slice b9 (nn - kk2) q9) (l.drop 128))]) (fun P hP => by simp only [List.mem_cons, List.not_mem_nil, or_false] at hP ⊢; rcases hP with rfl | rfl <;> simp)
                    go_wp2_with (go_loud (refine wpList_load_row rfl 73 (.tmp 19) rfl gs rfl 73 _ (0, 0) _ (h7.at_ 0 rfl) Try.underlying73 rfl (by rw [sec_info, ← HA2.out.2]; simp [Wl.piece_len]) ?_))
                    rw [← HA2.out.2] at h9 ⊢
                    refine (put_S S h9 hS ((E + i : Nat) : Int) (Wl.piece l) (Wl.piece_len l) HWR.out).mono ?_
                    rintro en w10 ⟨b5, q5, rfl, h10⟩
                    clear h7 h8 h9
                    have h11 := (h10.loose (os1 := [_, _])).facts (fs' := [(fun x => IsDk (mask S x) (.agg #[.slice b5 D1.sec.length q5, .int .i64 D1.left, .int .i64 D1.tear, .bool D1.stopped]) D1), (IsBytes · (.slice b9 (nn - kk2) q9) (l.drop 128))]) (fun P hP => by simp only [List.mem_cons, List.not_mem_nil, or_false] at hP ⊢; rcases hP with rfl | rfl <;> simp)
                    clear h10
                    by_cases hc1 : c1 = 0
                    · subst hc1
                      have hnp := (Dk.puts_ok HWR.out).symm.trans HP1.out
                      have hji : M - (i + 1) = j := by omega
                      rw [← hji] at hnp
                      have HNP := Lib.hid hnp
                      clear hnp HP1 HWR hji hj
                      have hwi : IntKind.i64.wrap ((i : Int) + 1) = ((i + 1 : Nat) : Int) := by rw [IntKind.wrap_i64]; omega
                      go_wp2_with fail
                      go_roundw
                      case rel => exact ⟨i + 1, b9, nn - kk2, q9, l.drop 128, D1, b5, _, q5, by omega, by omega, rfl, rfl, by omega, HNP, h11⟩
                      case measure => simp [intOf]; omega
                    · have hnp := (Dk.puts_bad HWR.out hc1).symm.trans HP1.out
                      cases hnp
                      have hcn := beq_of hc1
                      go_upto_region 30 with fail
                      have k12 := h11.drew
                      have k13 := k12.setRow (os1 := [_, _, _]) (cs' := #[.slice b5 D.sec.length q5, .int .i64 D.left, .int .i64 D.tear, .bool D.stopped])
                      have k14 := k13.setCell (os1 := []) (i := 0) (v := .int .i64 c)
                      obtain ⟨x9, xf9⟩ := cellF (j := 0) (k12.at_ 0 rfl) rfl
                      obtain ⟨y9, yf9⟩ := cellF (j := 0) (k13.at_ 0 rfl) rfl
                      have HEND := Lib.hid (And.intro (k14.at_ 3 rfl) (And.intro (cellF (j := 0) (k14.at_ 0 rfl) rfl).1 (And.intro (k14.is 0 rfl : IsDk (mask S _) _ _) k14.below)))
                      apply (wpIn_wide (n := 0)).1
                      refine wpIn_region_any (by kernel_rfl) ?_
                      change wpAnyIn _ _ _ _ _ _ _ _ _ (World.drew _)
                      generalize World.drew w10 = W12 at *
                      clear h11 k13 k14 hcn hc1 HP1 HWR HS HN HD HKK HKK2 HA HA2 HHB HTL
                      refine wpAnyIn_ready (rs := [0, 1]) (by kernel_rfl) (by decide) ?_
                      refine allIn_val (u := .agg #[.slice b5 D.sec.length q5, .int .i64 D.left, .int .i64 D.tear, .bool D.stopped]) (w' := W12) rfl rfl (by simp [Oper.about]) (fun c h => by cases h) (by exact run_load_disk rfl rfl (k12.at_ 1 rfl) rfl) ?_ (allIn_val (u := .int .i64 c) (w' := W12) rfl rfl (by simp [Oper.about]) (fun c h => by cases h) (by go_simp) ?_ AllReadyIn.nil)
                      · try simp only [Act.put, List.getElem_toArray, List.getElem_cons_succ, List.getElem_cons_zero, List.setIfInBounds_toArray, List.set_cons_zero, List.set_cons_succ]
                        refine wpAnyIn_ready (rs := [1, 2]) (by kernel_rfl) (by decide) ?_
                        refine allIn_val (u := .int .i64 c) (w' := W12) rfl rfl (by simp [Oper.about]) (fun c h => by cases h) (by go_simp) ?_ (allIn_skip (w' := (W12.setRow g8 #[.slice b5 D.sec.length q5, .int .i64 D.left, .int .i64 D.tear, .bool D.stopped])) rfl rfl (by simp [Oper.about]) (fun c h => by cases h) (by exact run_store_var rfl rfl rfl (k12.at_ 3 rfl) disk_info rfl (one4 rfl _ _ _)) ?_ AllReadyIn.nil)
                        · try simp only [Act.put, List.getElem_toArray, List.getElem_cons_succ, List.getElem_cons_zero, List.setIfInBounds_toArray, List.set_cons_zero, List.set_cons_succ]
                          refine wpAnyIn_ready (rs := [2]) (by kernel_rfl) (by decide) ?_
                          refine allIn_skip (w' := (W12.setRow g8 #[.slice b5 D.sec.length q5, .int .i64 D.left, .int .i64 D.tear, .bool D.stopped])) rfl rfl (by simp [Oper.about]) (fun c h => by cases h) (by exact run_store_var rfl rfl rfl (k12.at_ 3 rfl) disk_info rfl (one4 rfl _ _ _)) ?_ AllReadyIn.nil
                          try simp only [Act.put, List.getElem_toArray, List.getElem_cons_succ, List.getElem_cons_zero, List.setIfInBounds_toArray, List.set_cons_zero, List.set_cons_succ]
                          refine wpAnyIn_ready (rs := [3]) (by kernel_rfl) (by decide) ?_
                          refine allIn_skip (w' := ((W12.setRow g8 #[.slice b5 D.sec.length q5, .int .i64 D.left, .int .i64 D.tear, .bool D.stopped]).setCell ⟨g9, 0, none⟩ (.int .i64 c))) rfl rfl (by simp [Oper.about]) (fun c h => by cases h) (by go_simp) ?_ AllReadyIn.nil
                          try simp only [Act.put, List.getElem_toArray, List.getElem_cons_succ, List.getElem_cons_zero, List.setIfInBounds_toArray, List.set_cons_zero, List.set_cons_succ]
                          refine wpAnyIn_done (by kernel_rfl) ?_ _
                          go_wp2_with fail
                          exact ret_dc g8 g9 _ _ rfl rfl rfl HEND.out.1 rfl HEND.out.2.1 rfl ⟨_, rfl, HEND.out.2.2.1, hg4 ▸ HEND.out.2.2.2⟩
                        · try simp only [Act.put, List.getElem_toArray, List.getElem_cons_succ, List.getElem_cons_zero, List.setIfInBounds_toArray, List.set_cons_zero, List.set_cons_succ]
                          refine wpAnyIn_ready (rs := [1]) (by kernel_rfl) (by decide) ?_
                          refine allIn_val (u := .int .i64 c) (w' := (W12.setRow g8 #[.slice b5 D.sec.length q5, .int .i64 D.left, .int .i64 D.tear, .bool D.stopped])) rfl rfl (by simp [Oper.about]) (fun c h => by cases h) (by go_simp) ?_ AllReadyIn.nil
                          try simp only [Act.put, List.getElem_toArray, List.getElem_cons_succ, List.getElem_cons_zero, List.setIfInBounds_toArray, List.set_cons_zero, List.set_cons_succ]
                          refine wpAnyIn_ready (rs := [3]) (by kernel_rfl) (by decide) ?_
                          refine allIn_skip (w' := ((W12.setRow g8 #[.slice b5 D.sec.length q5, .int .i64 D.left, .int .i64 D.tear, .bool D.stopped]).setCell ⟨g9, 0, none⟩ (.int .i64 c))) rfl rfl (by simp [Oper.about]) (fun c h => by cases h) (by go_simp) ?_ AllReadyIn.nil
                          try simp only [Act.put, List.getElem_toArray, List.getElem_cons_succ, List.getElem_cons_zero, List.setIfInBounds_toArray, List.set_cons_zero, List.set_cons_succ]
                          refine wpAnyIn_done (by kernel_rfl) ?_ _
                          go_wp2_with fail
                          exact ret_dc g8 g9 _ _ rfl rfl rfl HEND.out.1 rfl HEND.out.2.1 rfl ⟨_, rfl, HEND.out.2.2.1, hg4 ▸ HEND.out.2.2.2⟩
                      · try simp only [Act.put, List.getElem_toArray, List.getElem_cons_succ, List.getElem_cons_zero, List.setIfInBounds_toArray, List.set_cons_zero, List.set_cons_succ]
                        refine wpAnyIn_ready (rs := [0]) (by kernel_rfl) (by decide) ?_
                        refine allIn_val (u := .agg #[.slice b5 D.sec.length q5, .int .i64 D.left, .int .i64 D.tear, .bool D.stopped]) (w' := W12) rfl rfl (by simp [Oper.about]) (fun c h => by cases h) (by exact run_load_disk rfl rfl (k12.at_ 1 rfl) rfl) ?_ AllReadyIn.nil
                        try simp only [Act.put, List.getElem_toArray, List.getElem_cons_succ, List.getElem_cons_zero, List.setIfInBounds_toArray, List.set_cons_zero, List.set_cons_succ]
                        refine wpAnyIn_ready (rs := [2]) (by kernel_rfl) (by decide) ?_
                        refine allIn_skip (w' := (W12.setRow g8 #[.slice b5 D.sec.length q5, .int .i64 D.left, .int .i64 D.tear, .bool D.stopped])) rfl rfl (by simp [Oper.about]) (fun c h => by cases h) (by exact run_store_var rfl rfl rfl (k12.at_ 3 rfl) disk_info rfl (one4 rfl _ _ _)) ?_ AllReadyIn.nil
                        try simp only [Act.put, List.getElem_toArray, List.getElem_cons_succ, List.getElem_cons_zero, List.setIfInBounds_toArray, List.set_cons_zero, List.set_cons_succ]
                        refine wpAnyIn_ready (rs := [3]) (by kernel_rfl) (by decide) ?_
                        refine allIn_skip (w' := ((W12.setRow g8 #[.slice b5 D.sec.length q5, .int .i64 D.left, .int .i64 D.tear, .bool D.stopped]).setCell ⟨g9, 0, none⟩ (.int .i64 c))) rfl rfl (by simp [Oper.about]) (fun c h => by cases h) (by go_simp) ?_ AllReadyIn.nil
                        try simp only [Act.put, List.getElem_toArray, List.getElem_cons_succ, List.getElem_cons_zero, List.setIfInBounds_toArray, List.set_cons_zero, List.set_cons_succ]
                        refine wpAnyIn_done (by kernel_rfl) ?_ _
                        go_wp2_with fail
                        exact ret_dc g8 g9 _ _ rfl rfl rfl HEND.out.1 rfl HEND.out.2.1 rfl ⟨_, rfl, HEND.out.2.2.1, hg4 ▸ HEND.out.2.2.2⟩
                  · have hiM2 : M = i := by omega
                    subst hiM2
                    have hp := HPL.out
                    rw [Nat.sub_self] at hp
                    unfold Wl.secs at hp
                    rw [List.nil_append, ← HTL.out] at hp
                    clear HPL
                    have hw : IntKind.i64.wrap ((E : Int) + (M : Int)) = ((E + M : Nat) : Int) := by rw [IntKind.wrap_i64]; omega
                    have hw9 : IntKind.i64.wrap ((p : Int) + (k2 : Int)) = ((p + k2 : Nat) : Int) := by rw [IntKind.wrap_i64]; have := HS.out.2.2.2.2.2.2.2.2; have := HS.out.2.2.2.2.2.2.1; omega
                    by_cases hroom : E + M < p + k2
                    · have hroomI : ((E + M : Nat) : Int) < ((p + k2 : Nat) : Int) := by omega
                      rw [if_pos hroom] at hp
                      have HP2 := Lib.hid hp
                      clear hp
                      go_wp2_with fail
                      obtain ⟨⟨D1, c1⟩, hwr⟩ : ∃ r, di.write ((E + M : Nat) : Int) zeroSec = r := ⟨_, rfl⟩
                      have HWR := Lib.hid hwr
                      clear hwr
                      rw [show (E : Int) + (M : Int) = ((E + M : Nat) : Int) by omega, show Try.zeroCells73 = (zeroSec.map u8v).toArray from zero_cells]
                      refine (put_S S hst hS ((E + M : Nat) : Int) zeroSec zeroSec_len HWR.out).mono ?_
                      rintro en w10 ⟨b5, q5, rfl, h11⟩
                      clear hst
                      by_cases hc1 : c1 = 0
                      · subst hc1
                        have hnp := (Dk.puts_ok HWR.out).symm.trans HP2.out
                        have HP3 := Lib.hid hnp
                        clear hnp HP2 HWR
                        go_wp2_with (go_loud (refine wpList_load_row rfl 73 (.tmp 16) rfl gh rfl 73 _ (0, 0) _ (h11.at_ 2 rfl) Try.underlying73 rfl (by rw [sec_info, ← HHB.out]; simp [Wl.headS_len]) ?_))
                        rw [← HHB.out] at h11 ⊢
                        refine (put_S S h11 hS (E : Int) (Wl.headS s) (Wl.headS_len s) (Dk.puts_one.symm.trans HP3.out)).mono ?_
                        rintro en w14 ⟨b6, q6, rfl, h14⟩
                        clear h11
                        go_upto_region 34 with fail
                        have k12 := h14.drew
                        have k13 := k12.setRow (os1 := [_, _, _]) (cs' := #[.slice b6 D.sec.length q6, .int .i64 D.left, .int .i64 D.tear, .bool D.stopped])
                        have k14 := k13.setCell (os1 := []) (i := 0) (v := .int .i64 c)
                        obtain ⟨x9, xf9⟩ := cellF (j := 0) (k12.at_ 0 rfl) rfl
                        obtain ⟨y9, yf9⟩ := cellF (j := 0) (k13.at_ 0 rfl) rfl
                        have HEND := Lib.hid (And.intro (k14.at_ 3 rfl) (And.intro (cellF (j := 0) (k14.at_ 0 rfl) rfl).1 (And.intro (k14.is 0 rfl : IsDk (mask S _) _ _) k14.below)))
                        apply (wpIn_wide (n := 0)).1
                        refine wpIn_region_any (by kernel_rfl) ?_
                        change wpAnyIn _ _ _ _ _ _ _ _ _ (World.drew _)
                        generalize World.drew w14 = W12 at *
                        clear h14 k13 k14 HP3 HS HN HD HKK HA HTL hroom hroomI hw hw9
                        refine wpAnyIn_ready (rs := [0, 1]) (by kernel_rfl) (by decide) ?_
                        refine allIn_val (u := .agg #[.slice b6 D.sec.length q6, .int .i64 D.left, .int .i64 D.tear, .bool D.stopped]) (w' := W12) rfl rfl (by simp [Oper.about]) (fun c h => by cases h) (by exact run_load_disk rfl rfl (k12.at_ 1 rfl) rfl) ?_ (allIn_val (u := .int .i64 c) (w' := W12) rfl rfl (by simp [Oper.about]) (fun c h => by cases h) (by go_simp) ?_ AllReadyIn.nil)
                        · try simp only [Act.put, List.getElem_toArray, List.getElem_cons_succ, List.getElem_cons_zero, List.setIfInBounds_toArray, List.set_cons_zero, List.set_cons_succ]
                          refine wpAnyIn_ready (rs := [1, 2]) (by kernel_rfl) (by decide) ?_
                          refine allIn_val (u := .int .i64 c) (w' := W12) rfl rfl (by simp [Oper.about]) (fun c h => by cases h) (by go_simp) ?_ (allIn_skip (w' := (W12.setRow g8 #[.slice b6 D.sec.length q6, .int .i64 D.left, .int .i64 D.tear, .bool D.stopped])) rfl rfl (by simp [Oper.about]) (fun c h => by cases h) (by exact run_store_var rfl rfl rfl (k12.at_ 3 rfl) disk_info rfl (one4 rfl _ _ _)) ?_ AllReadyIn.nil)
                          · try simp only [Act.put, List.getElem_toArray, List.getElem_cons_succ, List.getElem_cons_zero, List.setIfInBounds_toArray, List.set_cons_zero, List.set_cons_succ]
                            refine wpAnyIn_ready (rs := [2]) (by kernel_rfl) (by decide) ?_
                            refine allIn_skip (w' := (W12.setRow g8 #[.slice b6 D.sec.length q6, .int .i64 D.left, .int .i64 D.tear, .bool D.stopped])) rfl rfl (by simp [Oper.about]) (fun c h => by cases h) (by exact run_store_var rfl rfl rfl (k12.at_ 3 rfl) disk_info rfl (one4 rfl _ _ _)) ?_ AllReadyIn.nil
                            try simp only [Act.put, List.getElem_toArray, List.getElem_cons_succ, List.getElem_cons_zero, List.setIfInBounds_toArray, List.set_cons_zero, List.set_cons_succ]
                            refine wpAnyIn_ready (rs := [3]) (by kernel_rfl) (by decide) ?_
                            refine allIn_skip (w' := ((W12.setRow g8 #[.slice b6 D.sec.length q6, .int .i64 D.left, .int .i64 D.tear, .bool D.stopped]).setCell ⟨g9, 0, none⟩ (.int .i64 c))) rfl rfl (by simp [Oper.about]) (fun c h => by cases h) (by go_simp) ?_ AllReadyIn.nil
                            try simp only [Act.put, List.getElem_toArray, List.getElem_cons_succ, List.getElem_cons_zero, List.setIfInBounds_toArray, List.set_cons_zero, List.set_cons_succ]
                            refine wpAnyIn_done (by kernel_rfl) ?_ _
                            go_wp2_with fail
                            exact ret_dc g8 g9 _ _ rfl rfl rfl HEND.out.1 rfl HEND.out.2.1 rfl ⟨_, rfl, HEND.out.2.2.1, hg4 ▸ HEND.out.2.2.2⟩
                          · try simp only [Act.put, List.getElem_toArray, List.getElem_cons_succ, List.getElem_cons_zero, List.setIfInBounds_toArray, List.set_cons_zero, List.set_cons_succ]
                            refine wpAnyIn_ready (rs := [1]) (by kernel_rfl) (by decide) ?_
                            refine allIn_val (u := .int .i64 c) (w' := (W12.setRow g8 #[.slice b6 D.sec.length q6, .int .i64 D.left, .int .i64 D.tear, .bool D.stopped])) rfl rfl (by simp [Oper.about]) (fun c h => by cases h) (by go_simp) ?_ AllReadyIn.nil
                            try simp only [Act.put, List.getElem_toArray, List.getElem_cons_succ, List.getElem_cons_zero, List.setIfInBounds_toArray, List.set_cons_zero, List.set_cons_succ]
                            refine wpAnyIn_ready (rs := [3]) (by kernel_rfl) (by decide) ?_
                            refine allIn_skip (w' := ((W12.setRow g8 #[.slice b6 D.sec.length q6, .int .i64 D.left, .int .i64 D.tear, .bool D.stopped]).setCell ⟨g9, 0, none⟩ (.int .i64 c))) rfl rfl (by simp [Oper.about]) (fun c h => by cases h) (by go_simp) ?_ AllReadyIn.nil
                            try simp only [Act.put, List.getElem_toArray, List.getElem_cons_succ, List.getElem_cons_zero, List.setIfInBounds_toArray, List.set_cons_zero, List.set_cons_succ]
                            refine wpAnyIn_done (by kernel_rfl) ?_ _
                            go_wp2_with fail
                            exact ret_dc g8 g9 _ _ rfl rfl rfl HEND.out.1 rfl HEND.out.2.1 rfl ⟨_, rfl, HEND.out.2.2.1, hg4 ▸ HEND.out.2.2.2⟩
                        · try simp only [Act.put, List.getElem_toArray, List.getElem_cons_succ, List.getElem_cons_zero, List.setIfInBounds_toArray, List.set_cons_zero, List.set_cons_succ]
                          refine wpAnyIn_ready (rs := [0]) (by kernel_rfl) (by decide) ?_
                          refine allIn_val (u := .agg #[.slice b6 D.sec.length q6, .int .i64 D.left, .int .i64 D.tear, .bool D.stopped]) (w' := W12) rfl rfl (by simp [Oper.about]) (fun c h => by cases h) (by exact run_load_disk rfl rfl (k12.at_ 1 rfl) rfl) ?_ AllReadyIn.nil
                          try simp only [Act.put, List.getElem_toArray, List.getElem_cons_succ, List.getElem_cons_zero, List.setIfInBounds_toArray, List.set_cons_zero, List.set_cons_succ]
                          refine wpAnyIn_ready (rs := [2]) (by kernel_rfl) (by decide) ?_
                          refine allIn_skip (w' := (W12.setRow g8 #[.slice b6 D.sec.length q6, .int .i64 D.left, .int .i64 D.tear, .bool D.stopped])) rfl rfl (by simp [Oper.about]) (fun c h => by cases h) (by exact run_store_var rfl rfl rfl (k12.at_ 3 rfl) disk_info rfl (one4 rfl _ _ _)) ?_ AllReadyIn.nil
                          try simp only [Act.put, List.getElem_toArray, List.getElem_cons_succ, List.getElem_cons_zero, List.setIfInBounds_toArray, List.set_cons_zero, List.set_cons_succ]
                          refine wpAnyIn_ready (rs := [3]) (by kernel_rfl) (by decide) ?_
                          refine allIn_skip (w' := ((W12.setRow g8 #[.slice b6 D.sec.length q6, .int .i64 D.left, .int .i64 D.tear, .bool D.stopped]).setCell ⟨g9, 0, none⟩ (.int .i64 c))) rfl rfl (by simp [Oper.about]) (fun c h => by cases h) (by go_simp) ?_ AllReadyIn.nil
                          try simp only [Act.put, List.getElem_toArray, List.getElem_cons_succ, List.getElem_cons_zero, List.setIfInBounds_toArray, List.set_cons_zero, List.set_cons_succ]
                          refine wpAnyIn_done (by kernel_rfl) ?_ _
                          go_wp2_with fail
                          exact ret_dc g8 g9 _ _ rfl rfl rfl HEND.out.1 rfl HEND.out.2.1 rfl ⟨_, rfl, HEND.out.2.2.1, hg4 ▸ HEND.out.2.2.2⟩
                      · have hnp := (Dk.puts_bad HWR.out hc1).symm.trans HP2.out
                        cases hnp
                        have hcn := beq_of hc1
                        go_upto_region 32 with fail
                        have k12 := h11.drew
                        have k13 := k12.setRow (os1 := [_, _, _]) (cs' := #[.slice b5 D.sec.length q5, .int .i64 D.left, .int .i64 D.tear, .bool D.stopped])
                        have k14 := k13.setCell (os1 := []) (i := 0) (v := .int .i64 c)
                        obtain ⟨x9, xf9⟩ := cellF (j := 0) (k12.at_ 0 rfl) rfl
                        obtain ⟨y9, yf9⟩ := cellF (j := 0) (k13.at_ 0 rfl) rfl
                        have HEND := Lib.hid (And.intro (k14.at_ 3 rfl) (And.intro (cellF (j := 0) (k14.at_ 0 rfl) rfl).1 (And.intro (k14.is 0 rfl : IsDk (mask S _) _ _) k14.below)))
                        apply (wpIn_wide (n := 0)).1
                        refine wpIn_region_any (by kernel_rfl) ?_
                        change wpAnyIn _ _ _ _ _ _ _ _ _ (World.drew _)
                        generalize World.drew w10 = W12 at *
                        clear h11 k13 k14 hcn hc1 HP2 HWR HS HN HD HKK HA HHB HTL hroom hroomI hw hw9
                        refine wpAnyIn_ready (rs := [0, 1]) (by kernel_rfl) (by decide) ?_
                        refine allIn_val (u := .agg #[.slice b5 D.sec.length q5, .int .i64 D.left, .int .i64 D.tear, .bool D.stopped]) (w' := W12) rfl rfl (by simp [Oper.about]) (fun c h => by cases h) (by exact run_load_disk rfl rfl (k12.at_ 1 rfl) rfl) ?_ (allIn_val (u := .int .i64 c) (w' := W12) rfl rfl (by simp [Oper.about]) (fun c h => by cases h) (by go_simp) ?_ AllReadyIn.nil)
                        · try simp only [Act.put, List.getElem_toArray, List.getElem_cons_succ, List.getElem_cons_zero, List.setIfInBounds_toArray, List.set_cons_zero, List.set_cons_succ]
                          refine wpAnyIn_ready (rs := [1, 2]) (by kernel_rfl) (by decide) ?_
                          refine allIn_val (u := .int .i64 c) (w' := W12) rfl rfl (by simp [Oper.about]) (fun c h => by cases h) (by go_simp) ?_ (allIn_skip (w' := (W12.setRow g8 #[.slice b5 D.sec.length q5, .int .i64 D.left, .int .i64 D.tear, .bool D.stopped])) rfl rfl (by simp [Oper.about]) (fun c h => by cases h) (by exact run_store_var rfl rfl rfl (k12.at_ 3 rfl) disk_info rfl (one4 rfl _ _ _)) ?_ AllReadyIn.nil)
                          · try simp only [Act.put, List.getElem_toArray, List.getElem_cons_succ, List.getElem_cons_zero, List.setIfInBounds_toArray, List.set_cons_zero, List.set_cons_succ]
                            refine wpAnyIn_ready (rs := [2]) (by kernel_rfl) (by decide) ?_
                            refine allIn_skip (w' := (W12.setRow g8 #[.slice b5 D.sec.length q5, .int .i64 D.left, .int .i64 D.tear, .bool D.stopped])) rfl rfl (by simp [Oper.about]) (fun c h => by cases h) (by exact run_store_var rfl rfl rfl (k12.at_ 3 rfl) disk_info rfl (one4 rfl _ _ _)) ?_ AllReadyIn.nil
                            try simp only [Act.put, List.getElem_toArray, List.getElem_cons_succ, List.getElem_cons_zero, List.setIfInBounds_toArray, List.set_cons_zero, List.set_cons_succ]
                            refine wpAnyIn_ready (rs := [3]) (by kernel_rfl) (by decide) ?_
                            refine allIn_skip (w' := ((W12.setRow g8 #[.slice b5 D.sec.length q5, .int .i64 D.left, .int .i64 D.tear, .bool D.stopped]).setCell ⟨g9, 0, none⟩ (.int .i64 c))) rfl rfl (by simp [Oper.about]) (fun c h => by cases h) (by go_simp) ?_ AllReadyIn.nil
                            try simp only [Act.put, List.getElem_toArray, List.getElem_cons_succ, List.getElem_cons_zero, List.setIfInBounds_toArray, List.set_cons_zero, List.set_cons_succ]
                            refine wpAnyIn_done (by kernel_rfl) ?_ _
                            go_wp2_with fail
                            exact ret_dc g8 g9 _ _ rfl rfl rfl HEND.out.1 rfl HEND.out.2.1 rfl ⟨_, rfl, HEND.out.2.2.1, hg4 ▸ HEND.out.2.2.2⟩
                          · try simp only [Act.put, List.getElem_toArray, List.getElem_cons_succ, List.getElem_cons_zero, List.setIfInBounds_toArray, List.set_cons_zero, List.set_cons_succ]
                            refine wpAnyIn_ready (rs := [1]) (by kernel_rfl) (by decide) ?_
                            refine allIn_val (u := .int .i64 c) (w' := (W12.setRow g8 #[.slice b5 D.sec.length q5, .int .i64 D.left, .int .i64 D.tear, .bool D.stopped])) rfl rfl (by simp [Oper.about]) (fun c h => by cases h) (by go_simp) ?_ AllReadyIn.nil
                            try simp only [Act.put, List.getElem_toArray, List.getElem_cons_succ, List.getElem_cons_zero, List.setIfInBounds_toArray, List.set_cons_zero, List.set_cons_succ]
                            refine wpAnyIn_ready (rs := [3]) (by kernel_rfl) (by decide) ?_
                            refine allIn_skip (w' := ((W12.setRow g8 #[.slice b5 D.sec.length q5, .int .i64 D.left, .int .i64 D.tear, .bool D.stopped]).setCell ⟨g9, 0, none⟩ (.int .i64 c))) rfl rfl (by simp [Oper.about]) (fun c h => by cases h) (by go_simp) ?_ AllReadyIn.nil
                            try simp only [Act.put, List.getElem_toArray, List.getElem_cons_succ, List.getElem_cons_zero, List.setIfInBounds_toArray, List.set_cons_zero, List.set_cons_succ]
                            refine wpAnyIn_done (by kernel_rfl) ?_ _
                            go_wp2_with fail
                            exact ret_dc g8 g9 _ _ rfl rfl rfl HEND.out.1 rfl HEND.out.2.1 rfl ⟨_, rfl, HEND.out.2.2.1, hg4 ▸ HEND.out.2.2.2⟩
                        · try simp only [Act.put, List.getElem_toArray, List.getElem_cons_succ, List.getElem_cons_zero, List.setIfInBounds_toArray, List.set_cons_zero, List.set_cons_succ]
                          refine wpAnyIn_ready (rs := [0]) (by kernel_rfl) (by decide) ?_
                          refine allIn_val (u := .agg #[.slice b5 D.sec.length q5, .int .i64 D.left, .int .i64 D.tear, .bool D.stopped]) (w' := W12) rfl rfl (by simp [Oper.about]) (fun c h => by cases h) (by exact run_load_disk rfl rfl (k12.at_ 1 rfl) rfl) ?_ AllReadyIn.nil
                          try simp only [Act.put, List.getElem_toArray, List.getElem_cons_succ, List.getElem_cons_zero, List.setIfInBounds_toArray, List.set_cons_zero, List.set_cons_succ]
                          refine wpAnyIn_ready (rs := [2]) (by kernel_rfl) (by decide) ?_
                          refine allIn_skip (w' := (W12.setRow g8 #[.slice b5 D.sec.length q5, .int .i64 D.left, .int .i64 D.tear, .bool D.stopped])) rfl rfl (by simp [Oper.about]) (fun c h => by cases h) (by exact run_store_var rfl rfl rfl (k12.at_ 3 rfl) disk_info rfl (one4 rfl _ _ _)) ?_ AllReadyIn.nil
                          try simp only [Act.put, List.getElem_toArray, List.getElem_cons_succ, List.getElem_cons_zero, List.setIfInBounds_toArray, List.set_cons_zero, List.set_cons_succ]
                          refine wpAnyIn_ready (rs := [3]) (by kernel_rfl) (by decide) ?_
                          refine allIn_skip (w' := ((W12.setRow g8 #[.slice b5 D.sec.length q5, .int .i64 D.left, .int .i64 D.tear, .bool D.stopped]).setCell ⟨g9, 0, none⟩ (.int .i64 c))) rfl rfl (by simp [Oper.about]) (fun c h => by cases h) (by go_simp) ?_ AllReadyIn.nil
                          try simp only [Act.put, List.getElem_toArray, List.getElem_cons_succ, List.getElem_cons_zero, List.setIfInBounds_toArray, List.set_cons_zero, List.set_cons_succ]
                          refine wpAnyIn_done (by kernel_rfl) ?_ _
                          go_wp2_with fail
                          exact ret_dc g8 g9 _ _ rfl rfl rfl HEND.out.1 rfl HEND.out.2.1 rfl ⟨_, rfl, HEND.out.2.2.1, hg4 ▸ HEND.out.2.2.2⟩
                    · have hroomI : ¬ (((E + M : Nat) : Int) < ((p + k2 : Nat) : Int)) := by omega
                      rw [if_neg hroom] at hp
                      have HP2 := Lib.hid hp
                      clear hp
                      go_wp2_with (go_loud (refine wpList_load_row rfl 73 (.tmp 16) rfl gh rfl 73 _ (0, 0) _ (hst.at_ 2 rfl) Try.underlying73 rfl (by rw [sec_info, ← HHB.out]; simp [Wl.headS_len]) ?_))
                      rw [← HHB.out] at hst ⊢
                      refine (put_S S hst hS (E : Int) (Wl.headS s) (Wl.headS_len s) (Dk.puts_one.symm.trans HP2.out)).mono ?_
                      rintro en w14 ⟨b6, q6, rfl, h14⟩
                      clear hst
                      go_upto_region 34 with fail
                      have k12 := h14.drew
                      have k13 := k12.setRow (os1 := [_, _, _]) (cs' := #[.slice b6 D.sec.length q6, .int .i64 D.left, .int .i64 D.tear, .bool D.stopped])
                      have k14 := k13.setCell (os1 := []) (i := 0) (v := .int .i64 c)
                      obtain ⟨x9, xf9⟩ := cellF (j := 0) (k12.at_ 0 rfl) rfl
                      obtain ⟨y9, yf9⟩ := cellF (j := 0) (k13.at_ 0 rfl) rfl
                      have HEND := Lib.hid (And.intro (k14.at_ 3 rfl) (And.intro (cellF (j := 0) (k14.at_ 0 rfl) rfl).1 (And.intro (k14.is 0 rfl : IsDk (mask S _) _ _) k14.below)))
                      apply (wpIn_wide (n := 0)).1
                      refine wpIn_region_any (by kernel_rfl) ?_
                      change wpAnyIn _ _ _ _ _ _ _ _ _ (World.drew _)
                      generalize World.drew w14 = W12 at *
                      clear h14 k13 k14 HP2 HS HN HD HKK HA HTL hroom hroomI hw hw9
                      refine wpAnyIn_ready (rs := [0, 1]) (by kernel_rfl) (by decide) ?_
                      refine allIn_val (u := .agg #[.slice b6 D.sec.length q6, .int .i64 D.left, .int .i64 D.tear, .bool D.stopped]) (w' := W12) rfl rfl (by simp [Oper.about]) (fun c h => by cases h) (by exact run_load_disk rfl rfl (k12.at_ 1 rfl) rfl) ?_ (allIn_val (u := .int .i64 c) (w' := W12) rfl rfl (by simp [Oper.about]) (fun c h => by cases h) (by go_simp) ?_ AllReadyIn.nil)
                      · try simp only [Act.put, List.getElem_toArray, List.getElem_cons_succ, List.getElem_cons_zero, List.setIfInBounds_toArray, List.set_cons_zero, List.set_cons_succ]
                        refine wpAnyIn_ready (rs := [1, 2]) (by kernel_rfl) (by decide) ?_
                        refine allIn_val (u := .int .i64 c) (w' := W12) rfl rfl (by simp [Oper.about]) (fun c h => by cases h) (by go_simp) ?_ (allIn_skip (w' := (W12.setRow g8 #[.slice b6 D.sec.length q6, .int .i64 D.left, .int .i64 D.tear, .bool D.stopped])) rfl rfl (by simp [Oper.about]) (fun c h => by cases h) (by exact run_store_var rfl rfl rfl (k12.at_ 3 rfl) disk_info rfl (one4 rfl _ _ _)) ?_ AllReadyIn.nil)
                        · try simp only [Act.put, List.getElem_toArray, List.getElem_cons_succ, List.getElem_cons_zero, List.setIfInBounds_toArray, List.set_cons_zero, List.set_cons_succ]
                          refine wpAnyIn_ready (rs := [2]) (by kernel_rfl) (by decide) ?_
                          refine allIn_skip (w' := (W12.setRow g8 #[.slice b6 D.sec.length q6, .int .i64 D.left, .int .i64 D.tear, .bool D.stopped])) rfl rfl (by simp [Oper.about]) (fun c h => by cases h) (by exact run_store_var rfl rfl rfl (k12.at_ 3 rfl) disk_info rfl (one4 rfl _ _ _)) ?_ AllReadyIn.nil
                          try simp only [Act.put, List.getElem_toArray, List.getElem_cons_succ, List.getElem_cons_zero, List.setIfInBounds_toArray, List.set_cons_zero, List.set_cons_succ]
                          refine wpAnyIn_ready (rs := [3]) (by kernel_rfl) (by decide) ?_
                          refine allIn_skip (w' := ((W12.setRow g8 #[.slice b6 D.sec.length q6, .int .i64 D.left, .int .i64 D.tear, .bool D.stopped]).setCell ⟨g9, 0, none⟩ (.int .i64 c))) rfl rfl (by simp [Oper.about]) (fun c h => by cases h) (by go_simp) ?_ AllReadyIn.nil
                          try simp only [Act.put, List.getElem_toArray, List.getElem_cons_succ, List.getElem_cons_zero, List.setIfInBounds_toArray, List.set_cons_zero, List.set_cons_succ]
                          refine wpAnyIn_done (by kernel_rfl) ?_ _
                          go_wp2_with fail
                          exact ret_dc g8 g9 _ _ rfl rfl rfl HEND.out.1 rfl HEND.out.2.1 rfl ⟨_, rfl, HEND.out.2.2.1, hg4 ▸ HEND.out.2.2.2⟩
                        · try simp only [Act.put, List.getElem_toArray, List.getElem_cons_succ, List.getElem_cons_zero, List.setIfInBounds_toArray, List.set_cons_zero, List.set_cons_succ]
                          refine wpAnyIn_ready (rs := [1]) (by kernel_rfl) (by decide) ?_
                          refine allIn_val (u := .int .i64 c) (w' := (W12.setRow g8 #[.slice b6 D.sec.length q6, .int .i64 D.left, .int .i64 D.tear, .bool D.stopped])) rfl rfl (by simp [Oper.about]) (fun c h => by cases h) (by go_simp) ?_ AllReadyIn.nil
                          try simp only [Act.put, List.getElem_toArray, List.getElem_cons_succ, List.getElem_cons_zero, List.setIfInBounds_toArray, List.set_cons_zero, List.set_cons_succ]
                          refine wpAnyIn_ready (rs := [3]) (by kernel_rfl) (by decide) ?_
                          refine allIn_skip (w' := ((W12.setRow g8 #[.slice b6 D.sec.length q6, .int .i64 D.left, .int .i64 D.tear, .bool D.stopped]).setCell ⟨g9, 0, none⟩ (.int .i64 c))) rfl rfl (by simp [Oper.about]) (fun c h => by cases h) (by go_simp) ?_ AllReadyIn.nil
                          try simp only [Act.put, List.getElem_toArray, List.getElem_cons_succ, List.getElem_cons_zero, List.setIfInBounds_toArray, List.set_cons_zero, List.set_cons_succ]
                          refine wpAnyIn_done (by kernel_rfl) ?_ _
                          go_wp2_with fail
                          exact ret_dc g8 g9 _ _ rfl rfl rfl HEND.out.1 rfl HEND.out.2.1 rfl ⟨_, rfl, HEND.out.2.2.1, hg4 ▸ HEND.out.2.2.2⟩
                      · try simp only [Act.put, List.getElem_toArray, List.getElem_cons_succ, List.getElem_cons_zero, List.setIfInBounds_toArray, List.set_cons_zero, List.set_cons_succ]
                        refine wpAnyIn_ready (rs := [0]) (by kernel_rfl) (by decide) ?_
                        refine allIn_val (u := .agg #[.slice b6 D.sec.length q6, .int .i64 D.left, .int .i64 D.tear, .bool D.stopped]) (w' := W12) rfl rfl (by simp [Oper.about]) (fun c h => by cases h) (by exact run_load_disk rfl rfl (k12.at_ 1 rfl) rfl) ?_ AllReadyIn.nil
                        try simp only [Act.put, List.getElem_toArray, List.getElem_cons_succ, List.getElem_cons_zero, List.setIfInBounds_toArray, List.set_cons_zero, List.set_cons_succ]
                        refine wpAnyIn_ready (rs := [2]) (by kernel_rfl) (by decide) ?_
                        refine allIn_skip (w' := (W12.setRow g8 #[.slice b6 D.sec.length q6, .int .i64 D.left, .int .i64 D.tear, .bool D.stopped])) rfl rfl (by simp [Oper.about]) (fun c h => by cases h) (by exact run_store_var rfl rfl rfl (k12.at_ 3 rfl) disk_info rfl (one4 rfl _ _ _)) ?_ AllReadyIn.nil
                        try simp only [Act.put, List.getElem_toArray, List.getElem_cons_succ, List.getElem_cons_zero, List.setIfInBounds_toArray, List.set_cons_zero, List.set_cons_succ]
                        refine wpAnyIn_ready (rs := [3]) (by kernel_rfl) (by decide) ?_
                        refine allIn_skip (w' := ((W12.setRow g8 #[.slice b6 D.sec.length q6, .int .i64 D.left, .int .i64 D.tear, .bool D.stopped]).setCell ⟨g9, 0, none⟩ (.int .i64 c))) rfl rfl (by simp [Oper.about]) (fun c h => by cases h) (by go_simp) ?_ AllReadyIn.nil
                        try simp only [Act.put, List.getElem_toArray, List.getElem_cons_succ, List.getElem_cons_zero, List.setIfInBounds_toArray, List.set_cons_zero, List.set_cons_succ]
                        refine wpAnyIn_done (by kernel_rfl) ?_ _
                        go_wp2_with fail
                        exact ret_dc g8 g9 _ _ rfl rfl rfl HEND.out.1 rfl HEND.out.2.1 rfl ⟨_, rfl, HEND.out.2.2.1, hg4 ▸ HEND.out.2.2.2⟩
          · rw [if_pos hC] at hr
            cases hr
            have hC1 := bne_of hC
            go_upto_region 13 with fail
            clear z9 zf9 h3
            generalize World.setCell _ _ _ = W4 at h4 ⊢
            have h5 := h4.drew
            have h6 := h5.setRow (os1 := [_, _]) (cs' := #[.slice none 0 0, .int .i64 0, .int .i64 0, .bool false])
            have h7 := h6.setCell (os1 := []) (i := 0) (v := .int .i64 c)
            obtain ⟨x9, xf9⟩ := cellF (j := 0) (h5.at_ 0 rfl) rfl
            obtain ⟨y9, yf9⟩ := cellF (j := 0) (h6.at_ 0 rfl) rfl
            have HEND := Lib.hid (And.intro (h7.at_ 2 rfl) (And.intro (cellF (j := 0) (h7.at_ 0 rfl) rfl).1 h7.below))
            apply (wpIn_wide (n := 0)).1
            refine wpIn_region_any (by kernel_rfl) ?_
            change wpAnyIn _ _ _ _ _ _ _ _ _ (World.drew _)
            generalize World.drew W4 = W5 at *
            clear h4 h6 h7 hC HN HD
            refine wpAnyIn_ready (rs := [0, 1]) (by kernel_rfl) (by decide) ?_
            refine allIn_val (u := .agg #[.slice none 0 0, .int .i64 0, .int .i64 0, .bool false]) (w' := W5) rfl rfl (by simp [Oper.about]) (fun c h => by cases h) (by go_simp) ?_ (allIn_val (u := .int .i64 c) (w' := W5) rfl rfl (by simp [Oper.about]) (fun c h => by cases h) (by go_simp) ?_ AllReadyIn.nil)
            · try simp only [Act.put, List.getElem_toArray, List.getElem_cons_succ, List.getElem_cons_zero, List.setIfInBounds_toArray, List.set_cons_zero, List.set_cons_succ]
              refine wpAnyIn_ready (rs := [1, 2]) (by kernel_rfl) (by decide) ?_
              refine allIn_val (u := .int .i64 c) (w' := W5) rfl rfl (by simp [Oper.about]) (fun c h => by cases h) (by go_simp) ?_ (allIn_skip (w' := (W5.setRow g8 #[.slice none 0 0, .int .i64 0, .int .i64 0, .bool false])) rfl rfl (by simp [Oper.about]) (fun c h => by cases h) (by exact run_store_var rfl rfl rfl (h5.at_ 2 rfl) disk_info rfl (one4 rfl _ _ _)) ?_ AllReadyIn.nil)
              · try simp only [Act.put, List.getElem_toArray, List.getElem_cons_succ, List.getElem_cons_zero, List.setIfInBounds_toArray, List.set_cons_zero, List.set_cons_succ]
                refine wpAnyIn_ready (rs := [2]) (by kernel_rfl) (by decide) ?_
                refine allIn_skip (w' := (W5.setRow g8 #[.slice none 0 0, .int .i64 0, .int .i64 0, .bool false])) rfl rfl (by simp [Oper.about]) (fun c h => by cases h) (by exact run_store_var rfl rfl rfl (h5.at_ 2 rfl) disk_info rfl (one4 rfl _ _ _)) ?_ AllReadyIn.nil
                try simp only [Act.put, List.getElem_toArray, List.getElem_cons_succ, List.getElem_cons_zero, List.setIfInBounds_toArray, List.set_cons_zero, List.set_cons_succ]
                refine wpAnyIn_ready (rs := [3]) (by kernel_rfl) (by decide) ?_
                refine allIn_skip (w' := ((W5.setRow g8 #[.slice none 0 0, .int .i64 0, .int .i64 0, .bool false]).setCell ⟨g9, 0, none⟩ (.int .i64 c))) rfl rfl (by simp [Oper.about]) (fun c h => by cases h) (by go_simp) ?_ AllReadyIn.nil
                try simp only [Act.put, List.getElem_toArray, List.getElem_cons_succ, List.getElem_cons_zero, List.setIfInBounds_toArray, List.set_cons_zero, List.set_cons_succ]
                refine wpAnyIn_done (by kernel_rfl) ?_ _
                go_wp2_with fail
                exact ret_dc g8 g9 _ _ rfl rfl rfl HEND.out.1 rfl HEND.out.2.1 rfl ⟨_, rfl, dk_zero _, hg4 ▸ HEND.out.2.2⟩
              · try simp only [Act.put, List.getElem_toArray, List.getElem_cons_succ, List.getElem_cons_zero, List.setIfInBounds_toArray, List.set_cons_zero, List.set_cons_succ]
                refine wpAnyIn_ready (rs := [1]) (by kernel_rfl) (by decide) ?_
                refine allIn_val (u := .int .i64 c) (w' := (W5.setRow g8 #[.slice none 0 0, .int .i64 0, .int .i64 0, .bool false])) rfl rfl (by simp [Oper.about]) (fun c h => by cases h) (by go_simp) ?_ AllReadyIn.nil
                try simp only [Act.put, List.getElem_toArray, List.getElem_cons_succ, List.getElem_cons_zero, List.setIfInBounds_toArray, List.set_cons_zero, List.set_cons_succ]
                refine wpAnyIn_ready (rs := [3]) (by kernel_rfl) (by decide) ?_
                refine allIn_skip (w' := ((W5.setRow g8 #[.slice none 0 0, .int .i64 0, .int .i64 0, .bool false]).setCell ⟨g9, 0, none⟩ (.int .i64 c))) rfl rfl (by simp [Oper.about]) (fun c h => by cases h) (by go_simp) ?_ AllReadyIn.nil
                try simp only [Act.put, List.getElem_toArray, List.getElem_cons_succ, List.getElem_cons_zero, List.setIfInBounds_toArray, List.set_cons_zero, List.set_cons_succ]
                refine wpAnyIn_done (by kernel_rfl) ?_ _
                go_wp2_with fail
                exact ret_dc g8 g9 _ _ rfl rfl rfl HEND.out.1 rfl HEND.out.2.1 rfl ⟨_, rfl, dk_zero _, hg4 ▸ HEND.out.2.2⟩
            · try simp only [Act.put, List.getElem_toArray, List.getElem_cons_succ, List.getElem_cons_zero, List.setIfInBounds_toArray, List.set_cons_zero, List.set_cons_succ]
              refine wpAnyIn_ready (rs := [0]) (by kernel_rfl) (by decide) ?_
              refine allIn_val (u := .agg #[.slice none 0 0, .int .i64 0, .int .i64 0, .bool false]) (w' := W5) rfl rfl (by simp [Oper.about]) (fun c h => by cases h) (by go_simp) ?_ AllReadyIn.nil
              try simp only [Act.put, List.getElem_toArray, List.getElem_cons_succ, List.getElem_cons_zero, List.setIfInBounds_toArray, List.set_cons_zero, List.set_cons_succ]
              refine wpAnyIn_ready (rs := [2]) (by kernel_rfl) (by decide) ?_
              refine allIn_skip (w' := (W5.setRow g8 #[.slice none 0 0, .int .i64 0, .int .i64 0, .bool false])) rfl rfl (by simp [Oper.about]) (fun c h => by cases h) (by exact run_store_var rfl rfl rfl (h5.at_ 2 rfl) disk_info rfl (one4 rfl _ _ _)) ?_ AllReadyIn.nil
              try simp only [Act.put, List.getElem_toArray, List.getElem_cons_succ, List.getElem_cons_zero, List.setIfInBounds_toArray, List.set_cons_zero, List.set_cons_succ]
              refine wpAnyIn_ready (rs := [3]) (by kernel_rfl) (by decide) ?_
              refine allIn_skip (w' := ((W5.setRow g8 #[.slice none 0 0, .int .i64 0, .int .i64 0, .bool false]).setCell ⟨g9, 0, none⟩ (.int .i64 c))) rfl rfl (by simp [Oper.about]) (fun c h => by cases h) (by go_simp) ?_ AllReadyIn.nil
              try simp only [Act.put, List.getElem_toArray, List.getElem_cons_succ, List.getElem_cons_zero, List.setIfInBounds_toArray, List.set_cons_zero, List.set_cons_succ]
              refine wpAnyIn_done (by kernel_rfl) ?_ _
              go_wp2_with fail
              exact ret_dc g8 g9 _ _ rfl rfl rfl HEND.out.1 rfl HEND.out.2.1 rfl ⟨_, rfl, dk_zero _, hg4 ▸ HEND.out.2.2⟩
end Go.Proofs.Ytnfgapdpnihicaa
