/- The walks over asofref31.scan, Read, Room. -/
import Derived.Test.YtnfgapdpnihicaaZRbt31
import Derived.Test.YtnfgapdpnihicaaZGH
set_option linter.unusedVariables false
set_option linter.unusedSimpArgs false
namespace Go.Proofs.Ytnfgapdpnihicaa
open Go Go.RowKit

set_option maxRecDepth 8000 in
set_option maxHeartbeats 8000000 in
theorem refScan_any (w : World) (S : Nat → Bool) (hS : ∀ k, S k = true → k < w.heap.size) (v : Value) (d : Dk) (hv : IsDk w v d) (f m : Int) (hf : -9223372036854775808 ≤ f ∧ f ≤ 9223372036854775807) (hm : -9223372036854775808 ≤ m ∧ m ≤ 9223372036854775807) :
    Calls Try.prog 42 #[v, .int .i64 f, .int .i64 m] w fun en w' => ∃ rb rn rq, en = .returned (.tuple #[.slice rb rn rq, .int .i64 (d.scan f m).2.1, .int .i64 (d.scan f m).2.2]) ∧ IsLists (mask S w') (.slice rb rn rq) (d.scan f m).1 ∧ Below w.heap.size w w' := by
  obtain ⟨⟨RS, E, C⟩, hR⟩ : ∃ r, d.scan f m = r := ⟨_, rfl⟩
  rw [hR]
  dsimp only
  unfold Dk.scan at hR
  have hv' := hv
  obtain ⟨sv, rfl, hl⟩ := hv
  obtain ⟨b, q, rfl, hq1, hq2, -, -⟩ := hl.out
  unfold maxLen at hq2
  simp only [dkV] at hv' ⊢
  obtain ⟨n, hn⟩ : ∃ n, d.sec.length = n := ⟨_, rfl⟩
  rw [hn] at hv' hq1 ⊢
  obtain ⟨left, hleft⟩ : ∃ x, d.left = x := ⟨_, rfl⟩
  obtain ⟨tear, htear⟩ : ∃ x, d.tear = x := ⟨_, rfl⟩
  obtain ⟨st, hst⟩ : ∃ x, d.stopped = x := ⟨_, rfl⟩
  rw [hleft, htear, hst] at hv' ⊢
  rw [hst] at hR
  have h0 := ((St.start w).putOld (Mono.dk _ _) hv').boxC #[.slice b n q, .int .i64 left, .int .i64 tear, .bool st] 24
  have HD := Lib.hid (And.intro hn (And.intro hleft (And.intro htear hst)))
  have HR := Lib.hid hR
  clear hl hv' hn hleft htear hst hR
  obtain ⟨c0, c1, c2, c3⟩ := (h0.is 0 rfl : IsCells _ _ _).c4
  go_enter Try.func42, Try.ntmps42
  go_wp2_with fail
  refine (Calls.sV h0 (refFits_any _ _ d (h0.is 1 rfl) f m hf hm)).mono ?_
  rintro en w1 ⟨rfl, h1⟩
  clear h0 c0 c1 c2 c3
  obtain ⟨c0, c1, c2, c3⟩ := (h1.is 0 rfl : IsCells _ _ _).c4
  obtain ⟨ft, hft⟩ : ∃ b, d.fits f m = b := ⟨_, rfl⟩
  have hr := HR.out
  rw [hft] at hr ⊢
  clear HR
  cases ft with
  | false =>
    rw [if_pos rfl] at hr
    cases hr
    go_wp2_with fail
    go_ret3
    exact ⟨_, _, _, rfl, lists_nil _, h1.below⟩
  | true =>
    rw [if_neg (by decide)] at hr
    obtain ⟨hok, p, k, rfl, rfl, hk1, hk2⟩ := Dk.fits_iff hft
    clear hft
    cases st with
    | true =>
      rw [if_pos rfl] at hr
      cases hr
      go_wp2_with fail
      go_ret3
      exact ⟨_, _, _, rfl, lists_nil _, h1.below⟩
    | false =>
      rw [if_neg (by decide), Int.toNat_natCast, Int.toNat_natCast] at hr
      obtain ⟨e, he⟩ : ∃ e, p + k = e := ⟨_, rfl⟩
      rw [he] at hr hk2
      have hk3 : k = e - p := by omega
      rw [hk3] at hr
      have hmany := hok.many
      rw [HD.out.1] at hmany hk2
      have hwe : IntKind.i64.wrap ((p : Int) + (k : Int)) = (e : Int) := by rw [IntKind.wrap_i64]; omega
      have HR := Lib.hid hr
      have HK := Lib.hid hk3
      have HOK := Lib.hid hok
      have hpe : p ≤ e := by omega
      clear hr hok he hk3
      go_wp2_with fail
      go_loopw [9, 10] (fun ov pv wr => ∃ (pp N : Nat) (acc : List (List UInt8)) (xs : List Value) (oo : List (Nat × Obj)) (ob : Option Addr) (oq : Nat), pp ≤ e ∧ pv = .int .i64 pp ∧ ov = .slice ob N oq ∧ Hid (acc.length = N ∧ N ≤ pp * 524288) ∧ Hid (Scans d.sec e p acc pp) ∧ OwnP 42 1 (.slice ob N oq) N xs oo ∧ St w wr (oo ++ []) [(fun x => Elems 1 rdB (mask S x) xs acc), IsCells w.heap.size #[.slice b n q, .int .i64 left, .int .i64 tear, .bool false], (IsDk · (.agg #[.slice b n q, .int .i64 left, .int .i64 tear, .bool false]) d)]) (fun _ pv _ => e - (intOf pv).toNat)
      case atStart =>
        exact ⟨p, 0, [], [], [], none, 0, hpe, rfl, rfl, Lib.hid ⟨rfl, by omega⟩, Lib.hid (Scans.start _ _ _), ⟨by simp, .inl ⟨rfl, rfl, rfl⟩⟩, h1.put (Mono.elemsOff _ _) Elems.nil⟩
      case round =>
        clear h1 c0 c1 c2 c3
        obtain ⟨pp, N, acc, xs, oo, ob, oq, hpp, rfl, rfl, HA, HSC, ho, hst⟩ := hrel
        obtain ⟨c0, c1, c2, c3⟩ := (hst.is 1 rfl : IsCells _ _ _).c4
        by_cases hp : pp < e
        · have hpl : pp < d.sec.length := by rw [HD.out.1]; omega
          have hpn : pp < n := by omega
          have hpi : (pp : Int) < (e : Int) := by omega
          have h128 := HOK.out.size pp hpl
          obtain ⟨_, _, ee, -, -, hat⟩ := (hst.is 2 rfl : IsDk _ _ _).open_
          simp only [Value.agg.injEq, Array.mk.injEq, List.cons.injEq, Value.slice.injEq] at ee
          obtain ⟨⟨e1, -, e3⟩, -⟩ := ee
          subst e1 e3
          obtain ⟨gb, off, ub, uc, e4, hcell, hu⟩ := hat pp hpl
          subst e4
          rw [h128] at hcell hu
          obtain ⟨_, _, e5, -, -, -, -, e7⟩ := hu
          rw [h128] at e5
          cases e5
          obtain ⟨b2, o2, e8, hby⟩ := e7 127 (by rw [List.length_map, h128]; omega)
          subst e8
          obtain ⟨y, hy⟩ : ∃ y, (d.sec[pp]'hpl)[127]'(by omega) = y := ⟨_, rfl⟩
          rw [List.getElem_map, hy] at hby
          have hmk : Wl.marked d.sec pp = (y == 165) := by
            unfold Wl.marked
            have e9 : d.sec.getD pp [] = d.sec[pp]'hpl := by rw [List.getD_eq_getElem?_getD, List.getElem?_eq_getElem hpl]; rfl
            rw [e9, List.getD_eq_getElem?_getD, List.getElem?_eq_getElem (by omega), Option.getD_some, hy]
          have HMK := Lib.hid hmk
          clear hat hmk hy e7
          by_cases hm : y = 165
          · subst hm
            have hmk : Wl.marked d.sec pp = true := by rw [HMK.out]; rfl
            obtain ⟨⟨mm, rs, cc⟩, hb⟩ : ∃ r, Wl.batch d.sec pp e = r := ⟨_, rfl⟩
            have HB := Lib.hid (And.intro hb hmk)
            clear hmk hb
            go_wp2_with (refine wpList_load_mid rfl 24 (.tmp 3) rfl w.heap.size 0 rfl [.slice (some ⟨gb, off, none⟩) n q, .int .i64 left, .int .i64 tear, .bool false] _ (hst.is 1 rfl : IsCells _ _ _).range Try.underlying24 rfl rfl ?_)
            refine (refBatch_any _ (orS S (inL (keys (oo ++ [])))) (hst.orLt hS) _ d (hst.is 2 rfl) HOK.out pp e hp (by rw [HD.out.1]; omega) HB.out.1).mono ?_
            rintro en w2 ⟨rb, rn, rq, rfl, hls, hb2⟩
            have h2 := hst.callOff hb2 (Mono.lists _ _) hls
            clear hst hls hb2 c0 c1 c2 c3 hcell hby
            by_cases hcc : cc = 0
            · subst hcc
              have hbd := batch_bd HB.out.1 hp
              have hbl := batch_len HB.out.1
              obtain ⟨xs2, hr2, he2⟩ := elems_of ((h2.get 0 rfl : IsLists (mask S _) _ _))
              obtain ⟨_, _, e9, hx2, -, -, -, -⟩ := id hr2
              cases e9
              have hone2 := lists_one (v := .slice rb rs.length rq) (n := 0) he2
              obtain ⟨N2, hN2⟩ : ∃ x, rs.length = x := ⟨_, rfl⟩
              rw [hN2] at hr2 hbl ⊢
              have h3 := h2.pop.put (P := (IsRow 1 · (.slice rb N2 rq) N2 xs2)) (Mono.row _ _ _ _) (hr2.sub (mask_is _ _))
              have h4 := h3.put (P := fun x => Elems 1 rdB (mask S x) xs2 rs) (Mono.elemsOff _ _) he2
              have hNb : N ≤ 2147483648 := by have h5 := HA.out.2; have h6 : pp * 524288 ≤ 4096 * 524288 := Nat.mul_le_mul_right _ (by omega); omega
              have hN2b : N2 ≤ 524288 := by omega
              have hwm : IntKind.i64.wrap ((pp : Int) + (mm : Int)) = ((pp + mm : Nat) : Int) := by rw [IntKind.wrap_i64]; omega
              have HN2 := Lib.hid (And.intro hN2 hbl)
              clear h2 h3 hr2 he2 hN2 hbl
              go_upto_region 12 with (at_builtin; go_loud (refine wpList_append_any' rfl (.tmp 50) (.tmp 51) 22 22 rfl w.heap.size 42 (.slice none 0 0) 1 24 Try.underlying22 slice_info rfl _ N xs rfl (ho.owns h4) _ N2 xs2 rfl (Src.row Try.underlying22 (h4.is 1 rfl : IsRow _ _ _ _ _) hone2) (by omega) (by unfold maxLen; omega) h4.size ?_); intro v' w' r1 r2 r3)
              obtain ⟨oo2, k5, h5⟩ := ho.append h4 r1 r2 r3
              obtain ⟨vb2, vq2, rfl⟩ := own_slice r1
              have h6 := h5.put (Mono.elemsOff (S := S) _ _) (Elems.append (h5.get 2 rfl) (h5.get 0 rfl))
              have h7 := h6.facts (fs' := [(fun x => Elems 1 rdB (mask S x) (xs ++ xs2) (acc ++ rs)), IsCells w.heap.size #[.slice (some ⟨gb, off, none⟩) n q, .int .i64 left, .int .i64 tear, .bool false], (IsDk · (.agg #[.slice (some ⟨gb, off, none⟩) n q, .int .i64 left, .int .i64 tear, .bool false]) d)]) (fun P hP => by simp only [List.mem_cons, List.not_mem_nil, or_false] at hP ⊢; rcases hP with rfl | rfl | rfl <;> simp)
              clear h4 h5 h6 r1 r2 r3
              go_wp2_with fail
              go_roundw
              case rel =>
                refine ⟨pp + mm, N + N2, acc ++ rs, _, oo2, vb2, vq2, by omega, rfl, rfl, Lib.hid ⟨by rw [List.length_append, HA.out.1, HN2.out.1], ?_⟩, Lib.hid (HSC.out.step hp HB.out.2 HB.out.1), k5, h7⟩
                have h8 := HA.out.2
                rw [Nat.add_mul]
                omega
              case measure => simp [intOf]; omega
            · have hcc2 := bne_of hcc
              have hbad := HSC.out.bad hp HB.out.2 HB.out.1 hcc
              have hr := HR.out
              rw [hbad] at hr
              cases hr
              have hb := h2.below
              clear HR
              go_wp2_with fail
              go_ret3
              exact ⟨_, _, _, rfl, lists_nil _, hb⟩
          · have hne : ((y.toNat : Int) == 165) = false := by
              refine beq_of fun h => hm ?_
              have : y.toNat = 165 := by omega
              exact UInt8.toNat_inj.1 (by rw [this]; rfl)
            have hmk : ¬ (pp < e ∧ Wl.marked d.sec pp = true) := by
              rw [HMK.out]
              rintro ⟨-, h⟩
              exact hm (beq_iff_eq.1 h)
            have hrow := ho.owns hst
            have hgeq := fun kk hk => (World.ownsRow.lt hrow kk hk).1
            have h20 := ho.done hst
            have hls : IsLists (mask S wr) (.slice ob N oq) acc := lists_of (mask_row (h20.is 0 rfl : IsRow _ _ _ _ _) fun kk hk => by
              cases hq : S kk with
              | false => rfl
              | true => have := hS kk hq; have := hgeq kk hk; omega) (h20.is 1 rfl) HA.out.1.symm
            have hb := h20.below
            have hr := HR.out
            rw [HSC.out.stop hmk] at hr
            clear h20 hgeq hrow hst HR
            cases hr
            go_wp2_with fail
            go_ret3
            exact ⟨_, _, _, rfl, hls, hb⟩
        · have hpi : ¬ (pp : Int) < (e : Int) := by omega
          have hmk : ¬ (pp < e ∧ Wl.marked d.sec pp = true) := fun h => hp h.1
          have hrow := ho.owns hst
          have hgeq := fun kk hk => (World.ownsRow.lt hrow kk hk).1
          have h20 := ho.done hst
          have hls : IsLists (mask S wr) (.slice ob N oq) acc := lists_of (mask_row (h20.is 0 rfl : IsRow _ _ _ _ _) fun kk hk => by
            cases hq : S kk with
            | false => rfl
            | true => have := hS kk hq; have := hgeq kk hk; omega) (h20.is 1 rfl) HA.out.1.symm
          have hb := h20.below
          have hr := HR.out
          rw [HSC.out.stop hmk] at hr
          clear h20 hgeq hrow hst HR
          cases hr
          go_wp2_with fail
          go_ret3
          exact ⟨_, _, _, rfl, hls, hb⟩
set_option maxRecDepth 8000 in
set_option maxHeartbeats 1000000 in
theorem refWalRead_any (w : World) (S : Nat → Bool) (hS : ∀ k, S k = true → k < w.heap.size) (v : Value) (d : Dk) (hv : IsDk w v d) (f m : Int) (hf : -9223372036854775808 ≤ f ∧ f ≤ 9223372036854775807) (hm : -9223372036854775808 ≤ m ∧ m ≤ 9223372036854775807) :
    Calls Try.prog 15 #[v, .int .i64 f, .int .i64 m] w fun en w' => ∃ rv, en = .returned (.tuple #[rv, .int .i64 (d.scan f m).2.2]) ∧ IsLists (mask S w') rv (d.scan f m).1 ∧ Below w.heap.size w w' := by
  obtain ⟨⟨RS, E, C⟩, hR⟩ : ∃ r, d.scan f m = r := ⟨_, rfl⟩
  rw [hR]
  have hv' := hv
  obtain ⟨sv, rfl, hl⟩ := hv
  obtain ⟨b, q, rfl, -⟩ := hl.out
  simp only [dkV] at hv' ⊢
  generalize d.sec.length = n at hv' ⊢
  generalize d.left = left at hv' ⊢
  generalize d.tear = tear at hv' ⊢
  generalize d.stopped = st at hv' ⊢
  have h1 := (((St.start w).putOld (Mono.dk _ _) hv').alloc (.cells #[.slice b n q, .int .i64 left, .int .i64 tear, .bool st] 24)).shut
  obtain ⟨c0, c1, c2, c3⟩ := (h1.is 0 rfl : IsCells _ _ _).c4
  clear hl
  go_enter Try.func15, Try.ntmps15
  go_wp2_with fail
  have hsc := refScan_any _ S (fun k hk => Nat.lt_of_lt_of_le (hS k hk) h1.size) _ d (h1.is 1 rfl) f m hf hm
  rw [hR] at hsc
  refine hsc.mono ?_
  rintro en w2 ⟨b2, n2, q2, rfl, hls, hb⟩
  clear hR hv' hsc c0 c1 c2 c3
  go_wp2_with fail
  go_ret2
  exact ⟨_, rfl, hls, (h1.call hb).below⟩

set_option maxRecDepth 8000 in
set_option maxHeartbeats 1000000 in
theorem refWalRoom_any (w : World) (v : Value) (d : Dk) (hv : IsDk w v d) (f m : Int) (hf : -9223372036854775808 ≤ f ∧ f ≤ 9223372036854775807) (hm : -9223372036854775808 ≤ m ∧ m ≤ 9223372036854775807) :
    Calls Try.prog 17 #[v, .int .i64 f, .int .i64 m] w fun en w' => en = .returned (.tuple #[.int .i64 (if (d.scan f m).2.2 = 0 then f + m - (d.scan f m).2.1 else 0), .int .i64 (d.scan f m).2.2]) ∧ Below w.heap.size w w' := by
  obtain ⟨⟨RS, E, C⟩, hR⟩ : ∃ r, d.scan f m = r := ⟨_, rfl⟩
  rw [hR]
  dsimp only
  have hv' := hv
  obtain ⟨sv, rfl, hl⟩ := hv
  obtain ⟨b, q, rfl, -⟩ := hl.out
  have hdn : d.Ok → d.sec.length ≤ 4096 := fun h => h.many
  have hsok := fun h : C = 0 => Dk.scan_ok (d := d) (f := f) (m := m) (rs := RS) (E := E) (by rw [hR, h])
  simp only [dkV] at hv' ⊢
  generalize d.sec.length = n at hv' hdn hsok ⊢
  generalize d.left = left at hv' ⊢
  generalize d.tear = tear at hv' ⊢
  obtain ⟨st, hst⟩ : ∃ x, d.stopped = x := ⟨_, rfl⟩
  rw [hst] at hv' ⊢
  have h1 := (((St.start w).putOld (Mono.dk _ _) hv').alloc (.cells #[.slice b n q, .int .i64 left, .int .i64 tear, .bool st] 24)).shut
  obtain ⟨c0, c1, c2, c3⟩ := (h1.is 0 rfl : IsCells _ _ _).c4
  have HO := Lib.hid (And.intro hdn hsok)
  clear hl hdn hsok
  go_enter Try.func17, Try.ntmps17
  go_wp2_with fail
  have hsc := refScan_any _ noS (fun k hk => by cases hk) _ d (h1.is 1 rfl) f m hf hm
  rw [hR] at hsc
  refine hsc.mono ?_
  rintro en w2 ⟨b2, n2, q2, rfl, hls, hb⟩
  clear hR hv' hsc c0 c1 c2 c3 hst
  have hb1 := (h1.call hb).below
  clear h1 hls hb
  by_cases hc : C = 0
  · subst hc
    obtain ⟨ho, -, p, k, rfl, rfl, e1, e2, e3, e4, -⟩ := HO.out.2 rfl
    have e5 := HO.out.1 ho
    have hw1 : IntKind.i64.wrap ((p : Int) + (k : Int)) = (p : Int) + k := by rw [IntKind.wrap_i64]; omega
    have hw2 : IntKind.i64.wrap ((p : Int) + (k : Int) - (E : Int)) = (p : Int) + k - E := by rw [IntKind.wrap_i64]; omega
    clear HO hf hm e1 e2 e3 e4 e5
    go_wp2_with fail
    go_ret2
    exact ⟨rfl, hb1⟩
  · have hc1 := bne_of hc
    have hc2 := beq_of hc
    have HC := Lib.hid hc
    clear hc HO hf hm
    go_wp2_with fail
    go_ret2
    exact ⟨rfl, hb1⟩
section
variable {w0 W : World} {os : List (Nat × Obj)} {fs : List (World → Prop)}
theorem refRead_s (h : St w0 W os fs) {v : Value} {d : Dk} {f m c : Int} {l : List (List UInt8)} {E : Nat} (hc : d.scan f m = (l, E, c)) (hf : -9223372036854775808 ≤ f ∧ f ≤ 9223372036854775807) (hm : -9223372036854775808 ≤ m ∧ m ≤ 9223372036854775807) (hv : IsDk W v d) :
    Calls Try.prog 15 #[v, .int .i64 f, .int .i64 m] W fun e w' => ∃ b q, e = .returned (.tuple #[.slice b l.length q, .int .i64 c]) ∧ St w0 w' os ((IsLists · (.slice b l.length q) l) :: fs) := by
  have hx := refWalRead_any W (inL (keys os)) h.ltS v d hv f m hf hm
  rw [hc] at hx
  refine hx.mono fun e w' ⟨v', he, hd, hb⟩ => ?_
  obtain ⟨b, q, rfl⟩ := hd.shape
  exact ⟨b, q, he, (h.call hb).put (Mono.lists _ _) hd⟩
theorem refRoom_s (h : St w0 W os fs) {v : Value} {d : Dk} {f m c R : Int} {l : List (List UInt8)} {E : Nat} (hc : d.scan f m = (l, E, c)) (hR : (if c = 0 then f + m - E else 0) = R) (hf : -9223372036854775808 ≤ f ∧ f ≤ 9223372036854775807) (hm : -9223372036854775808 ≤ m ∧ m ≤ 9223372036854775807) (hv : IsDk W v d) :
    Calls Try.prog 17 #[v, .int .i64 f, .int .i64 m] W fun e w' => e = .returned (.tuple #[.int .i64 R, .int .i64 c]) ∧ St w0 w' os fs := by
  have hx := refWalRoom_any W v d hv f m hf hm
  rw [hc] at hx
  simp only at hx
  rw [hR] at hx
  exact hx.mono fun e w' ⟨he, hb⟩ => ⟨he, h.call hb⟩
end
end Go.Proofs.Ytnfgapdpnihicaa
