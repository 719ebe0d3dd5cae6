/- The walk over asofref31.Pieces. -/
import Derived.Test.YtnfgapdpnihicaaZRd31
import Derived.Test.YtnfgapdpnihicaaZTx31
import Derived.Test.YtnfgapdpnihicaaZLy31
set_option linter.unusedVariables false
set_option linter.unusedSimpArgs false
namespace Go.Proofs.Ytnfgapdpnihicaa
open Go Go.RowKit
open Wl
/-- The first bytes, and zeros behind them. -/
def padTo (s : List UInt8) (i : Nat) : List UInt8 := s.take i ++ List.replicate (128 - i) 0
theorem padTo_len {s : List UInt8} {i : Nat} (h : i ≤ s.length) (hi : i ≤ 128) : (padTo s i).length = 128 := by unfold padTo; rw [List.length_append, List.length_replicate, List.length_take]; omega
theorem padTo_zero (s : List UInt8) : padTo s 0 = zeroSec := rfl
theorem padTo_set {s : List UInt8} {i : Nat} (h : i < s.length) (hi : i < 128) : (padTo s i).set i s[i] = padTo s (i + 1) := by
  unfold padTo
  rw [List.set_append_right _ _ (by rw [List.length_take]; omega), List.length_take, Nat.min_eq_left (by omega), Nat.sub_self, show 128 - i = (128 - (i + 1)) + 1 by omega, List.replicate_succ, List.set_cons_zero, ← List.take_append_getElem h, List.append_assoc]
  rfl
theorem padTo_head {s : List UInt8} {i : Nat} (h : (i = 127 ∧ 127 ≤ s.length) ∨ (i = s.length ∧ i ≤ 127)) : (padTo s i).set 127 165 = headS s := by
  have e : padTo s i = (s.take i ++ List.replicate (127 - i) 0) ++ [0] := by
    unfold padTo
    rw [show 128 - i = (127 - i) + 1 by rcases h with h | h <;> omega, List.replicate_succ', List.append_assoc]
  have hl : (s.take i ++ List.replicate (127 - i) 0).length = 127 := by rw [List.length_append, List.length_replicate, List.length_take]; rcases h with h | h <;> omega
  rw [e, List.set_append_right _ _ (by omega), hl]
  unfold headS
  rcases h with ⟨rfl, h⟩ | ⟨rfl, h⟩
  · rw [List.length_take, Nat.min_eq_left h]
    rfl
  · rw [List.take_length, List.take_of_length_le h]
    rfl
theorem padTo_piece {s : List UInt8} {i : Nat} (h : (i = 128 ∧ 128 ≤ s.length) ∨ (i = s.length ∧ i ≤ 128)) : padTo s i = piece s := by
  unfold padTo piece
  rcases h with ⟨rfl, h⟩ | ⟨rfl, h⟩
  · rw [List.length_take, Nat.min_eq_left h]
  · rw [List.take_length, List.take_of_length_le h]
theorem pcs_more : ∀ (k : Nat) (l : List UInt8), pcs (k + 1) l = pcs k l ++ [piece (l.drop (128 * k))]
  | 0, l => by simp [pcs]
  | k + 1, l => by
    have := pcs_more k (l.drop 128)
    rw [pcs, this, List.drop_drop, show 128 + 128 * k = 128 * (k + 1) by omega]
    rfl

set_option maxRecDepth 8000 in
set_option maxHeartbeats 4000000 in
theorem refPieces_any (w : World) (S : Nat → Bool) (hS : ∀ k, S k = true → k < w.heap.size) (rv : Value) (rs : List (List UInt8)) (hv : IsLists w rv rs) (hn : rs.length ≤ 1048576) (hr : ∀ r ∈ rs, r.length ≤ 1048576) {n : Nat} (hsz : sizeL rs = n) (hn64 : n ≤ 4096) :
    Calls Try.prog 50 #[rv] w fun e w' => ∃ b q, e = .returned (.slice b n q) ∧ IsLists (mask S w') (.slice b n q) (headS (stream rs) :: pcs (n - 1) ((stream rs).drop 127)) ∧ Below w.heap.size w w' := by
  obtain ⟨base, cap, rfl, hl1, hcap, -, -⟩ := hv.out
  have h0 := (St.start w).putOld (P := (IsLists · (.slice base rs.length cap) rs)) (Mono.lists _ _) hv
  have hss : needs (stream rs).length = n := hsz
  have hst := refStream_any w (.slice base rs.length cap) rs hv hn hr
  obtain ⟨s, hs⟩ : ∃ s, stream rs = s := ⟨_, rfl⟩
  rw [hs] at hss hst ⊢
  have HST := Lib.hid hst
  obtain ⟨SL, hSL⟩ : ∃ x, s.length = x := ⟨_, rfl⟩
  rw [hSL] at hss
  unfold needs at hss
  have HS := Lib.hid (And.intro hSL hss)
  have hslb : SL ≤ 600000 := by omega
  have hn1 : 1 ≤ n := by omega
  clear hst hs hSL hv hss hsz hn hr hl1
  go_enter Try.func50, Try.ntmps50
  go_wp2_with fail
  refine (Calls.sB h0 HST.out).mono ?_
  rintro e w1 ⟨v1, rfl, h1⟩
  have h1 := h1.facts (fs' := [(IsBytes · v1 s)]) (fun P hP => by simp only [List.mem_cons, List.not_mem_nil, or_false] at hP ⊢; rcases hP with rfl; simp)
  obtain ⟨sb, sq, rfl, hsq1, hsq2, -, -⟩ := (h1.is 0 rfl : IsBytes _ _ _).out
  rw [HS.out.1] at h1 hsq1 ⊢
  clear h0 HST
  go_wp2_with fail
  refine (refZeros_any w1).mono ?_
  rintro e w2 ⟨v2, rfl, ho2, hb2⟩
  obtain ⟨gh, cp, rfl, hgB⟩ := ho2.shape (fun e => by cases e)
  rw [zeroSec_len] at ho2 ⊢
  rw [← padTo_zero s] at ho2
  go_wp2_with fail
  go_loopw [5] (fun iv wr => ∃ i : Nat, i ≤ SL ∧ i ≤ 127 ∧ iv = .int .i64 i ∧ OwnBytes 5 w1.heap.size wr (.slice (some ⟨gh, 0, none⟩) 128 cp) (padTo s i) ∧ Below w1.heap.size w1 wr) (fun iv _ => 127 - (intOf iv).toNat)
  case atStart => exact ⟨0, by omega, by omega, rfl, ho2, hb2⟩
  case round =>
    clear ho2 hb2
    obtain ⟨i, hiS, hi127, rfl, hoj, hbj⟩ := hrel
    have hs1 := h1.call hbj
    by_cases hc : i < SL ∧ i < 127
    · obtain ⟨hc1, hc2⟩ := hc
      have c1 : (i : Int) < (SL : Int) := by omega
      have c2 : (i : Int) < 127 := by omega
      have c3 : ¬ (128 : Int) ≤ (i : Int) := by omega
      have c4 : ¬ (SL : Int) ≤ (i : Int) := by omega
      have c5 : (i : Int) < 128 := by omega
      obtain ⟨_, _, e8, -, -, -, -, sat⟩ := (hs1.is 0 rfl : IsBytes _ _ _)
      rw [HS.out.1] at e8
      cases e8
      obtain ⟨gS, oS, e9, yS⟩ := sat i (by rw [List.length_map, HS.out.1]; exact hc1)
      subst e9
      have hset := padTo_set (s := s) (i := i) (by rw [HS.out.1]; exact hc1) (by omega)
      rw [List.getElem_map] at yS
      obtain ⟨y, hy⟩ : ∃ y, s[i]'(by rw [HS.out.1]; exact hc1) = y := ⟨_, rfl⟩
      rw [hy] at yS hset
      have yS' : World.cell? _ ⟨gS, oS + i, none⟩ = some (.int .u8 (y.toNat : Int)) := yS
      have hidx : i < (padTo s i).length := by rw [padTo_len (by rw [HS.out.1]; omega) (by omega)]; omega
      obtain ⟨z, hcl⟩ : ∃ z : UInt8, wr.cell? ⟨gh, i, none⟩ = some (.int .u8 (z.toNat : Int)) := ⟨_, hoj.cellAt i hidx⟩
      have hfr := hoj.frozenAt i
      have HSET := Lib.hid hset
      have HO := Lib.hid hoj
      clear sat yS hset hy hoj hidx hs1
      go_wp2_with fail
      go_roundw
      case rel => exact ⟨i + 1, by omega, by omega, by go_num, by rw [← HSET.out]; exact HO.out.stored _ _, hbj.setCell hgB _⟩
      case measure => simp [intOf]; omega
    · have hfin : (i = 127 ∧ 127 ≤ s.length) ∨ (i = s.length ∧ i ≤ 127) := by rw [HS.out.1]; omega
      have hhead := padTo_head hfin
      have hidx : 127 < (padTo s i).length := by rw [padTo_len (by rw [HS.out.1]; omega) (by omega)]; omega
      obtain ⟨z, hcl⟩ : ∃ z : UInt8, wr.cell? ⟨gh, 127, none⟩ = some (.int .u8 (z.toNat : Int)) := ⟨_, hoj.cellAt 127 hidx⟩
      have hfr := hoj.frozenAt 127
      have HO := Lib.hid hoj
      have HH := Lib.hid hhead
      have hcc : (¬ (i : Int) < (SL : Int)) ∨ ((i : Int) < (SL : Int) ∧ ¬ (i : Int) < 127) := by omega
      clear hfin hhead hidx hoj hs1 hc
      rcases hcc with hcc | ⟨hcc, hcc2⟩
      all_goals
        go_upto_region 8 with fail
        have ho8 := HO.out.stored 127 165
        rw [HH.out] at ho8
        have hb8 := hbj.setCell (p := ⟨gh, 127, none⟩) hgB (.int .u8 ((165 : UInt8).toNat : Int))
        have h8 := h1.putNew hS hb8 hgB ho8.is
        clear ho8 hb8 HO HH hcl hfr hbj hcc h1
        change St w (World.setCell wr ⟨gh, 127, none⟩ (.int .u8 165)) _ _ at h8
        generalize World.setCell _ _ _ = W8 at h8 ⊢
        have h9 := h8.alloc (.cells #[.slice (some ⟨gh, 0, none⟩) 128 cp] 42)
        have h10 := (h9.put (Mono.elemsOff (S := S) _ _) (Elems.one (a := headS s) (cs := [.slice (some ⟨gh, 0, none⟩) 128 cp]) rfl ⟨_, rfl, h9.get 0 rfl⟩)).facts (fs' := [(fun x => Elems 1 rdB (mask S x) [.slice (some ⟨gh, 0, none⟩) 128 cp] [headS s]), (IsBytes · (.slice sb SL sq) s)]) (fun P hP => by simp only [List.mem_cons, List.not_mem_nil, or_false] at hP ⊢; rcases hP with rfl | rfl <;> simp)
        have ho9 : OwnP 42 1 (.slice (some ⟨W8.heap.size, 0, none⟩) 1 1) 1 [.slice (some ⟨gh, 0, none⟩) 128 cp] [(W8.heap.size, .cells #[.slice (some ⟨gh, 0, none⟩) 128 cp] 42 (0, 0))] := ⟨rfl, .inr ⟨_, 1, _, rfl, rfl, Nat.le_refl _, by unfold maxLen; omega, rfl, rfl⟩⟩
        clear h8 h9
        go_upto_region 10 with fail
        go_loopw [6, 7] (fun lv fv wr => ∃ (j fr : Nat) (xs : List Value) (oo : List (Nat × Obj)) (ob : Option Addr) (oq : Nat), j + 1 ≤ n ∧ Hid (fr = 127 + 128 * j) ∧ lv = .slice ob (j + 1) oq ∧ fv = .int .i64 fr ∧ fr ≤ SL + 128 ∧ OwnP 42 1 (.slice ob (j + 1) oq) (j + 1) xs oo ∧ St w wr (oo ++ []) [(fun x => Elems 1 rdB (mask S x) xs (headS s :: pcs j (s.drop 127))), (IsBytes · (.slice sb SL sq) s)]) (fun _ fv _ => SL + 128 - (intOf fv).toNat)
        case atStart => exact ⟨0, 127, _, _, _, _, by omega, Lib.hid rfl, rfl, rfl, by omega, ho9, h10⟩
        case round =>
          clear ho9 h10
          obtain ⟨j, fr, xs, oo, ob, oq, hj, hfr, rfl, rfl, hfrb, ho, hst⟩ := hrel
          by_cases hlt : fr < SL
          · have hlti : (fr : Int) < (SL : Int) := by omega
            have hjn : j + 1 + 1 ≤ n := by have := hfr.out; have := HS.out.2; omega
            go_wp2_with fail
            refine (refZeros_any _).mono ?_
            rintro e w5 ⟨v5, rfl, ho5, hb5⟩
            obtain ⟨gp, cq, rfl, hgP⟩ := ho5.shape (fun e => by cases e)
            rw [zeroSec_len] at ho5 ⊢
            obtain ⟨t, ht⟩ : ∃ t, s.drop fr = t := ⟨_, rfl⟩
            have htl : t.length = SL - fr := by rw [← ht, List.length_drop, HS.out.1]
            have HT := Lib.hid (And.intro ht htl)
            clear ht htl
            rw [← padTo_zero t] at ho5
            go_wp2_with fail
            go_loopw [9] (fun iv wq => ∃ i : Nat, i ≤ SL - fr ∧ i ≤ 128 ∧ iv = .int .i64 i ∧ OwnBytes 5 wr.heap.size wq (.slice (some ⟨gp, 0, none⟩) 128 cq) (padTo t i) ∧ Below wr.heap.size wr wq) (fun iv _ => 128 - (intOf iv).toNat)
            case atStart => exact ⟨0, by omega, by omega, rfl, ho5, hb5⟩
            case round =>
              clear ho5 hb5
              obtain ⟨i, hiS, hi128, rfl, hoj, hbj⟩ := hrel
              obtain ⟨q, hq, hqq⟩ : ∃ q : Nat, (fr : Int) + (i : Int) = (q : Int) ∧ q = fr + i := ⟨fr + i, by omega, rfl⟩
              have HQ := Lib.hid hqq
              clear hqq
              by_cases hc : q < SL ∧ i < 128
              · obtain ⟨hc1, hc2⟩ := hc
                have c1 : (q : Int) < (SL : Int) := by omega
                have c2 : (i : Int) < 128 := by omega
                have c3 : ¬ (128 : Int) ≤ (i : Int) := by omega
                have c4 : ¬ (SL : Int) ≤ (q : Int) := by omega
                have hs1 := hst.call hbj
                obtain ⟨_, _, e8, -, -, -, -, sat⟩ := (hs1.is 1 rfl : IsBytes _ _ _)
                rw [HS.out.1] at e8
                cases e8
                obtain ⟨gS, oS, e9, yS⟩ := sat q (by rw [List.length_map, HS.out.1]; exact hc1)
                subst e9
                have hit : i < t.length := by rw [HT.out.2]; have := HQ.out; omega
                have hset := padTo_set (s := t) (i := i) hit (by omega)
                have hget : t[i] = s[q]'(by rw [HS.out.1]; exact hc1) := by
                  simp only [← HT.out.1, List.getElem_drop, HQ.out]
                rw [hget] at hset
                rw [List.getElem_map] at yS
                obtain ⟨y, hy⟩ : ∃ y, s[q]'(by rw [HS.out.1]; exact hc1) = y := ⟨_, rfl⟩
                rw [hy] at yS hset
                have yS' : World.cell? _ ⟨gS, oS + q, none⟩ = some (.int .u8 (y.toNat : Int)) := yS
                have hidx : i < (padTo t i).length := by rw [padTo_len (by omega) (by omega)]; omega
                obtain ⟨z2, hcl2⟩ : ∃ z : UInt8, World.cell? _ ⟨gp, i, none⟩ = some (.int .u8 (z.toNat : Int)) := ⟨_, hoj.cellAt i hidx⟩
                have hfr2 := hoj.frozenAt i
                have HSET := Lib.hid hset
                have HO := Lib.hid hoj
                have HI := Lib.hid hiS
                clear sat yS hset hy hoj hidx hs1 hget hit
                go_wp2_with fail
                go_roundw
                case rel => exact ⟨i + 1, by have := HQ.out; omega, by omega, by go_num, by rw [← HSET.out]; exact HO.out.stored _ _, hbj.setCell hgP _⟩
                case measure => simp [intOf]; omega
              · have hfin : (i = 128 ∧ 128 ≤ t.length) ∨ (i = t.length ∧ i ≤ 128) := by rw [HT.out.2]; have := HQ.out; omega
                have hpc := padTo_piece hfin
                rw [hpc] at hoj
                have hcc : (¬ (i : Int) < 128) ∨ ((i : Int) < 128 ∧ ¬ (q : Int) < (SL : Int)) := by omega
                have hmore : headS s :: pcs (j + 1) (s.drop 127) = (headS s :: pcs j (s.drop 127)) ++ [piece t] := by
                  rw [pcs_more, ← HT.out.1, List.drop_drop, hfr.out]
                  rfl
                have HM := Lib.hid hmore
                have h14 := hst.putNew hS hbj hgP hoj.is
                clear hfin hpc hoj hc hst hmore
                rcases hcc with hcc | ⟨hcc, hcc2⟩
                all_goals
                  have h15 := h14.alloc (.cells #[.slice (some ⟨gp, 0, none⟩) 128 cq] 42)
                  have h16 := h15.shut
                  go_upto_region 11 with (at_builtin; go_loud (refine wpList_append_any' rfl (.tmp 62) (.tmp 64) 22 22 rfl w.heap.size 42 (.slice none 0 0) 1 24 Try.underlying22 slice_info rfl _ (j + 1) xs rfl (ho.owns h16) _ 1 [.slice (some ⟨gp, 0, none⟩) 128 cq] rfl (Src.row Try.underlying22 (IsRow.block (n := 1) (xs := [.slice (some ⟨gp, 0, none⟩) 128 cq]) (h15.at_ 0 rfl) rfl (by unfold maxLen; omega)) (fun u hu => by simp only [List.mem_cons, List.not_mem_nil, or_false] at hu; subst hu; rfl)) (by omega) (by unfold maxLen; omega) h16.size ?_); intro v' w' r1 r2 r3; obtain ⟨oo2, k17, h17⟩ := ho.append h16 r1 r2 r3; obtain ⟨vb2, vq2, rfl⟩ := own_slice r1)
                  have h19 := h17.put (Mono.elemsOff (S := S) _ _) (Elems.append (h17.get 2 rfl) (Elems.one (a := piece t) rfl ⟨_, rfl, h17.get 1 rfl⟩))
                  rw [← HM.out] at h19
                  clear h14 h15 h16 r1 r2 r3
                  go_wp2_with fail
                  go_roundw
                  case rel => exact ⟨j + 1, fr + 128, _, oo2, vb2, vq2, hjn, Lib.hid (by have := hfr.out; omega), rfl, by go_num, by omega, k17, h19.facts (fun P hP => by simp only [List.mem_cons, List.not_mem_nil, or_false] at hP ⊢; rcases hP with rfl | rfl <;> simp)⟩
                  case measure => simp [intOf]; omega
          · have hlti : ¬ (fr : Int) < (SL : Int) := by omega
            obtain rfl : n = j + 1 := by have := hfr.out; have := HS.out.2; omega
            have hrow := ho.owns hst
            have hgeq := fun kk hk => (World.ownsRow.lt hrow kk hk).1
            have h20 := ho.done hst
            have hls := lists_of (mask_row (S := S) (h20.is 0 rfl : IsRow _ _ _ _ _) fun kk hk => by
              cases hq : S kk with
              | false => rfl
              | true => have := hS kk hq; have := hgeq kk hk; omega) (h20.is 1 rfl) (by rw [List.length_cons, pcs_len])
            have hb := h20.below
            clear h20 hgeq hrow hst
            go_wp2_with fail
            go_ret
            exact ⟨ob, oq, rfl, hls, hb⟩
end Go.Proofs.Ytnfgapdpnihicaa
