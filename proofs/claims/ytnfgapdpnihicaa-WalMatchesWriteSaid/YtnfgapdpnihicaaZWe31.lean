/- The walk over the iterator of wal.batches. -/
import Derived.Test.YtnfgapdpnihicaaZWd31
import Derived.Test.YtnfgapdpnihicaaZRf31
import Derived.Test.YtnfgapdpnihicaaZGF
import Derived.RangeFuncNested
import Derived.RangeFuncBound
import Derived.RangeFuncLeaves
import Derived.Shelf.Abstract
import Derived.Shelf.RegionOpen
import Derived.WalkKit
import Derived.TacticsInMore
import Derived.LoopNIn
import Derived.LoopIn
import Derived.WalkMore
set_option linter.unusedVariables false
set_option linter.unusedSimpArgs false
namespace Go.Proofs.Ytnfgapdpnihicaa
open Go Go.RowKit
attribute [local go_sem] Oper.semAt_some

/-- What the iterator finds in memory. -/
def Sees (gd g1 g2 : Nat) (b : Option Addr) (n q : Nat) (left tear : Int) (st : Bool) (f e : Nat) (sec : List (List UInt8)) (w : World) : Prop :=
  IsCells gd #[.slice b n q, .int .i64 left, .int .i64 tear, .bool st] w ∧ w.cell? ⟨g1, 0, none⟩ = some (.int .i64 f) ∧ w.cell? ⟨g2, 0, none⟩ = some (.int .i64 e) ∧ IsLists w (.slice b n q) sec
theorem Sees.sub {gd g1 g2 : Nat} {b : Option Addr} {n q : Nat} {left tear : Int} {st : Bool} {f e : Nat} {sec : List (List UInt8)} {w w' : World} (h : Sees gd g1 g2 b n q left tear st f e sec w) (k : Sub w w') : Sees gd g1 g2 b n q left tear st f e sec w' :=
  ⟨Mono.cells _ _ _ _ k h.1, k _ _ h.2.1, k _ _ h.2.2.1, h.2.2.2.sub k⟩
set_option maxRecDepth 8000 in
set_option maxHeartbeats 8000000 in
theorem iter_in (d : Dk) (hok : d.Ok) (gd g1 g2 l : Nat) (b : Option Addr) (n q : Nat) (f e : Nat) (hfe : f ≤ e) (he : e ≤ n) (hn : d.sec.length = n) (hen : e ≤ d.sec.length)
    (J : List (List UInt8) → Nat → World → Prop) (Jx : Int → World → Prop)
    (hJ : ∀ acc p A B, J acc p A → Below A.heap.size A B → J acc p B)
    (hS : ∀ acc p A, J acc p A → Sees gd g1 g2 b n q d.left d.tear d.stopped f e d.sec A)
    (hY : ∀ acc p A0 A m rs c rv g, J acc p A0 → Below A0.heap.size A0 A → p < e → Wl.batch d.sec p e = (m, rs, c) → (∀ S : Nat → Bool, (∀ k, S k = true → k < A0.heap.size) → IsLists (mask S A) rv rs) → A0.heap.size ≤ g → IsCells g #[.int .i64 p, .int .i64 m, rv, .int .i64 c] A →
      YieldAt Fence.wide 0 Try.prog l #[btV p m rv c] A fun en W' => (en = .returned (.bool true) ∧ c = 0 ∧ J (acc ++ rs) (p + m) W' ∧ IsCells g #[.int .i64 p, .int .i64 m, rv, .int .i64 c] W') ∨ (en = .returned (.bool false) ∧ c ≠ 0 ∧ Jx c W'))
    (W : World) (h0 : J [] f W) :
    CallsIn Fence.wide 0 Try.prog 69 #[.func (.yield l) #[] #[], .pointer (some ⟨g1, 0, none⟩), .pointer (some ⟨g2, 0, none⟩), .pointer (some ⟨gd, 0, none⟩)] W fun en W' => (∃ v, en = .returned v) ∧
      ((∃ acc p, Wl.scanL d.sec e (e - f) f = (acc, p, 0) ∧ J acc p W') ∨ (∃ c, c ≠ 0 ∧ Wl.scanL d.sec e (e - f) f = ([], 0, c) ∧ Jx c W')) := by
  refine callsIn_wide.2 ?_
  have HN := Lib.hid hn
  clear hn
  have hs0 := hS _ _ _ h0
  obtain ⟨k0, k1, k2, k3⟩ := hs0
  go_enter Try.func69, Try.ntmps69
  go_wp2_with fail
  go_step3
  go_wp2_with fail
  go_step3
  go_wp2_with fail
  go_loopw [5, 6] (fun pv _ wr => ∃ (acc : List (List UInt8)) (p : Nat), p ≤ e ∧ pv = .int .i64 p ∧ J acc p wr ∧ Scans d.sec e f acc p) (fun pv _ _ => e - (intOf pv).toNat)
  case atStart => exact ⟨[], f, hfe, rfl, h0, Scans.start _ _ _⟩
  case round =>
    clear k0 k1 k2 k3 h0
    obtain ⟨acc, p, hpe, rfl, hj, hsc⟩ := hrel
    obtain ⟨k0, k1, k2, k3⟩ := hS _ _ _ hj
    obtain ⟨c0, c1, c2, c3⟩ := k0.c4
    have HSC := Lib.hid hsc
    clear hsc
    by_cases hp : p < e
    · have hpl : p < d.sec.length := by omega
      have hpn : p < n := by omega
      have h128 := hok.size p hpl
      obtain ⟨_, _, ee, hq1, hq2, -, hat⟩ := k3.out
      rw [HN.out] at ee hq1
      cases ee
      obtain ⟨gb, off, u, rfl, hcell, hu⟩ := hat p hpl
      obtain ⟨_, _, e2, e3, e4, e5, e6, e7⟩ := hu
      rw [h128] at e2
      subst e2
      obtain ⟨b2, o2, e8, hby⟩ := e7 127 (by rw [List.length_map, h128]; omega)
      subst e8
      obtain ⟨y, hy⟩ : ∃ y, (d.sec[p]'hpl)[127]'(by omega) = y := ⟨_, rfl⟩
      rw [List.getElem_map, hy] at hby
      have hmk : Wl.marked d.sec p = (y == 165) := by
        unfold Wl.marked
        have e9 : d.sec.getD p [] = d.sec[p]'hpl := by rw [List.getD_eq_getElem?_getD, List.getElem?_eq_getElem hpl]; rfl
        rw [e9, List.getD_eq_getElem?_getD, List.getElem?_eq_getElem (by omega), Option.getD_some, hy]
      have HMK := Lib.hid hmk
      clear hat hmk hy e7
      by_cases hm : y = 165
      · subst hm
        have hmk : Wl.marked d.sec p = true := by rw [HMK.out]; rfl
        obtain ⟨⟨m, rs, c⟩, hb⟩ : ∃ r, Wl.batch d.sec p e = r := ⟨_, rfl⟩
        have HB := Lib.hid (And.intro hb hmk)
        have hrd := read_any wr (fun k => decide (k < wr.heap.size)) (fun k hk => of_decide_eq_true hk) (.agg #[.slice (some ⟨gb, off, none⟩) n q, .int .i64 d.left, .int .i64 d.tear, .bool d.stopped]) d ⟨_, rfl, k3⟩ hok p e hp hen hb
        have HRD := Lib.hid hrd
        clear hb hmk HMK hrd
        go_wp2_with fail
        refine HRD.out.mono ?_
        rintro en w2 ⟨rv, rfl, hl2, hb2⟩
        obtain ⟨rb, rq, rfl, -⟩ := hl2.out
        obtain ⟨N, hN⟩ : ∃ N, rs.length = N := ⟨_, rfl⟩
        rw [hN] at hl2 ⊢
        simp only [btV]
        go_upto_region 4 with fail
        have hw4 : Below w2.heap.size w2 (w2.alloc (.cells #[.int .i64 p, .int .i64 m, .slice rb N rq, .int .i64 c] 101)) := (Below.refl _ _).alloc (Nat.le_refl _) _
        have hg6 : IsCells w2.heap.size #[.int .i64 p, .int .i64 m, .slice rb N rq, .int .i64 c] (w2.alloc (.cells #[.int .i64 p, .int .i64 m, .slice rb N rq, .int .i64 c] 101)) := isCells_of (heap_alloc_new _ _)
        have hyl := hY acc p wr _ m rs c (.slice rb N rq) w2.heap.size hj (hb2.trans (hw4.mono hb2.size)) hp HB.out.1 (fun S hS => (hl2.sub (mask_less fun k hk => decide_eq_true (hS k hk))).sub (mask_below hw4 rfl)) hb2.size hg6
        generalize World.alloc _ _ = W4 at hg6 hyl ⊢
        obtain ⟨fn, tmps, assign, body, hy, hR⟩ := hyl
        obtain ⟨t0, t1, t2, t3⟩ := hg6.c4
        clear hw4 hg6 c0 c1 c2 c3 k0 k1 k2 k3 hcell hby
        have hbv : btV p m (.slice rb N rq) c = .agg #[.int .i64 p, .int .i64 m, .slice rb N rq, .int .i64 c] := rfl
        rw [hbv] at hy
        refine (wpIn_wide (n := 0)).1 ?_
        gi_wp2
        refine ⟨rfl, hR.mono ?_⟩
        rintro en W5 (⟨rfl, rfl, hj5, hg5⟩ | ⟨rfl, hc5, hx5⟩)
        · obtain ⟨t0, t1, t2, t3⟩ := hg5.c4
          have hbd := batch_bd HB.out.1 hp
          have hwm : IntKind.i64.wrap ((p : Int) + (m : Int)) = ((p + m : Nat) : Int) := by have := hok.many; rw [IntKind.wrap_i64]; omega
          gi_wp2
          go_wp2_with fail
          go_roundw
          case rel => exact ⟨acc ++ rs, p + m, by omega, by rfl, hj5, HSC.out.step hp HB.out.2 HB.out.1⟩
          case measure => simp [intOf]; omega
        · gi_wp2
          go_wp2_with fail
          rw [Exit.noGoto_normal]
          go_end0
          exact ⟨⟨_, rfl⟩, .inr ⟨c, hc5, HSC.out.bad hp HB.out.2 HB.out.1 hc5, hx5⟩⟩
      · have hne : ((y.toNat : Int) != 165) = true := by
          rw [bne_iff_ne]
          intro h
          exact hm (by have : y.toNat = 165 := by omega
                       exact UInt8.toNat_inj.1 (by rw [this]; rfl))
        have hmk : ¬ (p < e ∧ Wl.marked d.sec p = true) := by
          rw [HMK.out]
          rintro ⟨-, h⟩
          exact hm (beq_iff_eq.1 h)
        go_wp2_with fail
        rw [Exit.noGoto_normal]
        go_end0
        exact ⟨⟨_, rfl⟩, .inl ⟨acc, p, HSC.out.stop hmk, hj⟩⟩
    · go_wp2_with fail
      try rw [Exit.noGoto_normal]
      go_end0
      exact ⟨⟨_, rfl⟩, .inl ⟨acc, p, HSC.out.stop (fun h => hp h.1), hj⟩⟩
end Go.Proofs.Ytnfgapdpnihicaa
