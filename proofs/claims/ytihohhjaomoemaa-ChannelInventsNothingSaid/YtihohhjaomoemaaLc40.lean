/- The contracts of chapter 40 in a walk without blocks of its own; the laws' packet. -/
import Derived.Test.YtihohhjaomoemaaRt40
set_option linter.unusedVariables false
set_option linter.unusedSimpArgs false
namespace Go.Proofs.Ytihohhjaomoemaa
open Go Go.RowKit

def noS : Nat → Bool := fun _ => false
theorem mask_no (w : World) : Sub w (mask noS w) := fun a v hx => by
  rw [World.cell?_of_block (w := w) (mask_block noS w _ rfl)]
  exact hx
theorem noS_lt (w : World) : ∀ k, noS k = true → k < w.heap.size := fun k h => by cases h
section
variable {w0 W : World} {fs : List (World → Prop)}
theorem St.keepCh (h : St w0 W [] fs) {w' : World} {v : Value} {l : List Pk} {n : Nat} (hn : l.length = n) (hv : (pPks l).p v (mask noS w')) (hb : Below W.heap.size W w') : ∃ b q, v = .slice b n q ∧ St w0 w' [] ((IsPks · (.slice b n q) l) :: fs) := by
  subst hn
  obtain ⟨b, q, rfl, hk⟩ := hv
  exact ⟨b, q, rfl, (h.call hb).keep (Mono.seq rdPk_up _ _) (hk.sub rdPk_up (mask_is _ _))⟩
theorem send_c (h : St w0 W [] fs) (hm : HasMax W) {lb : Option Addr} {lq n m : Nat} {l : List Pk} (x : Pk) {vb : Option Addr} {vq : Nat} (hl : IsPks W (.slice lb n lq) l) (hn : l.length = n) (hx : IsVals W (.slice vb m vq) x.fact.fields) (hxm : x.fact.fields.length = m) {l2 : List Pk} {c : Int} {n2 : Nat} (hR : sendR l x = (l2, c)) (hn2 : l2.length = n2) :
    Calls Try.prog 11 #[.agg #[.slice lb n lq], x.val (.slice vb m vq)] W fun e w' => ∃ b q, e = .returned (.tuple #[.agg #[.slice b n2 q], .int .i64 c]) ∧ St w0 w' [] ((IsPks · (.slice b n2 q) l2) :: fs) := by
  subst hn hxm
  refine (send_any W hm noS (noS_lt W) lb lq l x vb vq (hl.sub rdPk_up (mask_no W)) (hx.sub rdVal_up (mask_no W))).mono ?_
  rintro e w' ⟨v, rfl, hv, hb⟩
  rw [hR] at hv ⊢
  obtain ⟨b, q, rfl, hk⟩ := h.keepCh hn2 hv hb
  exact ⟨b, q, rfl, hk⟩
theorem refSend_c (h : St w0 W [] fs) {lb : Option Addr} {lq n m : Nat} {l : List Pk} (x : Pk) {vb : Option Addr} {vq : Nat} (hl : IsPks W (.slice lb n lq) l) (hn : l.length = n) (hx : IsVals W (.slice vb m vq) x.fact.fields) (hxm : x.fact.fields.length = m) {l2 : List Pk} {c : Int} {n2 : Nat} (hR : sendR l x = (l2, c)) (hn2 : l2.length = n2) :
    Calls Try.prog 19 #[.agg #[.slice lb n lq], x.val (.slice vb m vq)] W fun e w' => ∃ b q, e = .returned (.tuple #[.agg #[.slice b n2 q], .int .i64 c]) ∧ St w0 w' [] ((IsPks · (.slice b n2 q) l2) :: fs) := by
  subst hn hxm
  refine (refSend_any W  noS (noS_lt W) lb lq l x vb vq (hl.sub rdPk_up (mask_no W)) (hx.sub rdVal_up (mask_no W))).mono ?_
  rintro e w' ⟨v, rfl, hv, hb⟩
  rw [hR] at hv ⊢
  obtain ⟨b, q, rfl, hk⟩ := h.keepCh hn2 hv hb
  exact ⟨b, q, rfl, hk⟩
theorem drop_c (h : St w0 W [] fs) {lb : Option Addr} {lq n : Nat} {l : List Pk} (i : Int) (hl : IsPks W (.slice lb n lq) l) (hn : l.length = n) (hln : n ≤ 1048576) {l2 : List Pk} {c : Int} {n2 : Nat} (hR : dropR l i = (l2, c)) (hn2 : l2.length = n2) :
    Calls Try.prog 15 #[.agg #[.slice lb n lq], .int .i64 i] W fun e w' => ∃ b q, e = .returned (.tuple #[.agg #[.slice b n2 q], .int .i64 c]) ∧ St w0 w' [] ((IsPks · (.slice b n2 q) l2) :: fs) := by
  subst hn
  refine (drop_any W  noS (noS_lt W) lb lq l i (hl.sub rdPk_up (mask_no W)) hln).mono ?_
  rintro e w' ⟨v, rfl, hv, hb⟩
  rw [hR] at hv ⊢
  obtain ⟨b, q, rfl, hk⟩ := h.keepCh hn2 hv hb
  exact ⟨b, q, rfl, hk⟩
theorem refDrop_c (h : St w0 W [] fs) {lb : Option Addr} {lq n : Nat} {l : List Pk} (i : Int) (hl : IsPks W (.slice lb n lq) l) (hn : l.length = n) (hln : n ≤ 1048576) {l2 : List Pk} {c : Int} {n2 : Nat} (hR : dropR l i = (l2, c)) (hn2 : l2.length = n2) :
    Calls Try.prog 21 #[.agg #[.slice lb n lq], .int .i64 i] W fun e w' => ∃ b q, e = .returned (.tuple #[.agg #[.slice b n2 q], .int .i64 c]) ∧ St w0 w' [] ((IsPks · (.slice b n2 q) l2) :: fs) := by
  subst hn
  refine (refDrop_any W  noS (noS_lt W) lb lq l i (hl.sub rdPk_up (mask_no W)) hln).mono ?_
  rintro e w' ⟨v, rfl, hv, hb⟩
  rw [hR] at hv ⊢
  obtain ⟨b, q, rfl, hk⟩ := h.keepCh hn2 hv hb
  exact ⟨b, q, rfl, hk⟩
theorem copy_c (h : St w0 W [] fs) (hm : HasMax W) {lb : Option Addr} {lq n : Nat} {l : List Pk} (i : Int) (hl : IsPks W (.slice lb n lq) l) (hn : l.length = n) (hln : n ≤ 1048576) {l2 : List Pk} {c : Int} {n2 : Nat} (hR : copyR l i = (l2, c)) (hn2 : l2.length = n2) :
    Calls Try.prog 14 #[.agg #[.slice lb n lq], .int .i64 i] W fun e w' => ∃ b q, e = .returned (.tuple #[.agg #[.slice b n2 q], .int .i64 c]) ∧ St w0 w' [] ((IsPks · (.slice b n2 q) l2) :: fs) := by
  subst hn
  refine (copy_any W hm noS (noS_lt W) lb lq l i (hl.sub rdPk_up (mask_no W)) hln).mono ?_
  rintro e w' ⟨v, rfl, hv, hb⟩
  rw [hR] at hv ⊢
  obtain ⟨b, q, rfl, hk⟩ := h.keepCh hn2 hv hb
  exact ⟨b, q, rfl, hk⟩
theorem refCopy_c (h : St w0 W [] fs) {lb : Option Addr} {lq n : Nat} {l : List Pk} (i : Int) (hl : IsPks W (.slice lb n lq) l) (hn : l.length = n) (hln : n ≤ 1048576) {l2 : List Pk} {c : Int} {n2 : Nat} (hR : copyR l i = (l2, c)) (hn2 : l2.length = n2) :
    Calls Try.prog 22 #[.agg #[.slice lb n lq], .int .i64 i] W fun e w' => ∃ b q, e = .returned (.tuple #[.agg #[.slice b n2 q], .int .i64 c]) ∧ St w0 w' [] ((IsPks · (.slice b n2 q) l2) :: fs) := by
  subst hn
  refine (refCopy_any W  noS (noS_lt W) lb lq l i (hl.sub rdPk_up (mask_no W)) hln).mono ?_
  rintro e w' ⟨v, rfl, hv, hb⟩
  rw [hR] at hv ⊢
  obtain ⟨b, q, rfl, hk⟩ := h.keepCh hn2 hv hb
  exact ⟨b, q, rfl, hk⟩
theorem deliver_c (h : St w0 W [] fs) {lb : Option Addr} {lq n : Nat} {l : List Pk} (i : Int) (hl : IsPks W (.slice lb n lq) l) (hn : l.length = n) (hln : n ≤ 1048576) {l2 : List Pk} {p : Pk} {c : Int} {n2 m : Nat} (hR : delR l i = (l2, p, c)) (hn2 : l2.length = n2) (hm : p.fact.fields.length = m) :
    Calls Try.prog 16 #[.agg #[.slice lb n lq], .int .i64 i] W fun e w' => ∃ b q vb vq, e = .returned (.tuple #[.agg #[.slice b n2 q], p.val (.slice vb m vq), .int .i64 c]) ∧ St w0 w' [] ((IsVals · (.slice vb m vq) p.fact.fields) :: (IsPks · (.slice b n2 q) l2) :: fs) := by
  subst hn hm
  refine (deliver_any W noS (noS_lt W) lb lq l i (hl.sub rdPk_up (mask_no W)) hln).mono ?_
  rintro e w' ⟨v, vb, vq, rfl, hv, hx, hb⟩
  rw [hR] at hv hx ⊢
  obtain ⟨b, q, rfl, hk⟩ := h.keepCh hn2 hv hb
  exact ⟨b, q, vb, vq, rfl, hk.keep (Mono.seq rdVal_up _ _) (hx.sub rdVal_up (mask_is _ _))⟩
theorem refDeliver_c (h : St w0 W [] fs) {lb : Option Addr} {lq n : Nat} {l : List Pk} (i : Int) (hl : IsPks W (.slice lb n lq) l) (hn : l.length = n) (hln : n ≤ 1048576) {l2 : List Pk} {p : Pk} {c : Int} {n2 m : Nat} (hR : delR l i = (l2, p, c)) (hn2 : l2.length = n2) (hm : p.fact.fields.length = m) :
    Calls Try.prog 20 #[.agg #[.slice lb n lq], .int .i64 i] W fun e w' => ∃ b q vb vq, e = .returned (.tuple #[.agg #[.slice b n2 q], p.val (.slice vb m vq), .int .i64 c]) ∧ St w0 w' [] ((IsVals · (.slice vb m vq) p.fact.fields) :: (IsPks · (.slice b n2 q) l2) :: fs) := by
  subst hn hm
  refine (refDeliver_any W noS (noS_lt W) lb lq l i (hl.sub rdPk_up (mask_no W)) hln).mono ?_
  rintro e w' ⟨v, vb, vq, rfl, hv, hx, hb⟩
  rw [hR] at hv hx ⊢
  obtain ⟨b, q, rfl, hk⟩ := h.keepCh hn2 hv hb
  exact ⟨b, q, vb, vq, rfl, hk.keep (Mono.seq rdVal_up _ _) (hx.sub rdVal_up (mask_is _ _))⟩
theorem sameCh_c (h : St w0 W [] fs) {ab bb : Option Addr} {aq bq n m : Nat} {a b : List Pk} (ha : IsPks W (.slice ab n aq) a) (han : a.length = n) (hb : IsPks W (.slice bb m bq) b) (hbm : b.length = m) {r : Bool} (hr : decide (a = b) = r) :
    Calls Try.prog 12 #[.agg #[.slice ab n aq], .agg #[.slice bb m bq]] W fun e w' => e = .returned (.bool r) ∧ St w0 w' [] fs := by
  subst han hbm hr
  exact Calls.sV h (sameCh_any W a b ab bb aq bq ha hb)
theorem samePk_c (h : St w0 W [] fs) (a b : Pk) {ab bb : Option Addr} {aq bq n m : Nat} (ha : IsVals W (.slice ab n aq) a.fact.fields) (han : a.fact.fields.length = n) (hb : IsVals W (.slice bb m bq) b.fact.fields) (hbm : b.fact.fields.length = m) {r : Bool} (hr : decide (a = b) = r) :
    Calls Try.prog 13 #[a.val (.slice ab n aq), b.val (.slice bb m bq)] W fun e w' => e = .returned (.bool r) ∧ St w0 w' [] fs := by
  subst han hbm hr
  exact Calls.sV h (samePk_any W a b ab bb aq bq ha hb)
theorem chCheck_c (h : St w0 W [] fs) (hm : HasMax W) {ab : Option Addr} {aq n : Nat} {a : List Pk} (ha : IsPks W (.slice ab n aq) a) (han : a.length = n) {r : Int} (hr : chCheck a = r) :
    Calls Try.prog 18 #[.agg #[.slice ab n aq]] W fun e w' => e = .returned (.int .i64 r) ∧ St w0 w' [] fs := by
  subst han hr
  exact Calls.sV h (chCheck_any W hm ab aq a ha)
theorem refChCheck_c (h : St w0 W [] fs) {ab : Option Addr} {aq n : Nat} {a : List Pk} (ha : IsPks W (.slice ab n aq) a) (han : a.length = n) {r : Int} (hr : chCheck a = r) :
    Calls Try.prog 10 #[.agg #[.slice ab n aq]] W fun e w' => e = .returned (.int .i64 r) ∧ St w0 w' [] fs := by
  subst han hr
  exact Calls.sV h (refChCheck_any W ab aq a ha)
end
/-- The laws' packet. -/
def pkx (s : Int) : Pk := ⟨⟨#[97, 112, 112]⟩, false, 0, ⟨⟨#[97, 112, 112]⟩, s, 1, 0, ⟨#[116]⟩, ⟨#[107]⟩, 0, []⟩⟩
theorem packet_any (w : World) (s : Int) : Calls Try.prog 24 #[.int .i64 s] w fun e w' => e = .returned ((pkx s).val (.slice none 0 0)) ∧ Below w.heap.size w w' := by
  go_enter Try.func24, Try.ntmps24
  go_wp2_with fail
  have h1 := (St.start w).alloc (.cells (pkx s |>.cellsA (.slice none 0 0)) 31)
  exact bodyPost_ret (results_cell0 rfl _ _ w.heap.size 31 (pkx s |>.cellsA (.slice none 0 0)) (0, 0) _ rfl (h1.at_ 0 rfl) Try.underlying31 rfl pk_size) rfl ⟨rfl, h1.below⟩
end Go.Proofs.Ytihohhjaomoemaa
