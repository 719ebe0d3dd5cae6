/- The contracts of chapter 40 in a walk with blocks of its own. -/
import Derived.Test.YtihohhjaomoemaaLc40
set_option linter.unusedVariables false
set_option linter.unusedSimpArgs false
namespace Go.Proofs.Ytihohhjaomoemaa
open Go Go.RowKit
section
variable {w0 W : World} {fs : List (World → Prop)} {os : List (Nat × Obj)}
theorem St.keepChS (h : St w0 W os fs) {w' : World} {v : Value} {l : List Pk} {n : Nat} (hn : l.length = n) (hv : (pPks l).p v (mask (orS noS (inL (keys os))) w')) (hb : Below W.heap.size W w') : ∃ b q, v = .slice b n q ∧ St w0 w' os ((IsPks · (.slice b n q) l) :: fs) := by
  subst hn
  obtain ⟨b, q, rfl, hk⟩ := hv
  exact ⟨b, q, rfl, (h.call hb).put (Mono.seq rdPk_up _ _) (hk.sub rdPk_up (mask_or2.trans (mask_is _ _)))⟩
theorem pks_or {v : Value} {l : List Pk} (h : IsPks (sm os W) v l) : IsPks (mask (orS noS (inL (keys os))) W) v l := (h.sub rdPk_up (mask_no _)).sub rdPk_up mask_or1
theorem vals_or {v : Value} {l : List Vl} (h : IsVals (sm os W) v l) : IsVals (mask (orS noS (inL (keys os))) W) v l := (h.sub rdVal_up (mask_no _)).sub rdVal_up mask_or1
theorem send_s (h : St w0 W os fs) (hm : HasMax W) {lb : Option Addr} {lq n m : Nat} {l : List Pk} (x : Pk) {vb : Option Addr} {vq : Nat} (hl : IsPks (sm os W) (.slice lb n lq) l) (hn : l.length = n) (hx : IsVals (sm os W) (.slice vb m vq) x.fact.fields) (hxm : x.fact.fields.length = m) {l2 : List Pk} {c : Int} {n2 : Nat} (hR : sendR l x = (l2, c)) (hn2 : l2.length = n2) :
    Calls Try.prog 11 #[.agg #[.slice lb n lq], x.val (.slice vb m vq)] W fun e w' => ∃ b q, e = .returned (.tuple #[.agg #[.slice b n2 q], .int .i64 c]) ∧ St w0 w' os ((IsPks · (.slice b n2 q) l2) :: fs) := by
  subst hn hxm
  refine (send_any W hm (orS noS (inL (keys os))) (h.orLt (noS_lt _)) lb lq l x vb vq (pks_or hl) (vals_or hx)).mono ?_
  rintro e w' ⟨v, rfl, hv, hb⟩
  rw [hR] at hv ⊢
  obtain ⟨b, q, rfl, hk⟩ := h.keepChS hn2 hv hb
  exact ⟨b, q, rfl, hk⟩
theorem refSend_s (h : St w0 W os fs) {lb : Option Addr} {lq n m : Nat} {l : List Pk} (x : Pk) {vb : Option Addr} {vq : Nat} (hl : IsPks (sm os W) (.slice lb n lq) l) (hn : l.length = n) (hx : IsVals (sm os W) (.slice vb m vq) x.fact.fields) (hxm : x.fact.fields.length = m) {l2 : List Pk} {c : Int} {n2 : Nat} (hR : sendR l x = (l2, c)) (hn2 : l2.length = n2) :
    Calls Try.prog 19 #[.agg #[.slice lb n lq], x.val (.slice vb m vq)] W fun e w' => ∃ b q, e = .returned (.tuple #[.agg #[.slice b n2 q], .int .i64 c]) ∧ St w0 w' os ((IsPks · (.slice b n2 q) l2) :: fs) := by
  subst hn hxm
  refine (refSend_any W  (orS noS (inL (keys os))) (h.orLt (noS_lt _)) lb lq l x vb vq (pks_or hl) (vals_or hx)).mono ?_
  rintro e w' ⟨v, rfl, hv, hb⟩
  rw [hR] at hv ⊢
  obtain ⟨b, q, rfl, hk⟩ := h.keepChS hn2 hv hb
  exact ⟨b, q, rfl, hk⟩
theorem drop_s (h : St w0 W os fs) {lb : Option Addr} {lq n : Nat} {l : List Pk} (i : Int) (hl : IsPks (sm os W) (.slice lb n lq) l) (hn : l.length = n) (hln : n ≤ 1048576) {l2 : List Pk} {c : Int} {n2 : Nat} (hR : dropR l i = (l2, c)) (hn2 : l2.length = n2) :
    Calls Try.prog 15 #[.agg #[.slice lb n lq], .int .i64 i] W fun e w' => ∃ b q, e = .returned (.tuple #[.agg #[.slice b n2 q], .int .i64 c]) ∧ St w0 w' os ((IsPks · (.slice b n2 q) l2) :: fs) := by
  subst hn
  refine (drop_any W  (orS noS (inL (keys os))) (h.orLt (noS_lt _)) lb lq l i (pks_or hl) hln).mono ?_
  rintro e w' ⟨v, rfl, hv, hb⟩
  rw [hR] at hv ⊢
  obtain ⟨b, q, rfl, hk⟩ := h.keepChS hn2 hv hb
  exact ⟨b, q, rfl, hk⟩
theorem refDrop_s (h : St w0 W os fs) {lb : Option Addr} {lq n : Nat} {l : List Pk} (i : Int) (hl : IsPks (sm os W) (.slice lb n lq) l) (hn : l.length = n) (hln : n ≤ 1048576) {l2 : List Pk} {c : Int} {n2 : Nat} (hR : dropR l i = (l2, c)) (hn2 : l2.length = n2) :
    Calls Try.prog 21 #[.agg #[.slice lb n lq], .int .i64 i] W fun e w' => ∃ b q, e = .returned (.tuple #[.agg #[.slice b n2 q], .int .i64 c]) ∧ St w0 w' os ((IsPks · (.slice b n2 q) l2) :: fs) := by
  subst hn
  refine (refDrop_any W  (orS noS (inL (keys os))) (h.orLt (noS_lt _)) lb lq l i (pks_or hl) hln).mono ?_
  rintro e w' ⟨v, rfl, hv, hb⟩
  rw [hR] at hv ⊢
  obtain ⟨b, q, rfl, hk⟩ := h.keepChS hn2 hv hb
  exact ⟨b, q, rfl, hk⟩
theorem copy_s (h : St w0 W os fs) (hm : HasMax W) {lb : Option Addr} {lq n : Nat} {l : List Pk} (i : Int) (hl : IsPks (sm os W) (.slice lb n lq) l) (hn : l.length = n) (hln : n ≤ 1048576) {l2 : List Pk} {c : Int} {n2 : Nat} (hR : copyR l i = (l2, c)) (hn2 : l2.length = n2) :
    Calls Try.prog 14 #[.agg #[.slice lb n lq], .int .i64 i] W fun e w' => ∃ b q, e = .returned (.tuple #[.agg #[.slice b n2 q], .int .i64 c]) ∧ St w0 w' os ((IsPks · (.slice b n2 q) l2) :: fs) := by
  subst hn
  refine (copy_any W hm (orS noS (inL (keys os))) (h.orLt (noS_lt _)) lb lq l i (pks_or hl) hln).mono ?_
  rintro e w' ⟨v, rfl, hv, hb⟩
  rw [hR] at hv ⊢
  obtain ⟨b, q, rfl, hk⟩ := h.keepChS hn2 hv hb
  exact ⟨b, q, rfl, hk⟩
theorem refCopy_s (h : St w0 W os fs) {lb : Option Addr} {lq n : Nat} {l : List Pk} (i : Int) (hl : IsPks (sm os W) (.slice lb n lq) l) (hn : l.length = n) (hln : n ≤ 1048576) {l2 : List Pk} {c : Int} {n2 : Nat} (hR : copyR l i = (l2, c)) (hn2 : l2.length = n2) :
    Calls Try.prog 22 #[.agg #[.slice lb n lq], .int .i64 i] W fun e w' => ∃ b q, e = .returned (.tuple #[.agg #[.slice b n2 q], .int .i64 c]) ∧ St w0 w' os ((IsPks · (.slice b n2 q) l2) :: fs) := by
  subst hn
  refine (refCopy_any W  (orS noS (inL (keys os))) (h.orLt (noS_lt _)) lb lq l i (pks_or hl) hln).mono ?_
  rintro e w' ⟨v, rfl, hv, hb⟩
  rw [hR] at hv ⊢
  obtain ⟨b, q, rfl, hk⟩ := h.keepChS hn2 hv hb
  exact ⟨b, q, rfl, hk⟩
theorem deliver_s (h : St w0 W os fs) {lb : Option Addr} {lq n : Nat} {l : List Pk} (i : Int) (hl : IsPks (sm os W) (.slice lb n lq) l) (hn : l.length = n) (hln : n ≤ 1048576) {l2 : List Pk} {p : Pk} {c : Int} {n2 m : Nat} (hR : delR l i = (l2, p, c)) (hn2 : l2.length = n2) (hm : p.fact.fields.length = m) :
    Calls Try.prog 16 #[.agg #[.slice lb n lq], .int .i64 i] W fun e w' => ∃ b q vb vq, e = .returned (.tuple #[.agg #[.slice b n2 q], p.val (.slice vb m vq), .int .i64 c]) ∧ St w0 w' os ((IsVals · (.slice vb m vq) p.fact.fields) :: (IsPks · (.slice b n2 q) l2) :: fs) := by
  subst hn hm
  refine (deliver_any W (orS noS (inL (keys os))) (h.orLt (noS_lt _)) lb lq l i (pks_or hl) hln).mono ?_
  rintro e w' ⟨v, vb, vq, rfl, hv, hx, hb⟩
  rw [hR] at hv hx ⊢
  obtain ⟨b, q, rfl, hk⟩ := h.keepChS hn2 hv hb
  exact ⟨b, q, vb, vq, rfl, hk.put (Mono.seq rdVal_up _ _) (hx.sub rdVal_up (mask_or2.trans (mask_is _ _)))⟩
theorem refDeliver_s (h : St w0 W os fs) {lb : Option Addr} {lq n : Nat} {l : List Pk} (i : Int) (hl : IsPks (sm os W) (.slice lb n lq) l) (hn : l.length = n) (hln : n ≤ 1048576) {l2 : List Pk} {p : Pk} {c : Int} {n2 m : Nat} (hR : delR l i = (l2, p, c)) (hn2 : l2.length = n2) (hm : p.fact.fields.length = m) :
    Calls Try.prog 20 #[.agg #[.slice lb n lq], .int .i64 i] W fun e w' => ∃ b q vb vq, e = .returned (.tuple #[.agg #[.slice b n2 q], p.val (.slice vb m vq), .int .i64 c]) ∧ St w0 w' os ((IsVals · (.slice vb m vq) p.fact.fields) :: (IsPks · (.slice b n2 q) l2) :: fs) := by
  subst hn hm
  refine (refDeliver_any W (orS noS (inL (keys os))) (h.orLt (noS_lt _)) lb lq l i (pks_or hl) hln).mono ?_
  rintro e w' ⟨v, vb, vq, rfl, hv, hx, hb⟩
  rw [hR] at hv hx ⊢
  obtain ⟨b, q, rfl, hk⟩ := h.keepChS hn2 hv hb
  exact ⟨b, q, vb, vq, rfl, hk.put (Mono.seq rdVal_up _ _) (hx.sub rdVal_up (mask_or2.trans (mask_is _ _)))⟩
theorem sameCh_s (h : St w0 W os fs) {ab bb : Option Addr} {aq bq n m : Nat} {a b : List Pk} (ha : IsPks W (.slice ab n aq) a) (han : a.length = n) (hb : IsPks W (.slice bb m bq) b) (hbm : b.length = m) {r : Bool} (hr : decide (a = b) = r) :
    Calls Try.prog 12 #[.agg #[.slice ab n aq], .agg #[.slice bb m bq]] W fun e w' => e = .returned (.bool r) ∧ St w0 w' os fs := by
  subst han hbm hr
  exact Calls.sV h (sameCh_any W a b ab bb aq bq ha hb)
theorem samePk_s (h : St w0 W os fs) (a b : Pk) {ab bb : Option Addr} {aq bq n m : Nat} (ha : IsVals W (.slice ab n aq) a.fact.fields) (han : a.fact.fields.length = n) (hb : IsVals W (.slice bb m bq) b.fact.fields) (hbm : b.fact.fields.length = m) {r : Bool} (hr : decide (a = b) = r) :
    Calls Try.prog 13 #[a.val (.slice ab n aq), b.val (.slice bb m bq)] W fun e w' => e = .returned (.bool r) ∧ St w0 w' os fs := by
  subst han hbm hr
  exact Calls.sV h (samePk_any W a b ab bb aq bq ha hb)
end
end Go.Proofs.Ytihohhjaomoemaa
