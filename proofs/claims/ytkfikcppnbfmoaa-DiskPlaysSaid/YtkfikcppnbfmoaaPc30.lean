/- The contracts of chapter 30 as what an operation of a drawn region yields. -/
import Derived.Test.YtkfikcppnbfmoaaActs
import Derived.Test.YtkfikcppnbfmoaaExW30
import Derived.Test.YtkfikcppnbfmoaaRegS
namespace Go.Proofs.Ytkfikcppnbfmoaa
open Go.RowKit

def pDk (D : Dk) : Pd := ⟨fun v w => ∃ b q, v = dkS b q D ∧ IsDk w (dkS b q D) D, fun _ _ _ h ⟨b, q, e, k⟩ => ⟨b, q, e, k.sub h⟩⟩
def pDkT (D : Dk) (x : Int) : Pd := ⟨fun v w => ∃ b q, v = .tuple #[dkS b q D, .int .i64 x] ∧ IsDk w (dkS b q D) D, fun _ _ _ h ⟨b, q, e, k⟩ => ⟨b, q, e, k.sub h⟩⟩
def pBytesT (l : List UInt8) (x : Int) : Pd := ⟨fun v w => ∃ b q, v = .tuple #[.slice b l.length q, .int .i64 x] ∧ IsBytes w (.slice b l.length q) l, fun _ _ _ h ⟨b, q, e, k⟩ => ⟨b, q, e, k.sub h⟩⟩
@[reducible] def dkZv : Value := .agg #[.slice none 0 0, .int .i64 0, .int .i64 0, .bool false]
theorem dk_zero_var : (Try.prog.info? 25).bind (·.zero) = some (.agg #[.slice none 0 0, .int .i64 0, .int .i64 0, .bool false]) := by kernel_rfl

section
variable {w0 W : World} {os : List (Nat × Obj)} {fs : List (World → Prop)}
theorem St.base {F : List (World → Prop)} (h : St w0 W os (F ++ fs)) (i : Nat) {P : World → Prop} (hi : fs[i]? = some P) : P (sm os W) := h.fact P (List.mem_append_right _ (List.mem_of_getElem? hi))
theorem fill_p (h : St w0 W os fs) (b : UInt8) (n : Int) (l : List UInt8) (hl : fillL b (fillN n) = l) :
    Calls Try.prog 17 #[.int .u8 (b.toNat : Int), .int .i64 n] W fun e w' => ∃ v, e = .returned v ∧ St w0 w' os ((pBytes l).p v :: fs) :=
  (fill_l h b _ n rfl l hl).mono fun e w' ⟨bs, q, he, hs⟩ => ⟨_, he, hs.head (pBytes l) _ fun hx => ⟨bs, q, rfl, hx⟩⟩
theorem write_p (h : St w0 W os fs) (v : Value) (d : Dk) (i : Int) (bv : Value) (b : List UInt8) (D : Dk) (x : Int) (hc : d.write i b = (D, x)) (hv : IsDk (sm os W) v d) (hb : IsBytes (sm os W) bv b) :
    Calls Try.prog 16 #[v, .int .i64 i, bv] W fun e w' => ∃ v, e = .returned v ∧ St w0 w' os ((pDkT D x).p v :: fs) :=
  (write_s h v d i bv b D x hc hv (hb.sub (mask_is _ _))).mono fun e w' ⟨bs, q, he, hs⟩ => ⟨_, he, hs.head (pDkT D x) _ fun hx => ⟨bs, q, rfl, hx⟩⟩
theorem refWrite_p (h : St w0 W os fs) (v : Value) (d : Dk) (i : Int) (bv : Value) (b : List UInt8) (D : Dk) (x : Int) (hc : d.write i b = (D, x)) (hd : d.Ok) (hv : IsDk (sm os W) v d) (hb : IsBytes (sm os W) bv b) :
    Calls Try.prog 18 #[v, .int .i64 i, bv] W fun e w' => ∃ v, e = .returned v ∧ St w0 w' os ((pDkT D x).p v :: fs) :=
  (refWrite_s h v d i bv b D x hc hd hv (hb.sub (mask_is _ _))).mono fun e w' ⟨bs, q, he, hs⟩ => ⟨_, he, hs.head (pDkT D x) _ fun hx => ⟨bs, q, rfl, hx⟩⟩
theorem fail_p (h : St w0 W os fs) (v : Value) (d : Dk) (l t : Int) (D : Dk) (x : Int) (hc : d.fail l t = (D, x)) (hv : IsDk (sm os W) v d) :
    Calls Try.prog 19 #[v, .int .i64 l, .int .i64 t] W fun e w' => ∃ v, e = .returned v ∧ St w0 w' os ((pDkT D x).p v :: fs) :=
  (fail_s h v d l t D x hc hv).mono fun e w' ⟨bs, q, he, hs⟩ => ⟨_, he, hs.head (pDkT D x) _ fun hx => ⟨bs, q, rfl, hx⟩⟩
theorem restart_p (h : St w0 W os fs) (v : Value) (d : Dk) (D : Dk) (hc : d.restart = D) (hv : IsDk (sm os W) v d) :
    Calls Try.prog 21 #[v] W fun e w' => ∃ v, e = .returned v ∧ St w0 w' os ((pDk D).p v :: fs) :=
  (restart_s h v d D hc hv).mono fun e w' ⟨bs, q, he, hs⟩ => ⟨_, he, hs.head (pDk D) _ fun hx => ⟨bs, q, rfl, hx⟩⟩
theorem read_p (h : St w0 W os fs) (v : Value) (d : Dk) (i : Int) (l : List UInt8) (x : Int) (hc : d.read i = (l, x)) (hv : IsDk (sm os W) v d) :
    Calls Try.prog 13 #[v, .int .i64 i] W fun e w' => ∃ v, e = .returned v ∧ St w0 w' os ((pBytesT l x).p v :: fs) :=
  (read_s h v d i l x hc hv).mono fun e w' ⟨bs, q, he, hs⟩ => ⟨_, he, hs.head (pBytesT l x) _ fun hx => ⟨bs, q, rfl, hx⟩⟩
theorem small_p (h : St w0 W os fs) (n : Int) (m : Nat) (hm : smallN n = m) :
    Calls Try.prog 9 #[.int .i64 n] W fun e w' => ∃ v, e = .returned v ∧ St w0 w' os ((pVal (.int .i64 m)).p v :: fs) :=
  (small_any W n).mono fun e w' ⟨he, hw⟩ => by subst hw; exact ⟨_, he, h.put ((pVal _).mono _) (by rw [hm]; rfl)⟩
theorem same_p (h : St w0 W os fs) (va vb : Value) (l : List UInt8) (ha : IsBytes (sm os W) va l) (hb : IsBytes (sm os W) vb l) :
    Calls Try.prog 15 #[va, vb] W fun e w' => ∃ v, e = .returned v ∧ St w0 w' os ((pVal (.bool true)).p v :: fs) :=
  (same_s h va vb l (ha.sub (mask_is _ _)) (hb.sub (mask_is _ _))).mono fun e w' ⟨he, hs⟩ => ⟨_, he, hs.put ((pVal _).mono _) rfl⟩
theorem sameDisk_p (h : St w0 W os fs) (va vb : Value) (d : Dk) (hd : d.sec.length ≤ 1048576) (ha : IsDk (sm os W) va d) (hb : IsDk (sm os W) vb d) :
    Calls Try.prog 12 #[va, vb] W fun e w' => ∃ v, e = .returned v ∧ St w0 w' os ((pVal (.bool true)).p v :: fs) :=
  (sameDisk_s h va vb d hd (ha.sub (mask_is _ _)) (hb.sub (mask_is _ _))).mono fun e w' ⟨he, hs⟩ => ⟨_, he, hs.put ((pVal _).mono _) rfl⟩
theorem example_p (h : St w0 W os fs) : Calls Try.prog 24 #[] W fun e w' => ∃ v, e = .returned v ∧ St w0 w' os ((pVal (.bool true)).p v :: fs) :=
  (example_any W).mono fun e w' ⟨he, hb⟩ => ⟨_, he, (h.call hb).put ((pVal _).mono _) rfl⟩
end
/-- A call's cells, as a region loads them. -/
theorem IsActs.cells_at {w : World} {ab ao n q : Nat} {l : List ActL} (h : IsActs w (.slice (some ⟨ab, ao, none⟩) n q) l) (k : Nat) (hk : k < l.length) :
    w.cell? ⟨ab, ao + k * 6, none⟩ = some (.int .i64 (l[k]).kind) ∧ w.cell? ⟨ab, ao + k * 6 + 1, none⟩ = some (.int .i64 (l[k]).at_) ∧ w.cell? ⟨ab, ao + k * 6 + 2, none⟩ = some (.int .u8 ((l[k]).fill.toNat : Int)) ∧
      w.cell? ⟨ab, ao + k * 6 + 3, none⟩ = some (.int .i64 (l[k]).size) ∧ w.cell? ⟨ab, ao + k * 6 + 4, none⟩ = some (.int .i64 (l[k]).left) ∧ w.cell? ⟨ab, ao + k * 6 + 5, none⟩ = some (.int .i64 (l[k]).tear) := by
  obtain ⟨_, _, e, _, _, hc⟩ := h.out
  cases e
  obtain ⟨_, _, e, h0, h1, h2, h3, h4, h5⟩ := hc k hk
  cases e
  exact ⟨h0, h1, h2, h3, h4, h5⟩
end Go.Proofs.Ytkfikcppnbfmoaa
