/- The contracts of chapter 30 in the words of a walk's state; the worked examples' disks. -/
import Derived.Test.YtkfikcppnbfmoaaChecked
import Derived.Test.YtkfikcppnbfmoaaLaw30
import Derived.Test.YtkfikcppnbfmoaaRefWr30
import Derived.Test.YtkfikcppnbfmoaaRefN30
import Derived.Test.YtkfikcppnbfmoaaDiskF
import Derived.Test.YtkfikcppnbfmoaaRefF30
import Derived.Test.YtkfikcppnbfmoaaRefRd30
import Derived.Test.YtkfikcppnbfmoaaDiskW
import Derived.Test.YtkfikcppnbfmoaaSt
import Derived.Deep.RegionHeld3
import Derived.Deep.CutRange
namespace Go.Proofs.Ytkfikcppnbfmoaa
open Go.RowKit

theorem Mono.dk (v : Value) (d : Dk) : Mono (IsDk · v d) := fun _ _ h p => p.sub h
/-- A disk's value, opened; its block. -/
@[reducible] def dkS (bs : Option Addr) (q : Nat) (d : Dk) : Value := .agg #[.slice bs d.sec.length q, .int .i64 d.left, .int .i64 d.tear, .bool d.stopped]
@[reducible] def dkA (bs : Option Addr) (q : Nat) (d : Dk) : Array Value := #[.slice bs d.sec.length q, .int .i64 d.left, .int .i64 d.tear, .bool d.stopped]
@[reducible] def dkB (bs : Option Addr) (q : Nat) (d : Dk) : Obj := .cells (dkA bs q d) 25 (0, 0)
@[reducible] def dkZ : Obj := .cells #[.slice none 0 0, .int .i64 0, .int .i64 0, .bool false] 25 (0, 0)
theorem IsDk.shape {w : World} {v : Value} {d : Dk} (h : IsDk w v d) : ∃ bs q, v = dkS bs q d := by
  obtain ⟨sv, rfl, hl⟩ := h
  obtain ⟨bs, q, rfl, -⟩ := hl.out
  exact ⟨bs, q, rfl⟩
theorem St.newVar {w0 W : World} {os : List (Nat × Obj)} {fs : List (World → Prop)} (h : St w0 W os fs) (cs0 cs : Array Value) (t : TypeId) : St w0 ((W.alloc (.cells cs0 t (0, 0))).setRow W.heap.size cs) ((W.heap.size, .cells cs t (0, 0)) :: os) fs :=
  (h.alloc (.cells cs0 t (0, 0))).setRow (os1 := [])
section
variable {w0 W : World} {os : List (Nat × Obj)} {fs : List (World → Prop)}
theorem new_s (h : St w0 W os fs) (n : Int) (D : Dk) (x : Int) (hc : Dk.new n = (D, x))  :
    Calls Try.prog 8 #[.int .i64 n] W fun e w' => ∃ bs q, e = .returned (.tuple #[dkS bs q D, .int .i64 x]) ∧ St w0 w' os ((IsDk · (dkS bs q D) D) :: fs) := by
  have hx := new_any (inL (keys os)) W h.ltS n
  rw [hc] at hx
  refine hx.mono fun e w' ⟨v', he, hd, hb⟩ => ?_
  obtain ⟨bs, q, rfl⟩ := hd.shape
  exact ⟨bs, q, he, (h.call hb).put (Mono.dk _ _) hd⟩
theorem refNew_s (h : St w0 W os fs) (n : Int) (D : Dk) (x : Int) (hc : Dk.new n = (D, x))  :
    Calls Try.prog 10 #[.int .i64 n] W fun e w' => ∃ bs q, e = .returned (.tuple #[dkS bs q D, .int .i64 x]) ∧ St w0 w' os ((IsDk · (dkS bs q D) D) :: fs) := by
  have hx := refNew_any (inL (keys os)) W h.ltS n
  rw [hc] at hx
  refine hx.mono fun e w' ⟨v', he, hd, hb⟩ => ?_
  obtain ⟨bs, q, rfl⟩ := hd.shape
  exact ⟨bs, q, he, (h.call hb).put (Mono.dk _ _) hd⟩
theorem write_s (h : St w0 W os fs) (v : Value) (d : Dk) (i : Int) (bv : Value) (b : List UInt8) (D : Dk) (x : Int) (hc : d.write i b = (D, x)) (hv : IsDk (sm os W) v d) (hb : IsBytes W bv b) :
    Calls Try.prog 16 #[v, .int .i64 i, bv] W fun e w' => ∃ bs q, e = .returned (.tuple #[dkS bs q D, .int .i64 x]) ∧ St w0 w' os ((IsDk · (dkS bs q D) D) :: fs) := by
  have hx := write_call (inL (keys os)) W h.ltS v d i bv b hv hb
  rw [hc] at hx
  refine hx.mono fun e w' ⟨v', he, hd, hb⟩ => ?_
  obtain ⟨bs, q, rfl⟩ := hd.shape
  exact ⟨bs, q, he, (h.call hb).put (Mono.dk _ _) hd⟩
theorem refWrite_s (h : St w0 W os fs) (v : Value) (d : Dk) (i : Int) (bv : Value) (b : List UInt8) (D : Dk) (x : Int) (hc : d.write i b = (D, x)) (hd : d.Ok) (hv : IsDk (sm os W) v d) (hb : IsBytes W bv b) :
    Calls Try.prog 18 #[v, .int .i64 i, bv] W fun e w' => ∃ bs q, e = .returned (.tuple #[dkS bs q D, .int .i64 x]) ∧ St w0 w' os ((IsDk · (dkS bs q D) D) :: fs) := by
  have hx := refWrite_any (inL (keys os)) W h.ltS v d i bv b hd hv hb
  rw [hc] at hx
  refine hx.mono fun e w' ⟨v', he, hd, hb⟩ => ?_
  obtain ⟨bs, q, rfl⟩ := hd.shape
  exact ⟨bs, q, he, (h.call hb).put (Mono.dk _ _) hd⟩
theorem fail_s (h : St w0 W os fs) (v : Value) (d : Dk) (l t : Int) (D : Dk) (x : Int) (hc : d.fail l t = (D, x)) (hv : IsDk (sm os W) v d) :
    Calls Try.prog 19 #[v, .int .i64 l, .int .i64 t] W fun e w' => ∃ bs q, e = .returned (.tuple #[dkS bs q D, .int .i64 x]) ∧ St w0 w' os ((IsDk · (dkS bs q D) D) :: fs) := by
  have hx := fail_any (inL (keys os)) W v d l t hv
  rw [hc] at hx
  refine hx.mono fun e w' ⟨v', he, hd, hb⟩ => ?_
  obtain ⟨bs, q, rfl⟩ := hd.shape
  exact ⟨bs, q, he, (h.call hb).put (Mono.dk _ _) hd⟩
theorem refFail_s (h : St w0 W os fs) (v : Value) (d : Dk) (l t : Int) (D : Dk) (x : Int) (hc : d.fail l t = (D, x)) (hd : d.Ok) (hv : IsDk (sm os W) v d) :
    Calls Try.prog 20 #[v, .int .i64 l, .int .i64 t] W fun e w' => ∃ bs q, e = .returned (.tuple #[dkS bs q D, .int .i64 x]) ∧ St w0 w' os ((IsDk · (dkS bs q D) D) :: fs) := by
  have hx := refFail_any (inL (keys os)) W v d l t hd hv
  rw [hc] at hx
  refine hx.mono fun e w' ⟨v', he, hd, hb⟩ => ?_
  obtain ⟨bs, q, rfl⟩ := hd.shape
  exact ⟨bs, q, he, (h.call hb).put (Mono.dk _ _) hd⟩
theorem restart_s (h : St w0 W os fs) (v : Value) (d : Dk) (D : Dk) (hc : d.restart = D) (hv : IsDk (sm os W) v d) :
    Calls Try.prog 21 #[v] W fun e w' => ∃ bs q, e = .returned (dkS bs q D) ∧ St w0 w' os ((IsDk · (dkS bs q D) D) :: fs) := by
  have hx := restart_any (inL (keys os)) W v d hv
  rw [hc] at hx
  refine hx.mono fun e w' ⟨v', he, hd, hb⟩ => ?_
  obtain ⟨bs, q, rfl⟩ := hd.shape
  exact ⟨bs, q, he, (h.call hb).put (Mono.dk _ _) hd⟩
theorem refRestart_s (h : St w0 W os fs) (v : Value) (d : Dk) (D : Dk) (hc : d.restart = D) (hd : d.Ok) (hv : IsDk (sm os W) v d) :
    Calls Try.prog 22 #[v] W fun e w' => ∃ bs q, e = .returned (dkS bs q D) ∧ St w0 w' os ((IsDk · (dkS bs q D) D) :: fs) := by
  have hx := refRestart_any (inL (keys os)) W v d hd hv
  rw [hc] at hx
  refine hx.mono fun e w' ⟨v', he, hd, hb⟩ => ?_
  obtain ⟨bs, q, rfl⟩ := hd.shape
  exact ⟨bs, q, he, (h.call hb).put (Mono.dk _ _) hd⟩
theorem read_s (h : St w0 W os fs) (v : Value) (d : Dk) (i : Int) (l : List UInt8) (x : Int) (hc : d.read i = (l, x)) (hv : IsDk (sm os W) v d) :
    Calls Try.prog 13 #[v, .int .i64 i] W fun e w' => ∃ bs q, e = .returned (.tuple #[.slice bs l.length q, .int .i64 x]) ∧ St w0 w' os ((IsBytes · (.slice bs l.length q) l) :: fs) := by
  have hx := read_any (inL (keys os)) W h.ltS v d i (hv.sub (mask_is _ _))
  rw [hc] at hx
  refine hx.mono fun e w' ⟨v', he, hd, hb⟩ => ?_
  obtain ⟨bs, q, rfl, -⟩ := hd.out
  exact ⟨bs, q, he, (h.call hb).put (Mono.bytes _ _) hd⟩
theorem refRead_s (h : St w0 W os fs) (v : Value) (d : Dk) (i : Int) (l : List UInt8) (x : Int) (hc : d.read i = (l, x)) (hd : d.Ok) (hv : IsDk (sm os W) v d) :
    Calls Try.prog 14 #[v, .int .i64 i] W fun e w' => ∃ bs q, e = .returned (.tuple #[.slice bs l.length q, .int .i64 x]) ∧ St w0 w' os ((IsBytes · (.slice bs l.length q) l) :: fs) := by
  have hx := refRead_any (inL (keys os)) W h.ltS v d i hd (hv.sub (mask_is _ _))
  rw [hc] at hx
  refine hx.mono fun e w' ⟨v', he, hd, hb⟩ => ?_
  obtain ⟨bs, q, rfl, -⟩ := hd.out
  exact ⟨bs, q, he, (h.call hb).put (Mono.bytes _ _) hd⟩
theorem fill_s (h : St w0 W os fs) (b : UInt8) (n : Int) (m : Nat) (hm : fillN n = m) :
    Calls Try.prog 17 #[.int .u8 (b.toNat : Int), .int .i64 n] W fun e w' => ∃ bs q, e = .returned (.slice bs (fillL b m).length q) ∧ St w0 w' os ((IsBytes · (.slice bs (fillL b m).length q) (fillL b m)) :: fs) := by
  refine (fill_any W b n).mono fun e w' ⟨v', he, ho, hb⟩ => ?_
  rw [hm] at ho
  obtain ⟨bs, q, rfl, -⟩ := ho.is.out
  exact ⟨bs, q, he, (h.call hb).putOwn ho h.lt⟩
theorem fill_l (h : St w0 W os fs) (b : UInt8) (bi n : Int) (hb : (b.toNat : Int) = bi) (l : List UInt8) (hl : fillL b (fillN n) = l) :
    Calls Try.prog 17 #[.int .u8 bi, .int .i64 n] W fun e w' => ∃ bs q, e = .returned (.slice bs l.length q) ∧ St w0 w' os ((IsBytes · (.slice bs l.length q) l) :: fs) := by
  subst hb hl
  exact fill_s h b n _ rfl
theorem same_s (h : St w0 W os fs) (va vb : Value) (l : List UInt8) (ha : IsBytes W va l) (hb : IsBytes W vb l) :
    Calls Try.prog 15 #[va, vb] W fun e w' => e = .returned (.bool true) ∧ St w0 w' os fs :=
  (sameBytes_any W va vb l l ha hb).mono fun _ _ ⟨h1, h2⟩ => ⟨by rw [h1]; simp, h.call h2⟩
theorem sameDisk_s (h : St w0 W os fs) (va vb : Value) (d : Dk) (hd : d.sec.length ≤ 1048576) (ha : IsDk W va d) (hb : IsDk W vb d) :
    Calls Try.prog 12 #[va, vb] W fun e w' => e = .returned (.bool true) ∧ St w0 w' os fs :=
  (sameDisk_eq W va vb d hd ha hb).mono fun _ _ ⟨h1, h2⟩ => ⟨h1, h.call h2⟩
theorem check_s (h : St w0 W os fs) (v : Value) (d : Dk) (hd : d.Ok) (hv : IsDk W v d) :
    Calls Try.prog 23 #[v] W fun e w' => e = .returned (.int .i64 0) ∧ St w0 w' os fs := by
  have hx := check_any W v d hv
  rw [(Dk.valid_iff d).2 hd] at hx
  exact hx.mono fun _ _ ⟨h1, h2⟩ => ⟨h1, h.call h2⟩
end

def exD : Dk := Dk.made 2
def exX : Dk := (exD.write 1 (fillL 9 128)).1
def exF : Dk := (exX.fail 1 3).1
def exY1 : Dk := (exF.write 0 (fillL 7 128)).1
def exY2 : Dk := (exY1.write 1 (fillL 7 128)).1
def exY3 : Dk := (exY2.write 0 (fillL 1 128)).1
def exR : Dk := exY3.restart
theorem exD_new : Dk.new 2 = (exD, 0) := by decide +kernel
theorem exX_code : exD.write 1 (fillL 9 128) = (exX, 0) := by decide +kernel
theorem exF_code : exX.fail 1 3 = (exF, 0) := by decide +kernel
theorem exY1_code : exF.write 0 (fillL 7 128) = (exY1, 0) := by decide +kernel
theorem exY2_code : exY1.write 1 (fillL 7 128) = (exY2, 300) := by decide +kernel
theorem exY3_code : exY2.write 0 (fillL 1 128) = (exY3, 300) := by decide +kernel
theorem exB : exX.read 1 = (fillL 9 128, 0) := by decide +kernel
theorem exC : exX.read 0 = (List.replicate 128 0, 0) := by decide +kernel
theorem exO : exY3.read 0 = ([], 300) := by decide +kernel
def exSl : List UInt8 := fillL 7 3 ++ fillL 12 125
theorem exS : exR.read 1 = (exSl, 0) := by decide +kernel
theorem exSl_len : exSl.length = 128 := by decide +kernel
theorem exSl_take : exSl.take 3 = fillL 7 3 := by decide +kernel
theorem exSl_drop : exSl.drop 3 = fillL 12 125 := by decide +kernel
theorem exT : exR.read 0 = (fillL 7 128, 0) := by decide +kernel


end Go.Proofs.Ytkfikcppnbfmoaa
