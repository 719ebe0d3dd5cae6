/- The library's contracts for strings.Contains at this program, printed by the guide's shelf. -/
import Derived.Shelf.Strings.Search1
import Derived.Shelf.Strings.Search2
import Derived.Shelf.Strings.Search3
import Derived.Shelf.LaysM
import Derived.Shelf.Strings.Shaped
import Derived.Test.YtfpkibfofainaaaProg
namespace Go.Proofs.Ytfpkibfofainaaa
open Go Go.Shelf
def lays144_ren : Go.Shelf.Ren := ⟨fun | 144 => 94 | 143 => 97 | 219 => 98 | 217 => 99 | 225 => 100 | 224 => 101 | 267 => 102 | 266 => 103 | 314 => 104 | n => n, fun | 9 => 9 | 4 => 4 | 3 => 3 | 5 => 5 | 46 => 87 | 146 => 123 | 51 => 122 | n => n, fun | 1 => 0 | n => n⟩
theorem lays144 : Go.Proofs.Lays.n144 Try.prog lays144_ren := {
  mixed := by kernel_rfl
  f143 := Try.func97.trans (congrArg some (by kernel_rfl))
  f144 := Try.func94.trans (congrArg some (by kernel_rfl))
  f217 := Try.func99.trans (congrArg some (by kernel_rfl))
  f219 := Try.func98.trans (congrArg some (by kernel_rfl))
  f224 := Try.func101.trans (congrArg some (by kernel_rfl))
  f225 := Try.func100.trans (congrArg some (by kernel_rfl))
  f266 := Try.func103.trans (congrArg some (by kernel_rfl))
  f267 := Try.func102.trans (congrArg some (by kernel_rfl))
  f314 := Try.func104.trans (congrArg some (by kernel_rfl))
  t3 := Try.underlying3
  a3 := Try.isAgg3
  z3 := Try.sizeOf3
  v3 := Try.zeroValue3
  t4 := Try.underlying4
  a4 := Try.isAgg4
  z4 := Try.sizeOf4
  v4 := Try.zeroValue4
  t5 := Try.underlying5
  a5 := Try.isAgg5
  z5 := Try.sizeOf5
  v5 := Try.zeroValue5
  t9 := Try.underlying9
  a9 := Try.isAgg9
  z9 := Try.sizeOf9
  v9 := Try.zeroValue9
  t46 := Try.underlying87
  a46 := Try.isAgg87
  z46 := Try.sizeOf87
  v46 := Try.zeroValue87
  t51 := Try.underlying122
  a51 := Try.isAgg122
  z51 := Try.sizeOf122
  v51 := Try.zeroValue122
  t146 := Try.underlying123
  a146 := Try.isAgg123
  z146 := Try.sizeOf123
  v146 := Try.zeroValue123
  g1 := by kernel_rfl }
open Go.RowKit Go.Lib in
theorem strings_Contains_one (s : ByteArray) (c : UInt8) (w : World) :
    Calls Try.prog 94 #[.string s, .string ⟨#[c]⟩] w fun e w' => e = .returned (.bool (decide (0 ≤ Lib.indexByte s.data.toList c))) ∧ w' = w := Any.strings_Contains_one lays144 s c w
open Go.RowKit Go.Lib in
theorem strings_Contains (s sub : ByteArray) (m : Int) (w : World) (hs : s.size < 4294967281) (hm : w.cell? ⟨0, 0, none⟩ = some (.int .i64 m)) :
    Calls Try.prog 94 #[.string s, .string sub] w fun e w' => e = .returned (.bool (Lib.contains s.data.toList sub.data.toList)) ∧ w' = w := Any.strings_Contains lays144 s sub m w hs hm
def laysM144_ren : Go.Shelf.Ren := ⟨fun | 144 => 94 | 143 => 97 | 219 => 98 | 217 => 99 | 225 => 100 | 224 => 101 | 267 => 102 | 266 => 103 | 314 => 104 | n => n, fun | 9 => 9 | 4 => 4 | 3 => 3 | 5 => 5 | 46 => 87 | 146 => 123 | 51 => 122 | n => n, fun | 1 => 0 | n => n⟩
theorem laysM144 : Go.Proofs.LaysM.n144 Try.prog laysM144_ren := {
  mixed := by kernel_rfl
  f143 := Try.func97.trans (congrArg some (by kernel_rfl))
  f144 := Try.func94.trans (congrArg some (by kernel_rfl))
  f217 := Try.func99.trans (congrArg some (by kernel_rfl))
  f219 := Try.func98.trans (congrArg some (by kernel_rfl))
  f224 := Try.func101.trans (congrArg some (by kernel_rfl))
  f225 := Try.func100.trans (congrArg some (by kernel_rfl))
  f266 := Try.func103.trans (congrArg some (by kernel_rfl))
  f267 := Try.func102.trans (congrArg some (by kernel_rfl))
  f314 := Try.func104.trans (congrArg some (by kernel_rfl))
  t3 := Try.underlying3
  a3 := Try.isAgg3
  z3 := Try.sizeOf3
  v3 := Try.zeroValue3
  t4 := Try.underlying4
  a4 := Try.isAgg4
  z4 := Try.sizeOf4
  v4 := Try.zeroValue4
  t5 := Try.underlying5
  a5 := Try.isAgg5
  z5 := Try.sizeOf5
  v5 := Try.zeroValue5
  t9 := Try.underlying9
  a9 := Try.isAgg9
  z9 := Try.sizeOf9
  v9 := Try.zeroValue9
  t46 := Try.underlying87
  a46 := Try.isAgg87
  z46 := Try.sizeOf87
  v46 := Try.zeroValue87
  t51 := Try.underlying122
  a51 := Try.isAgg122
  z51 := Try.sizeOf122
  v51 := Try.zeroValue122
  t146 := Try.underlying123
  a146 := Try.isAgg123
  z146 := Try.sizeOf123
  v146 := Try.zeroValue123
  g1 := by kernel_rfl
  i3 := by kernel_rfl
  i4 := by kernel_rfl
  i5 := by kernel_rfl
  i9 := by kernel_rfl
  i46 := by kernel_rfl
  i51 := by kernel_rfl
  i146 := by kernel_rfl
  m1 := by kernel_rfl
  s1_3 := fun w h => Go.Proofs.cell_of_shapedOpen_int (zero := #[.int .i64 0]) (t := 3) h (of_decide_eq_true (by kernel_rfl)) (by kernel_rfl) rfl (by kernel_rfl) (by kernel_rfl) Try.underlying3 }
/-- The library's variable of lengths holds some integer. -/
def HasMax (w : World) : Prop := ∃ m : Int, w.cell? ⟨0, 0, none⟩ = some (.int .i64 m)
theorem hasMax_of (w : World) (h : w.ShapedOpen Try.prog) : HasMax w := laysM144.s1_3 w h
theorem contains_any (s sub : ByteArray) (w : World) (hs : s.size < 4294967281) (h : HasMax w) :
    Calls Try.prog 94 #[.string s, .string sub] w fun e w' => e = .returned (.bool (Lib.contains s.data.toList sub.data.toList)) ∧ w' = w := by
  obtain ⟨m, hm⟩ := h
  exact strings_Contains s sub m w hs hm
end Go.Proofs.Ytfpkibfofainaaa
