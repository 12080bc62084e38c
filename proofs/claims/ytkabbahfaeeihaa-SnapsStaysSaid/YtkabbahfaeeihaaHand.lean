/- slices.Clone and slices.Delete at the seat's two kinds of elements: the library's own contracts, laid at this program. -/
import Derived.Test.YtkabbahfaeeihaaProg
import Derived.Shelf.SlicesE.Clone
import Derived.Shelf.SlicesE.Delete
import Derived.Test.YtkabbahfaeeihaaWMore
namespace Go.Proofs.Ytkabbahfaeeihaa
open Go.Shelf

def clI_ren : Go.Shelf.Ren := ⟨fun | 41 => 30 | n => n, fun | 4 => 4 | 22 => 24 | 23 => 3 | n => n, fun n => n⟩
theorem clI : SlLaysE0.n41 Try.prog clI_ren where
  mixed := by kernel_rfl
  f41 := ⟨"slices.Clone[[]int,int]", by decide, Try.func30.trans (congrArg some (by kernel_rfl))⟩
  t4 := Try.underlying4
  a4 := Try.isAgg4
  z4 := Try.sizeOf4
  v4 := Try.zeroValue4
  t22 := Try.underlying24
  a22 := Try.isAgg24
  z22 := Try.sizeOf24
  v22 := Try.zeroValue24
def clL_ren : Go.Shelf.Ren := ⟨fun | 41 => 38 | n => n, fun | 4 => 4 | 22 => 22 | 23 => 31 | n => n, fun n => n⟩
theorem clL : SlLaysE0.n41 Try.prog clL_ren where
  mixed := by kernel_rfl
  f41 := ⟨"slices.Clone[[][]cordwood/api.Node,[]cordwood/api.Node]", by decide, Try.func38.trans (congrArg some (by kernel_rfl))⟩
  t4 := Try.underlying4
  a4 := Try.isAgg4
  z4 := Try.sizeOf4
  v4 := Try.zeroValue4
  t22 := Try.underlying22
  a22 := Try.isAgg22
  z22 := Try.sizeOf22
  v22 := Try.zeroValue22
def deI_ren : Go.Shelf.Ren := ⟨fun | 45 => 42 | n => n, fun | 0 => 0 | 3 => 3 | 4 => 4 | 22 => 24 | 23 => 3 | n => n, fun n => n⟩
theorem deI : SlLaysE.n45 Try.prog deI_ren where
  mixed := by kernel_rfl
  f45 := ⟨"slices.Delete[[]int,int]", by decide, Try.func42.trans (congrArg some (by kernel_rfl))⟩
  t0 := Try.underlying0
  a0 := Try.isAgg0
  z0 := Try.sizeOf0
  v0 := Try.zeroValue0
  t3 := Try.underlying3
  a3 := Try.isAgg3
  z3 := Try.sizeOf3
  v3 := Try.zeroValue3
  t4 := Try.underlying4
  a4 := Try.isAgg4
  z4 := Try.sizeOf4
  v4 := Try.zeroValue4
  t22 := Try.underlying24
  a22 := Try.isAgg24
  z22 := Try.sizeOf24
  v22 := Try.zeroValue24
  a23 := Try.isAgg3
  z23 := Try.sizeOf3
def deL_ren : Go.Shelf.Ren := ⟨fun | 45 => 43 | n => n, fun | 0 => 0 | 3 => 3 | 4 => 4 | 22 => 22 | 23 => 31 | n => n, fun n => n⟩
theorem deL : SlLaysE.n45 Try.prog deL_ren where
  mixed := by kernel_rfl
  f45 := ⟨"slices.Delete[[][]cordwood/api.Node,[]cordwood/api.Node]", by decide, Try.func43.trans (congrArg some (by kernel_rfl))⟩
  t0 := Try.underlying0
  a0 := Try.isAgg0
  z0 := Try.sizeOf0
  v0 := Try.zeroValue0
  t3 := Try.underlying3
  a3 := Try.isAgg3
  z3 := Try.sizeOf3
  v3 := Try.zeroValue3
  t4 := Try.underlying4
  a4 := Try.isAgg4
  z4 := Try.sizeOf4
  v4 := Try.zeroValue4
  t22 := Try.underlying22
  a22 := Try.isAgg22
  z22 := Try.sizeOf22
  v22 := Try.zeroValue22
  a23 := Try.isAgg31
  z23 := Try.sizeOf31
theorem h_info3 : (Try.prog.info? 3).map (fun i => (i.zero, i.size, i.bytes)) = some (some (.int .i64 0), 1, 8) := by kernel_rfl
theorem h_info31 : (Try.prog.info? 31).map (fun i => (i.zero, i.size, i.bytes)) = some (some (.slice none 0 0), 1, 24) := by kernel_rfl
open Go.Proofs.YtkabbahfaeeihaaW.PrintWords in
theorem hand_nil {α : Type} {d : Kd α} {w : World} {n : Nat} {xs : List α} (h : Kd.C d w none n xs) : xs = [] := by
  obtain ⟨h1, _, h2⟩ := h
  cases xs with
  | nil => rfl
  | cons a t =>
    obtain ⟨ad, e, _⟩ := h2 (by rw [← h1]; simp)
    cases e
end Go.Proofs.Ytkabbahfaeeihaa
