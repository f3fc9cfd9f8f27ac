/- The types that this program uses, told. Conditions: none. -/
import Derived.Test.YteiijlhejjlifaaProg
import Derived.Test.YteiijlhejjlifaaAm
import Derived.KernelRfl
namespace Go.Al
open Go.Proofs
theorem mixed : Try.prog.follows .mixedOrders = true := by kernel_rfl
theorem ty3 : tyOf Try.prog 3 = some ⟨1, 8, false, some [.int .i64 0]⟩ := by kernel_rfl
theorem in3 : inOf Try.prog 3 = some .i64 := by kernel_rfl
theorem ty4 : tyOf Try.prog 4 = some ⟨1, 1, false, some [.bool false]⟩ := by kernel_rfl
theorem bo4 : isBool Try.prog 4 = true := by kernel_rfl
theorem ty22 : tyOf Try.prog 22 = some ⟨1, 24, false, some [.slice none 0 0]⟩ := by kernel_rfl
theorem sl22 : slOf Try.prog 22 = some 23 := by kernel_rfl
theorem ty23 : tyOf Try.prog 23 = some ⟨1, 8, false, some [.int .u64 0]⟩ := by kernel_rfl
theorem in23 : inOf Try.prog 23 = some .u64 := by kernel_rfl
theorem ty37 : tyOf Try.prog 37 = some ⟨1, 24, false, some [.slice none 0 0]⟩ := by kernel_rfl
theorem sl37 : slOf Try.prog 37 = some 22 := by kernel_rfl
theorem ty41 : tyOf Try.prog 41 = some ⟨1, 8, false, some [.nilFunc]⟩ := by kernel_rfl
theorem ty43 : tyOf Try.prog 43 = some ⟨1, 8, false, some [.map none]⟩ := by kernel_rfl
theorem map43 : mapOf Try.prog 43 = some (23, 4) := by kernel_rfl
end Go.Al
