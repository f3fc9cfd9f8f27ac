/- The types that this program uses, told. Conditions: none. -/
import Derived.Test.YtdggaeocdaodnaaProg
import Derived.Test.YtdggaeocdaodnaaAm
import Derived.KernelRfl
namespace Go.Al
open Go.Proofs
theorem mixed : Try.prog.follows .mixedOrders = true := by kernel_rfl
theorem ty3 : tyOf Try.prog 3 = some ⟨1, 8, false, some [.int .i64 0]⟩ := by kernel_rfl
theorem in3 : inOf Try.prog 3 = some .i64 := by kernel_rfl
theorem ty4 : tyOf Try.prog 4 = some ⟨1, 1, false, some [.bool false]⟩ := by kernel_rfl
theorem bo4 : isBool Try.prog 4 = true := by kernel_rfl
theorem ty5 : tyOf Try.prog 5 = some ⟨1, 1, false, some [.int .u8 0]⟩ := by kernel_rfl
theorem in5 : inOf Try.prog 5 = some .u8 := by kernel_rfl
theorem ty9 : tyOf Try.prog 9 = some ⟨1, 16, false, some [.string ⟨#[]⟩]⟩ := by kernel_rfl
theorem ty22 : tyOf Try.prog 22 = some ⟨1, 24, false, some [.slice none 0 0]⟩ := by kernel_rfl
theorem sl22 : slOf Try.prog 22 = some 35 := by kernel_rfl
theorem ty24 : tyOf Try.prog 24 = some ⟨1, 24, false, some [.slice none 0 0]⟩ := by kernel_rfl
theorem sl24 : slOf Try.prog 24 = some 32 := by kernel_rfl
theorem ty26 : tyOf Try.prog 26 = some ⟨4, 80, true, some [.int .i64 0, .slice none 0 0, .slice none 0 0, .slice none 0 0]⟩ := by kernel_rfl
theorem st26 : stOf Try.prog 26 = some [(3, 0), (24, 1), (24, 2), (24, 3)] := by kernel_rfl
theorem ty28 : tyOf Try.prog 28 = some ⟨4, 80, true, some [.int .i64 0, .slice none 0 0, .slice none 0 0, .slice none 0 0]⟩ := by kernel_rfl
theorem st28 : stOf Try.prog 28 = some [(3, 0), (24, 1), (24, 2), (24, 3)] := by kernel_rfl
theorem ty32 : tyOf Try.prog 32 = some ⟨1, 8, false, some [.int .u64 0]⟩ := by kernel_rfl
theorem in32 : inOf Try.prog 32 = some .u64 := by kernel_rfl
theorem ty33 : tyOf Try.prog 33 = some ⟨1, 2, false, some [.int .u16 0]⟩ := by kernel_rfl
theorem in33 : inOf Try.prog 33 = some .u16 := by kernel_rfl
theorem ty35 : tyOf Try.prog 35 = some ⟨3, 24, true, some [.int .u8 0, .int .u64 0, .int .u16 0]⟩ := by kernel_rfl
theorem st35 : stOf Try.prog 35 = some [(5, 0), (32, 1), (33, 2)] := by kernel_rfl
theorem ty52 : tyOf Try.prog 52 = some ⟨1, 24, false, some [.slice none 0 0]⟩ := by kernel_rfl
theorem sl52 : slOf Try.prog 52 = some 24 := by kernel_rfl
theorem ty67 : tyOf Try.prog 67 = some ⟨1, 8, false, some [.nilFunc]⟩ := by kernel_rfl
theorem ty69 : tyOf Try.prog 69 = some ⟨1, 8, false, some [.nilFunc]⟩ := by kernel_rfl
end Go.Al
