/- The types that this program uses, told. Conditions: none. -/
import Derived.Test.YtonmgfndleacnaaProg
import Derived.Test.YtonmgfndleacnaaAl
import Derived.KernelRfl
namespace Go.Al
open Go.Proofs
theorem mixed : Try.prog.follows .mixedOrders = true := by kernel_rfl
theorem ty3 : tyOf Try.prog 3 = some ⟨1, 8, false, some [.int .i64 0]⟩ := by kernel_rfl
theorem in3 : inOf Try.prog 3 = some .i64 := by kernel_rfl
theorem ty4 : tyOf Try.prog 4 = some ⟨1, 1, false, some [.bool false]⟩ := by kernel_rfl
theorem bo4 : isBool Try.prog 4 = true := by kernel_rfl
theorem ty5 : tyOf Try.prog 5 = some ⟨1, 1, false, some [.int .u8 0]⟩ := by kernel_rfl
theorem in5 : inOf Try.prog 5 = some .u8 := by kernel_rfl
theorem ty22 : tyOf Try.prog 22 = some ⟨1, 8, false, some [.int .u64 0]⟩ := by kernel_rfl
theorem in22 : inOf Try.prog 22 = some .u64 := by kernel_rfl
theorem ty24 : tyOf Try.prog 24 = some ⟨1, 8, false, some [.nilFunc]⟩ := by kernel_rfl
theorem ty30 : tyOf Try.prog 30 = some ⟨1, 4, false, some [.int .u32 0]⟩ := by kernel_rfl
theorem in30 : inOf Try.prog 30 = some .u32 := by kernel_rfl
end Go.Al
