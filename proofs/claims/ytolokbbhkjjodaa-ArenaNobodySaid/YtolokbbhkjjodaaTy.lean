/- The types that this program uses, told. Conditions: none. -/
import Derived.Test.YtolokbbhkjjodaaProg
import Derived.Test.YtolokbbhkjjodaaAm
import Derived.KernelRfl
namespace Go.Al
open Go.Proofs
theorem mixed : Try.prog.follows .mixedOrders = true := by kernel_rfl
theorem ty3 : tyOf Try.prog 3 = some ⟨1, 8, false, some [.int .i64 0]⟩ := by kernel_rfl
theorem in3 : inOf Try.prog 3 = some .i64 := by kernel_rfl
theorem ty4 : tyOf Try.prog 4 = some ⟨1, 1, false, some [.bool false]⟩ := by kernel_rfl
theorem bo4 : isBool Try.prog 4 = true := by kernel_rfl
theorem ty5 : tyOf Try.prog 5 = some ⟨1, 1, false, some [.int .u8 0]⟩ := by kernel_rfl
theorem in5 : inOf Try.prog 5 = some .u8 := by kernel_rfl
theorem ty21 : tyOf Try.prog 21 = some ⟨1, 4, false, some [.int .i32 0]⟩ := by kernel_rfl
theorem in21 : inOf Try.prog 21 = some .i32 := by kernel_rfl
theorem ty22 : tyOf Try.prog 22 = some ⟨1, 24, false, some [.slice none 0 0]⟩ := by kernel_rfl
theorem sl22 : slOf Try.prog 22 = some 51 := by kernel_rfl
theorem ty24 : tyOf Try.prog 24 = some ⟨1, 8, false, some [.pointer none]⟩ := by kernel_rfl
theorem pt24 : isPtr Try.prog 24 = true := by kernel_rfl
theorem ty25 : tyOf Try.prog 25 = some ⟨1, 24, false, some [.slice none 0 0]⟩ := by kernel_rfl
theorem sl25 : slOf Try.prog 25 = some 21 := by kernel_rfl
theorem ty26 : tyOf Try.prog 26 = some ⟨1, 24, false, some [.slice none 0 0]⟩ := by kernel_rfl
theorem sl26 : slOf Try.prog 26 = some 36 := by kernel_rfl
theorem ty28 : tyOf Try.prog 28 = some ⟨4, 64, true, some [.int .i64 0, .int .i64 0, .slice none 0 0, .slice none 0 0]⟩ := by kernel_rfl
theorem st28 : stOf Try.prog 28 = some [(3, 0), (3, 1), (25, 2), (26, 3)] := by kernel_rfl
theorem ty31 : tyOf Try.prog 31 = some ⟨1, 8, false, some [.int .u64 0]⟩ := by kernel_rfl
theorem in31 : inOf Try.prog 31 = some .u64 := by kernel_rfl
theorem ty33 : tyOf Try.prog 33 = some ⟨6, 40, true, some [.int .u64 0, .int .u64 0, .int .i64 0, .int .i64 0, .int .i32 0, .int .i32 0]⟩ := by kernel_rfl
theorem st33 : stOf Try.prog 33 = some [(31, 0), (31, 1), (3, 2), (3, 3), (21, 4), (21, 5)] := by kernel_rfl
theorem ty36 : tyOf Try.prog 36 = some ⟨6, 40, true, some [.int .u64 0, .int .u64 0, .int .i64 0, .int .i64 0, .int .i32 0, .int .i32 0]⟩ := by kernel_rfl
theorem st36 : stOf Try.prog 36 = some [(31, 0), (31, 1), (3, 2), (3, 3), (21, 4), (21, 5)] := by kernel_rfl
theorem ty51 : tyOf Try.prog 51 = some ⟨8, 48, true, some [.int .u8 0, .int .i32 0, .int .u64 0, .int .u64 0, .int .i64 0, .int .i64 0, .int .i32 0, .int .i32 0]⟩ := by kernel_rfl
theorem st51 : stOf Try.prog 51 = some [(5, 0), (21, 1), (36, 2)] := by kernel_rfl
theorem ty57 : tyOf Try.prog 57 = some ⟨7, 48, true, some [.int .u64 0, .int .u64 0, .int .i64 0, .int .i64 0, .int .i32 0, .int .i32 0, .bool false]⟩ := by kernel_rfl
theorem st57 : stOf Try.prog 57 = some [(33, 0), (4, 6)] := by kernel_rfl
theorem ty58 : tyOf Try.prog 58 = some ⟨1, 24, false, some [.slice none 0 0]⟩ := by kernel_rfl
theorem sl58 : slOf Try.prog 58 = some 57 := by kernel_rfl
theorem ty60 : tyOf Try.prog 60 = some ⟨4, 64, true, some [.slice none 0 0, .slice none 0 0, .int .i64 0, .int .i64 0]⟩ := by kernel_rfl
theorem st60 : stOf Try.prog 60 = some [(58, 0), (25, 1), (3, 2), (3, 3)] := by kernel_rfl
theorem tys : (type_of% ty3) ∧ (type_of% in3) ∧ (type_of% ty4) ∧ (type_of% bo4) ∧ (type_of% ty5) ∧ (type_of% in5) ∧ (type_of% ty21) ∧ (type_of% in21) ∧ (type_of% ty22) ∧ (type_of% sl22) ∧ (type_of% ty24) ∧ (type_of% pt24) ∧ (type_of% ty25) ∧ (type_of% sl25) ∧ (type_of% ty26) ∧ (type_of% sl26) ∧ (type_of% ty28) ∧ (type_of% st28) ∧ (type_of% ty31) ∧ (type_of% in31) ∧ (type_of% ty33) ∧ (type_of% st33) ∧ (type_of% ty36) ∧ (type_of% st36) ∧ (type_of% ty51) ∧ (type_of% st51) ∧ (type_of% ty57) ∧ (type_of% st57) ∧ (type_of% ty58) ∧ (type_of% sl58) ∧ (type_of% ty60) ∧ (type_of% st60) :=
  ⟨ty3, in3, ty4, bo4, ty5, in5, ty21, in21, ty22, sl22, ty24, pt24, ty25, sl25, ty26, sl26, ty28, st28, ty31, in31, ty33, st33, ty36, st36, ty51, st51, ty57, st57, ty58, sl58, ty60, st60⟩
end Go.Al
