/- The types that this program uses, told. Conditions: none. -/
import Derived.Test.YtnojinpneojfeaaProg
import Derived.Test.YtnojinpneojfeaaAm
import Derived.KernelRfl
namespace Go.Al
open Go.Proofs
theorem mixed : Try.prog.follows .mixedOrders = true := by kernel_rfl
theorem ty3 : tyOf Try.prog 3 = some ⟨1, 8, false, some [.int .i64 0]⟩ := by kernel_rfl
theorem in3 : inOf Try.prog 3 = some .i64 := by kernel_rfl
theorem ty4 : tyOf Try.prog 4 = some ⟨1, 1, false, some [.bool false]⟩ := by kernel_rfl
theorem bo4 : isBool Try.prog 4 = true := by kernel_rfl
theorem ty5 : tyOf Try.prog 5 = some ⟨1, 1, false, some [.int .u8 0]⟩ := by kernel_rfl
theorem in5 : inOf Try.prog 5 = some .u8 := by kernel_rfl
theorem ty21 : tyOf Try.prog 21 = some ⟨1, 4, false, some [.int .i32 0]⟩ := by kernel_rfl
theorem in21 : inOf Try.prog 21 = some .i32 := by kernel_rfl
theorem ty22 : tyOf Try.prog 22 = some ⟨1, 24, false, some [.slice none 0 0]⟩ := by kernel_rfl
theorem sl22 : slOf Try.prog 22 = some 45 := by kernel_rfl
theorem ty24 : tyOf Try.prog 24 = some ⟨1, 8, false, some [.pointer none]⟩ := by kernel_rfl
theorem pt24 : isPtr Try.prog 24 = true := by kernel_rfl
theorem ty25 : tyOf Try.prog 25 = some ⟨1, 24, false, some [.slice none 0 0]⟩ := by kernel_rfl
theorem sl25 : slOf Try.prog 25 = some 34 := by kernel_rfl
theorem ty27 : tyOf Try.prog 27 = some ⟨1, 24, true, some [.slice none 0 0]⟩ := by kernel_rfl
theorem st27 : stOf Try.prog 27 = some [(25, 0)] := by kernel_rfl
theorem ty30 : tyOf Try.prog 30 = some ⟨1, 8, false, some [.int .u64 0]⟩ := by kernel_rfl
theorem in30 : inOf Try.prog 30 = some .u64 := by kernel_rfl
theorem ty34 : tyOf Try.prog 34 = some ⟨3, 16, true, some [.int .u64 0, .int .i32 0, .bool false]⟩ := by kernel_rfl
theorem st34 : stOf Try.prog 34 = some [(30, 0), (21, 1), (4, 2)] := by kernel_rfl
theorem ty45 : tyOf Try.prog 45 = some ⟨3, 24, true, some [.int .u8 0, .int .u64 0, .int .i32 0]⟩ := by kernel_rfl
theorem st45 : stOf Try.prog 45 = some [(5, 0), (30, 1), (21, 2)] := by kernel_rfl
theorem ty56 : tyOf Try.prog 56 = some ⟨3, 16, true, some [.int .u64 0, .int .i32 0, .bool false]⟩ := by kernel_rfl
theorem st56 : stOf Try.prog 56 = some [(30, 0), (21, 1), (4, 2)] := by kernel_rfl
theorem ty57 : tyOf Try.prog 57 = some ⟨1, 24, false, some [.slice none 0 0]⟩ := by kernel_rfl
theorem sl57 : slOf Try.prog 57 = some 56 := by kernel_rfl
theorem ty59 : tyOf Try.prog 59 = some ⟨2, 32, true, some [.slice none 0 0, .int .i64 0]⟩ := by kernel_rfl
theorem st59 : stOf Try.prog 59 = some [(57, 0), (3, 1)] := by kernel_rfl
theorem ty63 : tyOf Try.prog 63 = some ⟨1, 8, false, some [.nilFunc]⟩ := by kernel_rfl
theorem ty64 : tyOf Try.prog 64 = some ⟨1, 8, false, some [.nilFunc]⟩ := by kernel_rfl
theorem tys : (type_of% ty3) ∧ (type_of% in3) ∧ (type_of% ty4) ∧ (type_of% bo4) ∧ (type_of% ty5) ∧ (type_of% in5) ∧ (type_of% ty21) ∧ (type_of% in21) ∧ (type_of% ty22) ∧ (type_of% sl22) ∧ (type_of% ty24) ∧ (type_of% pt24) ∧ (type_of% ty25) ∧ (type_of% sl25) ∧ (type_of% ty27) ∧ (type_of% st27) ∧ (type_of% ty30) ∧ (type_of% in30) ∧ (type_of% ty34) ∧ (type_of% st34) ∧ (type_of% ty45) ∧ (type_of% st45) ∧ (type_of% ty56) ∧ (type_of% st56) ∧ (type_of% ty57) ∧ (type_of% sl57) ∧ (type_of% ty59) ∧ (type_of% st59) ∧ (type_of% ty63) ∧ (type_of% ty64) :=
  ⟨ty3, in3, ty4, bo4, ty5, in5, ty21, in21, ty22, sl22, ty24, pt24, ty25, sl25, ty27, st27, ty30, in30, ty34, st34, ty45, st45, ty56, st56, ty57, sl57, ty59, st59, ty63, ty64⟩
end Go.Al
