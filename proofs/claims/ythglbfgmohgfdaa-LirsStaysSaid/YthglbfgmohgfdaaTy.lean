/- The types that this program uses, told. Conditions: none. -/
import Derived.Test.YthglbfgmohgfdaaProg
import Derived.Test.YthglbfgmohgfdaaAm
import Derived.KernelRfl
namespace Go.Al
open Go.Proofs
theorem mixed : Try.prog.follows .mixedOrders = true := by kernel_rfl
theorem ty3 : tyOf Try.prog 3 = some ⟨1, 8, false, some [.int .i64 0]⟩ := by kernel_rfl
theorem in3 : inOf Try.prog 3 = some .i64 := by kernel_rfl
theorem ty4 : tyOf Try.prog 4 = some ⟨1, 1, false, some [.bool false]⟩ := by kernel_rfl
theorem bo4 : isBool Try.prog 4 = true := by kernel_rfl
theorem ty5 : tyOf Try.prog 5 = some ⟨1, 1, false, some [.int .u8 0]⟩ := by kernel_rfl
theorem in5 : inOf Try.prog 5 = some .u8 := by kernel_rfl
theorem ty22 : tyOf Try.prog 22 = some ⟨1, 24, false, some [.slice none 0 0]⟩ := by kernel_rfl
theorem sl22 : slOf Try.prog 22 = some 38 := by kernel_rfl
theorem ty24 : tyOf Try.prog 24 = some ⟨1, 24, false, some [.slice none 0 0]⟩ := by kernel_rfl
theorem sl24 : slOf Try.prog 24 = some 58 := by kernel_rfl
theorem ty25 : tyOf Try.prog 25 = some ⟨1, 24, false, some [.slice none 0 0]⟩ := by kernel_rfl
theorem sl25 : slOf Try.prog 25 = some 35 := by kernel_rfl
theorem ty27 : tyOf Try.prog 27 = some ⟨3, 56, true, some [.int .i64 0, .slice none 0 0, .slice none 0 0]⟩ := by kernel_rfl
theorem st27 : stOf Try.prog 27 = some [(3, 0), (24, 1), (25, 2)] := by kernel_rfl
theorem ty29 : tyOf Try.prog 29 = some ⟨1, 24, false, some [.slice none 0 0]⟩ := by kernel_rfl
theorem sl29 : slOf Try.prog 29 = some 66 := by kernel_rfl
theorem ty31 : tyOf Try.prog 31 = some ⟨3, 56, true, some [.int .i64 0, .slice none 0 0, .slice none 0 0]⟩ := by kernel_rfl
theorem st31 : stOf Try.prog 31 = some [(3, 0), (29, 1), (25, 2)] := by kernel_rfl
theorem ty35 : tyOf Try.prog 35 = some ⟨1, 8, false, some [.int .u64 0]⟩ := by kernel_rfl
theorem in35 : inOf Try.prog 35 = some .u64 := by kernel_rfl
theorem ty36 : tyOf Try.prog 36 = some ⟨1, 2, false, some [.int .u16 0]⟩ := by kernel_rfl
theorem in36 : inOf Try.prog 36 = some .u16 := by kernel_rfl
theorem ty38 : tyOf Try.prog 38 = some ⟨3, 24, true, some [.int .u8 0, .int .u64 0, .int .u16 0]⟩ := by kernel_rfl
theorem st38 : stOf Try.prog 38 = some [(5, 0), (35, 1), (36, 2)] := by kernel_rfl
theorem ty55 : tyOf Try.prog 55 = some ⟨1, 24, false, some [.slice none 0 0]⟩ := by kernel_rfl
theorem sl55 : slOf Try.prog 55 = some 25 := by kernel_rfl
theorem ty58 : tyOf Try.prog 58 = some ⟨2, 16, true, some [.int .u64 0, .int .i64 0]⟩ := by kernel_rfl
theorem st58 : stOf Try.prog 58 = some [(35, 0), (3, 1)] := by kernel_rfl
theorem ty66 : tyOf Try.prog 66 = some ⟨2, 16, true, some [.int .u64 0, .int .i64 0]⟩ := by kernel_rfl
theorem st66 : stOf Try.prog 66 = some [(35, 0), (3, 1)] := by kernel_rfl
theorem ty79 : tyOf Try.prog 79 = some ⟨1, 8, false, some [.nilFunc]⟩ := by kernel_rfl
theorem ty82 : tyOf Try.prog 82 = some ⟨1, 8, false, some [.nilFunc]⟩ := by kernel_rfl
theorem ty86 : tyOf Try.prog 86 = some ⟨1, 8, false, some [.nilFunc]⟩ := by kernel_rfl
theorem tys : (type_of% ty3) ∧ (type_of% in3) ∧ (type_of% ty4) ∧ (type_of% bo4) ∧ (type_of% ty5) ∧ (type_of% in5) ∧ (type_of% ty22) ∧ (type_of% sl22) ∧ (type_of% ty24) ∧ (type_of% sl24) ∧ (type_of% ty25) ∧ (type_of% sl25) ∧ (type_of% ty27) ∧ (type_of% st27) ∧ (type_of% ty29) ∧ (type_of% sl29) ∧ (type_of% ty31) ∧ (type_of% st31) ∧ (type_of% ty35) ∧ (type_of% in35) ∧ (type_of% ty36) ∧ (type_of% in36) ∧ (type_of% ty38) ∧ (type_of% st38) ∧ (type_of% ty55) ∧ (type_of% sl55) ∧ (type_of% ty58) ∧ (type_of% st58) ∧ (type_of% ty66) ∧ (type_of% st66) ∧ (type_of% ty79) ∧ (type_of% ty82) ∧ (type_of% ty86) :=
  ⟨ty3, in3, ty4, bo4, ty5, in5, ty22, sl22, ty24, sl24, ty25, sl25, ty27, st27, ty29, sl29, ty31, st31, ty35, in35, ty36, in36, ty38, st38, ty55, sl55, ty58, st58, ty66, st66, ty79, ty82, ty86⟩
end Go.Al
