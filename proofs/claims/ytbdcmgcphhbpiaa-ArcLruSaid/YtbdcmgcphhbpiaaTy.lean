/- The types that this program uses, told. Conditions: none. -/
import Derived.Test.YtbdcmgcphhbpiaaProg
import Derived.Test.YtbdcmgcphhbpiaaAm
import Derived.KernelRfl
namespace Go.Al
open Go.Proofs
theorem mixed : Try.prog.follows .mixedOrders = true := by kernel_rfl
theorem ty3 : tyOf Try.prog 3 = some ⟨1, 8, false, some [.int .i64 0]⟩ := by kernel_rfl
theorem in3 : inOf Try.prog 3 = some .i64 := by kernel_rfl
theorem ty4 : tyOf Try.prog 4 = some ⟨1, 1, false, some [.bool false]⟩ := by kernel_rfl
theorem bo4 : isBool Try.prog 4 = true := by kernel_rfl
theorem ty5 : tyOf Try.prog 5 = some ⟨1, 1, false, some [.int .u8 0]⟩ := by kernel_rfl
theorem in5 : inOf Try.prog 5 = some .u8 := by kernel_rfl
theorem ty9 : tyOf Try.prog 9 = some ⟨1, 16, false, some [.string ⟨#[]⟩]⟩ := by kernel_rfl
theorem ty22 : tyOf Try.prog 22 = some ⟨1, 24, false, some [.slice none 0 0]⟩ := by kernel_rfl
theorem sl22 : slOf Try.prog 22 = some 34 := by kernel_rfl
theorem ty25 : tyOf Try.prog 25 = some ⟨1, 24, false, some [.slice none 0 0]⟩ := by kernel_rfl
theorem sl25 : slOf Try.prog 25 = some 22 := by kernel_rfl
theorem ty27 : tyOf Try.prog 27 = some ⟨6, 112, true, some [.int .i64 0, .int .i64 0, .slice none 0 0, .slice none 0 0, .slice none 0 0, .slice none 0 0]⟩ := by kernel_rfl
theorem st27 : stOf Try.prog 27 = some [(3, 0), (3, 1), (22, 2), (22, 3), (22, 4), (22, 5)] := by kernel_rfl
theorem ty30 : tyOf Try.prog 30 = some ⟨2, 32, true, some [.int .i64 0, .slice none 0 0]⟩ := by kernel_rfl
theorem st30 : stOf Try.prog 30 = some [(3, 0), (22, 1)] := by kernel_rfl
theorem ty34 : tyOf Try.prog 34 = some ⟨1, 8, false, some [.int .u64 0]⟩ := by kernel_rfl
theorem in34 : inOf Try.prog 34 = some .u64 := by kernel_rfl
theorem ty40 : tyOf Try.prog 40 = some ⟨1, 24, false, some [.slice none 0 0]⟩ := by kernel_rfl
theorem sl40 : slOf Try.prog 40 = some 46 := by kernel_rfl
theorem ty41 : tyOf Try.prog 41 = some ⟨6, 112, true, some [.int .i64 0, .int .i64 0, .slice none 0 0, .slice none 0 0, .slice none 0 0, .slice none 0 0]⟩ := by kernel_rfl
theorem st41 : stOf Try.prog 41 = some [(3, 0), (3, 1), (22, 2), (22, 3), (22, 4), (22, 5)] := by kernel_rfl
theorem ty44 : tyOf Try.prog 44 = some ⟨1, 2, false, some [.int .u16 0]⟩ := by kernel_rfl
theorem in44 : inOf Try.prog 44 = some .u16 := by kernel_rfl
theorem ty46 : tyOf Try.prog 46 = some ⟨3, 24, true, some [.int .u8 0, .int .u64 0, .int .u16 0]⟩ := by kernel_rfl
theorem st46 : stOf Try.prog 46 = some [(5, 0), (34, 1), (44, 2)] := by kernel_rfl
theorem ty79 : tyOf Try.prog 79 = some ⟨1, 8, false, some [.nilFunc]⟩ := by kernel_rfl
theorem ty90 : tyOf Try.prog 90 = some ⟨1, 8, false, some [.pointer none]⟩ := by kernel_rfl
theorem pt90 : isPtr Try.prog 90 = true := by kernel_rfl
theorem ty91 : tyOf Try.prog 91 = some ⟨1, 8, false, some [.nilFunc]⟩ := by kernel_rfl
theorem tys : (type_of% ty3) ∧ (type_of% in3) ∧ (type_of% ty4) ∧ (type_of% bo4) ∧ (type_of% ty5) ∧ (type_of% in5) ∧ (type_of% ty9) ∧ (type_of% ty22) ∧ (type_of% sl22) ∧ (type_of% ty25) ∧ (type_of% sl25) ∧ (type_of% ty27) ∧ (type_of% st27) ∧ (type_of% ty30) ∧ (type_of% st30) ∧ (type_of% ty34) ∧ (type_of% in34) ∧ (type_of% ty40) ∧ (type_of% sl40) ∧ (type_of% ty41) ∧ (type_of% st41) ∧ (type_of% ty44) ∧ (type_of% in44) ∧ (type_of% ty46) ∧ (type_of% st46) ∧ (type_of% ty79) ∧ (type_of% ty90) ∧ (type_of% pt90) ∧ (type_of% ty91) :=
  ⟨ty3, in3, ty4, bo4, ty5, in5, ty9, ty22, sl22, ty25, sl25, ty27, st27, ty30, st30, ty34, in34, ty40, sl40, ty41, st41, ty44, in44, ty46, st46, ty79, ty90, pt90, ty91⟩
end Go.Al
