/- The types that this program uses, told. Conditions: none. -/
import Derived.Test.YtkoimgeckkodhaaProg
import Derived.Test.YtkoimgeckkodhaaAm
import Derived.KernelRfl
namespace Go.Al
open Go.Proofs
theorem mixed : Try.prog.follows .mixedOrders = true := by kernel_rfl
theorem ty3 : tyOf Try.prog 3 = some ⟨1, 8, false, some [.int .i64 0]⟩ := by kernel_rfl
theorem in3 : inOf Try.prog 3 = some .i64 := by kernel_rfl
theorem ty4 : tyOf Try.prog 4 = some ⟨1, 1, false, some [.bool false]⟩ := by kernel_rfl
theorem bo4 : isBool Try.prog 4 = true := by kernel_rfl
theorem ty5 : tyOf Try.prog 5 = some ⟨1, 1, false, some [.int .u8 0]⟩ := by kernel_rfl
theorem in5 : inOf Try.prog 5 = some .u8 := by kernel_rfl
theorem ty9 : tyOf Try.prog 9 = some ⟨1, 16, false, some [.string ⟨#[]⟩]⟩ := by kernel_rfl
theorem ty22 : tyOf Try.prog 22 = some ⟨1, 24, false, some [.slice none 0 0]⟩ := by kernel_rfl
theorem sl22 : slOf Try.prog 22 = some 65 := by kernel_rfl
theorem ty23 : tyOf Try.prog 23 = some ⟨1, 24, false, some [.slice none 0 0]⟩ := by kernel_rfl
theorem sl23 : slOf Try.prog 23 = some 61 := by kernel_rfl
theorem ty26 : tyOf Try.prog 26 = some ⟨1, 24, false, some [.slice none 0 0]⟩ := by kernel_rfl
theorem sl26 : slOf Try.prog 26 = some 56 := by kernel_rfl
theorem ty34 : tyOf Try.prog 34 = some ⟨1, 24, false, some [.slice none 0 0]⟩ := by kernel_rfl
theorem sl34 : slOf Try.prog 34 = some 54 := by kernel_rfl
theorem ty36 : tyOf Try.prog 36 = some ⟨2, 32, true, some [.int .i64 0, .slice none 0 0]⟩ := by kernel_rfl
theorem st36 : stOf Try.prog 36 = some [(3, 0), (34, 1)] := by kernel_rfl
theorem ty38 : tyOf Try.prog 38 = some ⟨4, 80, true, some [.int .i64 0, .slice none 0 0, .slice none 0 0, .slice none 0 0]⟩ := by kernel_rfl
theorem st38 : stOf Try.prog 38 = some [(3, 0), (34, 1), (34, 2), (34, 3)] := by kernel_rfl
theorem ty39 : tyOf Try.prog 39 = some ⟨1, 24, false, some [.slice none 0 0]⟩ := by kernel_rfl
theorem sl39 : slOf Try.prog 39 = some 135 := by kernel_rfl
theorem ty41 : tyOf Try.prog 41 = some ⟨4, 80, true, some [.int .i64 0, .slice none 0 0, .slice none 0 0, .slice none 0 0]⟩ := by kernel_rfl
theorem st41 : stOf Try.prog 41 = some [(3, 0), (39, 1), (39, 2), (34, 3)] := by kernel_rfl
theorem ty43 : tyOf Try.prog 43 = some ⟨6, 112, true, some [.int .i64 0, .int .i64 0, .slice none 0 0, .slice none 0 0, .slice none 0 0, .slice none 0 0]⟩ := by kernel_rfl
theorem st43 : stOf Try.prog 43 = some [(3, 0), (3, 1), (34, 2), (34, 3), (34, 4), (34, 5)] := by kernel_rfl
theorem ty44 : tyOf Try.prog 44 = some ⟨1, 24, false, some [.slice none 0 0]⟩ := by kernel_rfl
theorem sl44 : slOf Try.prog 44 = some 119 := by kernel_rfl
theorem ty46 : tyOf Try.prog 46 = some ⟨3, 56, true, some [.int .i64 0, .slice none 0 0, .slice none 0 0]⟩ := by kernel_rfl
theorem st46 : stOf Try.prog 46 = some [(3, 0), (44, 1), (34, 2)] := by kernel_rfl
theorem ty48 : tyOf Try.prog 48 = some ⟨3, 24, true, some [.int .i64 0, .int .i64 0, .int .i64 0]⟩ := by kernel_rfl
theorem st48 : stOf Try.prog 48 = some [(3, 0), (3, 1), (3, 2)] := by kernel_rfl
theorem ty50 : tyOf Try.prog 50 = some ⟨24, 416, true, some [.int .i64 0, .int .i64 0, .slice none 0 0, .int .i64 0, .slice none 0 0, .slice none 0 0, .slice none 0 0, .int .i64 0, .slice none 0 0, .slice none 0 0, .slice none 0 0, .int .i64 0, .int .i64 0, .slice none 0 0, .slice none 0 0, .slice none 0 0, .slice none 0 0, .int .i64 0, .slice none 0 0, .slice none 0 0, .slice none 0 0, .int .i64 0, .int .i64 0, .int .i64 0]⟩ := by kernel_rfl
theorem st50 : stOf Try.prog 50 = some [(3, 0), (36, 1), (38, 3), (41, 7), (43, 11), (46, 17), (26, 20), (48, 21)] := by kernel_rfl
theorem ty54 : tyOf Try.prog 54 = some ⟨1, 8, false, some [.int .u64 0]⟩ := by kernel_rfl
theorem in54 : inOf Try.prog 54 = some .u64 := by kernel_rfl
theorem ty56 : tyOf Try.prog 56 = some ⟨2, 16, true, some [.int .u64 0, .int .u64 0]⟩ := by kernel_rfl
theorem st56 : stOf Try.prog 56 = some [(54, 0), (54, 1)] := by kernel_rfl
theorem ty58 : tyOf Try.prog 58 = some ⟨2, 2, true, some [.int .u8 0, .int .u8 0]⟩ := by kernel_rfl
theorem sl58 : slOf Try.prog 58 = none := by kernel_rfl
theorem ar58 : arOf Try.prog 58 = some (2, 5) := by kernel_rfl
theorem ty59 : tyOf Try.prog 59 = some ⟨1, 8, false, some [.int .i64 0]⟩ := by kernel_rfl
theorem in59 : inOf Try.prog 59 = some .i64 := by kernel_rfl
theorem ty61 : tyOf Try.prog 61 = some ⟨5, 56, true, some [.bool false, .int .u64 0, .int .i64 0, .slice none 0 0, .int .i64 0]⟩ := by kernel_rfl
theorem st61 : stOf Try.prog 61 = some [(4, 0), (54, 1), (3, 2), (26, 3), (59, 4)] := by kernel_rfl
theorem ty65 : tyOf Try.prog 65 = some ⟨4, 32, true, some [.int .i64 0, .int .u64 0, .int .u64 0, .int .i64 0]⟩ := by kernel_rfl
theorem st65 : stOf Try.prog 65 = some [(3, 0), (54, 1), (54, 2), (3, 3)] := by kernel_rfl
theorem ty90 : tyOf Try.prog 90 = some ⟨1, 8, false, some [.nilFunc]⟩ := by kernel_rfl
theorem ty115 : tyOf Try.prog 115 = some ⟨1, 8, false, some [.map none]⟩ := by kernel_rfl
theorem map115 : mapOf Try.prog 115 = some (54, 4) := by kernel_rfl
theorem ty119 : tyOf Try.prog 119 = some ⟨2, 16, true, some [.int .u64 0, .int .i64 0]⟩ := by kernel_rfl
theorem st119 : stOf Try.prog 119 = some [(54, 0), (3, 1)] := by kernel_rfl
theorem ty135 : tyOf Try.prog 135 = some ⟨2, 16, true, some [.int .u64 0, .int .i64 0]⟩ := by kernel_rfl
theorem st135 : stOf Try.prog 135 = some [(54, 0), (3, 1)] := by kernel_rfl
theorem tys : (type_of% ty3) ∧ (type_of% in3) ∧ (type_of% ty4) ∧ (type_of% bo4) ∧ (type_of% ty5) ∧ (type_of% in5) ∧ (type_of% ty9) ∧ (type_of% ty22) ∧ (type_of% sl22) ∧ (type_of% ty23) ∧ (type_of% sl23) ∧ (type_of% ty26) ∧ (type_of% sl26) ∧ (type_of% ty34) ∧ (type_of% sl34) ∧ (type_of% ty36) ∧ (type_of% st36) ∧ (type_of% ty38) ∧ (type_of% st38) ∧ (type_of% ty39) ∧ (type_of% sl39) ∧ (type_of% ty41) ∧ (type_of% st41) ∧ (type_of% ty43) ∧ (type_of% st43) ∧ (type_of% ty44) ∧ (type_of% sl44) ∧ (type_of% ty46) ∧ (type_of% st46) ∧ (type_of% ty48) ∧ (type_of% st48) ∧ (type_of% ty50) ∧ (type_of% st50) ∧ (type_of% ty54) ∧ (type_of% in54) ∧ (type_of% ty56) ∧ (type_of% st56) ∧ (type_of% ty58) ∧ (type_of% sl58) ∧ (type_of% ar58) ∧ (type_of% ty59) ∧ (type_of% in59) ∧ (type_of% ty61) ∧ (type_of% st61) ∧ (type_of% ty65) ∧ (type_of% st65) ∧ (type_of% ty90) ∧ (type_of% ty115) ∧ (type_of% map115) ∧ (type_of% ty119) ∧ (type_of% st119) ∧ (type_of% ty135) ∧ (type_of% st135) :=
  ⟨ty3, in3, ty4, bo4, ty5, in5, ty9, ty22, sl22, ty23, sl23, ty26, sl26, ty34, sl34, ty36, st36, ty38, st38, ty39, sl39, ty41, st41, ty43, st43, ty44, sl44, ty46, st46, ty48, st48, ty50, st50, ty54, in54, ty56, st56, ty58, sl58, ar58, ty59, in59, ty61, st61, ty65, st65, ty90, ty115, map115, ty119, st119, ty135, st135⟩
end Go.Al
