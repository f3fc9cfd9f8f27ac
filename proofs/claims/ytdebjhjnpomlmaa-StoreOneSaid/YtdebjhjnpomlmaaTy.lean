/- The types that this program uses, told. Conditions: none. -/
import Derived.Test.YtdebjhjnpomlmaaProg
import Derived.Test.YtdebjhjnpomlmaaAm
import Derived.KernelRfl
namespace Go.Al
open Go.Proofs
theorem mixed : Try.prog.follows .mixedOrders = true := by kernel_rfl
theorem ty3 : tyOf Try.prog 3 = some ⟨1, 8, false, some [.int .i64 0]⟩ := by kernel_rfl
theorem in3 : inOf Try.prog 3 = some .i64 := by kernel_rfl
theorem ty4 : tyOf Try.prog 4 = some ⟨1, 1, false, some [.bool false]⟩ := by kernel_rfl
theorem bo4 : isBool Try.prog 4 = true := by kernel_rfl
theorem ty5 : tyOf Try.prog 5 = some ⟨1, 1, false, some [.int .u8 0]⟩ := by kernel_rfl
theorem in5 : inOf Try.prog 5 = some .u8 := by kernel_rfl
theorem ty21 : tyOf Try.prog 21 = some ⟨1, 4, false, some [.int .i32 0]⟩ := by kernel_rfl
theorem in21 : inOf Try.prog 21 = some .i32 := by kernel_rfl
theorem ty22 : tyOf Try.prog 22 = some ⟨1, 24, false, some [.slice none 0 0]⟩ := by kernel_rfl
theorem sl22 : slOf Try.prog 22 = some 38 := by kernel_rfl
theorem ty24 : tyOf Try.prog 24 = some ⟨1, 8, false, some [.pointer none]⟩ := by kernel_rfl
theorem pt24 : isPtr Try.prog 24 = true := by kernel_rfl
theorem ty26 : tyOf Try.prog 26 = some ⟨1, 24, false, some [.slice none 0 0]⟩ := by kernel_rfl
theorem sl26 : slOf Try.prog 26 = some 80 := by kernel_rfl
theorem ty27 : tyOf Try.prog 27 = some ⟨1, 24, false, some [.slice none 0 0]⟩ := by kernel_rfl
theorem sl27 : slOf Try.prog 27 = some 137 := by kernel_rfl
theorem ty29 : tyOf Try.prog 29 = some ⟨1, 24, true, some [.slice none 0 0]⟩ := by kernel_rfl
theorem st29 : stOf Try.prog 29 = some [(27, 0)] := by kernel_rfl
theorem ty31 : tyOf Try.prog 31 = some ⟨3, 56, true, some [.slice none 0 0, .int .i64 0, .slice none 0 0]⟩ := by kernel_rfl
theorem st31 : stOf Try.prog 31 = some [(26, 0), (3, 1), (29, 2)] := by kernel_rfl
theorem ty34 : tyOf Try.prog 34 = some ⟨1, 8, false, some [.int .u64 0]⟩ := by kernel_rfl
theorem in34 : inOf Try.prog 34 = some .u64 := by kernel_rfl
theorem ty36 : tyOf Try.prog 36 = some ⟨3, 24, true, some [.int .u64 0, .int .u64 0, .int .i64 0]⟩ := by kernel_rfl
theorem st36 : stOf Try.prog 36 = some [(34, 0), (34, 1), (3, 2)] := by kernel_rfl
theorem ty38 : tyOf Try.prog 38 = some ⟨5, 40, true, some [.int .u8 0, .int .i64 0, .int .u64 0, .int .u64 0, .int .i64 0]⟩ := by kernel_rfl
theorem st38 : stOf Try.prog 38 = some [(5, 0), (3, 1), (36, 2)] := by kernel_rfl
theorem ty51 : tyOf Try.prog 51 = some ⟨1, 8, false, some [.nilFunc]⟩ := by kernel_rfl
theorem ty54 : tyOf Try.prog 54 = some ⟨1, 24, false, some [.slice none 0 0]⟩ := by kernel_rfl
theorem sl54 : slOf Try.prog 54 = some 34 := by kernel_rfl
theorem ty64 : tyOf Try.prog 64 = some ⟨1, 8, false, some [.pointer none]⟩ := by kernel_rfl
theorem pt64 : isPtr Try.prog 64 = true := by kernel_rfl
theorem ty66 : tyOf Try.prog 66 = some ⟨1, 8, false, some [.pointer none]⟩ := by kernel_rfl
theorem pt66 : isPtr Try.prog 66 = true := by kernel_rfl
theorem ty68 : tyOf Try.prog 68 = some ⟨1, 8, false, some [.pointer none]⟩ := by kernel_rfl
theorem pt68 : isPtr Try.prog 68 = true := by kernel_rfl
theorem ty71 : tyOf Try.prog 71 = some ⟨4, 32, true, some [.pointer none, .pointer none, .pointer none, .int .i64 0]⟩ := by kernel_rfl
theorem st71 : stOf Try.prog 71 = some [(66, 0), (64, 1), (68, 2), (3, 3)] := by kernel_rfl
theorem ty80 : tyOf Try.prog 80 = some ⟨1, 24, false, some [.slice none 0 0]⟩ := by kernel_rfl
theorem sl80 : slOf Try.prog 80 = some 36 := by kernel_rfl
theorem ty82 : tyOf Try.prog 82 = some ⟨6, 40, true, some [.int .u64 0, .int .u64 0, .int .i64 0, .int .i64 0, .int .i32 0, .int .i32 0]⟩ := by kernel_rfl
theorem st82 : stOf Try.prog 82 = some [(34, 0), (34, 1), (3, 2), (3, 3), (21, 4), (21, 5)] := by kernel_rfl
theorem ty84 : tyOf Try.prog 84 = some ⟨1, 24, false, some [.slice none 0 0]⟩ := by kernel_rfl
theorem sl84 : slOf Try.prog 84 = some 21 := by kernel_rfl
theorem ty92 : tyOf Try.prog 92 = some ⟨1, 8, false, some [.nilFunc]⟩ := by kernel_rfl
theorem ty94 : tyOf Try.prog 94 = some ⟨1, 8, false, some [.nilFunc]⟩ := by kernel_rfl
theorem ty96 : tyOf Try.prog 96 = some ⟨1, 8, false, some [.pointer none]⟩ := by kernel_rfl
theorem pt96 : isPtr Try.prog 96 = true := by kernel_rfl
theorem ty97 : tyOf Try.prog 97 = some ⟨1, 8, false, some [.nilFunc]⟩ := by kernel_rfl
theorem ty98 : tyOf Try.prog 98 = some ⟨1, 24, false, some [.slice none 0 0]⟩ := by kernel_rfl
theorem sl98 : slOf Try.prog 98 = some 115 := by kernel_rfl
theorem ty100 : tyOf Try.prog 100 = some ⟨4, 64, true, some [.slice none 0 0, .slice none 0 0, .int .i64 0, .int .i64 0]⟩ := by kernel_rfl
theorem st100 : stOf Try.prog 100 = some [(98, 0), (84, 1), (3, 2), (3, 3)] := by kernel_rfl
theorem ty101 : tyOf Try.prog 101 = some ⟨1, 24, false, some [.slice none 0 0]⟩ := by kernel_rfl
theorem sl101 : slOf Try.prog 101 = some 122 := by kernel_rfl
theorem ty103 : tyOf Try.prog 103 = some ⟨2, 32, true, some [.pointer none, .slice none 0 0]⟩ := by kernel_rfl
theorem st103 : stOf Try.prog 103 = some [(64, 0), (101, 1)] := by kernel_rfl
theorem ty104 : tyOf Try.prog 104 = some ⟨1, 24, false, some [.slice none 0 0]⟩ := by kernel_rfl
theorem sl104 : slOf Try.prog 104 = some 130 := by kernel_rfl
theorem ty106 : tyOf Try.prog 106 = some ⟨2, 32, true, some [.slice none 0 0, .int .i64 0]⟩ := by kernel_rfl
theorem st106 : stOf Try.prog 106 = some [(104, 0), (3, 1)] := by kernel_rfl
theorem ty115 : tyOf Try.prog 115 = some ⟨7, 48, true, some [.int .u64 0, .int .u64 0, .int .i64 0, .int .i64 0, .int .i32 0, .int .i32 0, .bool false]⟩ := by kernel_rfl
theorem st115 : stOf Try.prog 115 = some [(82, 0), (4, 6)] := by kernel_rfl
theorem ty116 : tyOf Try.prog 116 = some ⟨1, 8, false, some [.nilFunc]⟩ := by kernel_rfl
theorem ty117 : tyOf Try.prog 117 = some ⟨1, 8, false, some [.nilFunc]⟩ := by kernel_rfl
theorem ty119 : tyOf Try.prog 119 = some ⟨1, 8, false, some [.pointer none]⟩ := by kernel_rfl
theorem pt119 : isPtr Try.prog 119 = true := by kernel_rfl
theorem ty122 : tyOf Try.prog 122 = some ⟨3, 16, true, some [.int .i32 0, .int .i32 0, .int .i64 0]⟩ := by kernel_rfl
theorem st122 : stOf Try.prog 122 = some [(21, 0), (21, 1), (3, 2)] := by kernel_rfl
theorem ty130 : tyOf Try.prog 130 = some ⟨3, 16, true, some [.int .u64 0, .int .i32 0, .bool false]⟩ := by kernel_rfl
theorem st130 : stOf Try.prog 130 = some [(34, 0), (21, 1), (4, 2)] := by kernel_rfl
theorem ty133 : tyOf Try.prog 133 = some ⟨1, 8, false, some [.nilFunc]⟩ := by kernel_rfl
theorem ty137 : tyOf Try.prog 137 = some ⟨3, 16, true, some [.int .u64 0, .int .i32 0, .bool false]⟩ := by kernel_rfl
theorem st137 : stOf Try.prog 137 = some [(34, 0), (21, 1), (4, 2)] := by kernel_rfl
theorem tys : (type_of% ty3) ∧ (type_of% in3) ∧ (type_of% ty4) ∧ (type_of% bo4) ∧ (type_of% ty5) ∧ (type_of% in5) ∧ (type_of% ty21) ∧ (type_of% in21) ∧ (type_of% ty22) ∧ (type_of% sl22) ∧ (type_of% ty24) ∧ (type_of% pt24) ∧ (type_of% ty26) ∧ (type_of% sl26) ∧ (type_of% ty27) ∧ (type_of% sl27) ∧ (type_of% ty29) ∧ (type_of% st29) ∧ (type_of% ty31) ∧ (type_of% st31) ∧ (type_of% ty34) ∧ (type_of% in34) ∧ (type_of% ty36) ∧ (type_of% st36) ∧ (type_of% ty38) ∧ (type_of% st38) ∧ (type_of% ty51) ∧ (type_of% ty54) ∧ (type_of% sl54) ∧ (type_of% ty64) ∧ (type_of% pt64) ∧ (type_of% ty66) ∧ (type_of% pt66) ∧ (type_of% ty68) ∧ (type_of% pt68) ∧ (type_of% ty71) ∧ (type_of% st71) ∧ (type_of% ty80) ∧ (type_of% sl80) ∧ (type_of% ty82) ∧ (type_of% st82) ∧ (type_of% ty84) ∧ (type_of% sl84) ∧ (type_of% ty92) ∧ (type_of% ty94) ∧ (type_of% ty96) ∧ (type_of% pt96) ∧ (type_of% ty97) ∧ (type_of% ty98) ∧ (type_of% sl98) ∧ (type_of% ty100) ∧ (type_of% st100) ∧ (type_of% ty101) ∧ (type_of% sl101) ∧ (type_of% ty103) ∧ (type_of% st103) ∧ (type_of% ty104) ∧ (type_of% sl104) ∧ (type_of% ty106) ∧ (type_of% st106) ∧ (type_of% ty115) ∧ (type_of% st115) ∧ (type_of% ty116) ∧ (type_of% ty117) ∧ (type_of% ty119) ∧ (type_of% pt119) ∧ (type_of% ty122) ∧ (type_of% st122) ∧ (type_of% ty130) ∧ (type_of% st130) ∧ (type_of% ty133) ∧ (type_of% ty137) ∧ (type_of% st137) :=
  ⟨ty3, in3, ty4, bo4, ty5, in5, ty21, in21, ty22, sl22, ty24, pt24, ty26, sl26, ty27, sl27, ty29, st29, ty31, st31, ty34, in34, ty36, st36, ty38, st38, ty51, ty54, sl54, ty64, pt64, ty66, pt66, ty68, pt68, ty71, st71, ty80, sl80, ty82, st82, ty84, sl84, ty92, ty94, ty96, pt96, ty97, ty98, sl98, ty100, st100, ty101, sl101, ty103, st103, ty104, sl104, ty106, st106, ty115, st115, ty116, ty117, ty119, pt119, ty122, st122, ty130, st130, ty133, ty137, st137⟩
end Go.Al
