/- The types that this program uses, told. Conditions: none. -/
import Derived.Test.YtbmhdafmjekkiaaProg
import Derived.Test.YtbmhdafmjekkiaaAm
import Derived.KernelRfl
namespace Go.Al
open Go.Proofs
theorem mixed : Try.prog.follows .mixedOrders = true := by kernel_rfl
theorem ty3 : tyOf Try.prog 3 = some ⟨1, 8, false, some [.int .i64 0]⟩ := by kernel_rfl
theorem in3 : inOf Try.prog 3 = some .i64 := by kernel_rfl
theorem ty4 : tyOf Try.prog 4 = some ⟨1, 1, false, some [.bool false]⟩ := by kernel_rfl
theorem bo4 : isBool Try.prog 4 = true := by kernel_rfl
theorem ty5 : tyOf Try.prog 5 = some ⟨1, 1, false, some [.int .u8 0]⟩ := by kernel_rfl
theorem in5 : inOf Try.prog 5 = some .u8 := by kernel_rfl
theorem ty21 : tyOf Try.prog 21 = some ⟨1, 4, false, some [.int .i32 0]⟩ := by kernel_rfl
theorem in21 : inOf Try.prog 21 = some .i32 := by kernel_rfl
theorem ty22 : tyOf Try.prog 22 = some ⟨1, 24, false, some [.slice none 0 0]⟩ := by kernel_rfl
theorem sl22 : slOf Try.prog 22 = some 37 := by kernel_rfl
theorem ty24 : tyOf Try.prog 24 = some ⟨1, 8, false, some [.pointer none]⟩ := by kernel_rfl
theorem pt24 : isPtr Try.prog 24 = true := by kernel_rfl
theorem ty25 : tyOf Try.prog 25 = some ⟨1, 8, false, some [.pointer none]⟩ := by kernel_rfl
theorem pt25 : isPtr Try.prog 25 = true := by kernel_rfl
theorem ty26 : tyOf Try.prog 26 = some ⟨1, 24, false, some [.slice none 0 0]⟩ := by kernel_rfl
theorem sl26 : slOf Try.prog 26 = some 21 := by kernel_rfl
theorem ty27 : tyOf Try.prog 27 = some ⟨1, 24, false, some [.slice none 0 0]⟩ := by kernel_rfl
theorem sl27 : slOf Try.prog 27 = some 64 := by kernel_rfl
theorem ty29 : tyOf Try.prog 29 = some ⟨4, 64, true, some [.int .i64 0, .int .i64 0, .slice none 0 0, .slice none 0 0]⟩ := by kernel_rfl
theorem st29 : stOf Try.prog 29 = some [(3, 0), (3, 1), (26, 2), (27, 3)] := by kernel_rfl
theorem ty30 : tyOf Try.prog 30 = some ⟨1, 24, false, some [.slice none 0 0]⟩ := by kernel_rfl
theorem sl30 : slOf Try.prog 30 = some 26 := by kernel_rfl
theorem ty32 : tyOf Try.prog 32 = some ⟨5, 88, true, some [.int .i64 0, .int .i64 0, .slice none 0 0, .slice none 0 0, .slice none 0 0]⟩ := by kernel_rfl
theorem st32 : stOf Try.prog 32 = some [(29, 0), (30, 4)] := by kernel_rfl
theorem ty37 : tyOf Try.prog 37 = some ⟨3, 24, true, some [.int .u8 0, .int .i64 0, .int .i32 0]⟩ := by kernel_rfl
theorem st37 : stOf Try.prog 37 = some [(5, 0), (3, 1), (21, 2)] := by kernel_rfl
theorem ty39 : tyOf Try.prog 39 = some ⟨1, 8, false, some [.int .u64 0]⟩ := by kernel_rfl
theorem in39 : inOf Try.prog 39 = some .u64 := by kernel_rfl
theorem ty41 : tyOf Try.prog 41 = some ⟨6, 40, true, some [.int .u64 0, .int .u64 0, .int .i64 0, .int .i64 0, .int .i32 0, .int .i32 0]⟩ := by kernel_rfl
theorem st41 : stOf Try.prog 41 = some [(39, 0), (39, 1), (3, 2), (3, 3), (21, 4), (21, 5)] := by kernel_rfl
theorem ty54 : tyOf Try.prog 54 = some ⟨1, 8, false, some [.nilFunc]⟩ := by kernel_rfl
theorem ty64 : tyOf Try.prog 64 = some ⟨6, 40, true, some [.int .u64 0, .int .u64 0, .int .i64 0, .int .i64 0, .int .i32 0, .int .i32 0]⟩ := by kernel_rfl
theorem st64 : stOf Try.prog 64 = some [(39, 0), (39, 1), (3, 2), (3, 3), (21, 4), (21, 5)] := by kernel_rfl
theorem ty66 : tyOf Try.prog 66 = some ⟨1, 8, false, some [.pointer none]⟩ := by kernel_rfl
theorem pt66 : isPtr Try.prog 66 = true := by kernel_rfl
theorem ty69 : tyOf Try.prog 69 = some ⟨3, 16, true, some [.int .i32 0, .int .i32 0, .int .i64 0]⟩ := by kernel_rfl
theorem st69 : stOf Try.prog 69 = some [(21, 0), (21, 1), (3, 2)] := by kernel_rfl
theorem ty71 : tyOf Try.prog 71 = some ⟨7, 48, true, some [.int .u64 0, .int .u64 0, .int .i64 0, .int .i64 0, .int .i32 0, .int .i32 0, .bool false]⟩ := by kernel_rfl
theorem st71 : stOf Try.prog 71 = some [(41, 0), (4, 6)] := by kernel_rfl
theorem ty72 : tyOf Try.prog 72 = some ⟨1, 24, false, some [.slice none 0 0]⟩ := by kernel_rfl
theorem sl72 : slOf Try.prog 72 = some 71 := by kernel_rfl
theorem ty74 : tyOf Try.prog 74 = some ⟨4, 64, true, some [.slice none 0 0, .slice none 0 0, .int .i64 0, .int .i64 0]⟩ := by kernel_rfl
theorem st74 : stOf Try.prog 74 = some [(72, 0), (26, 1), (3, 2), (3, 3)] := by kernel_rfl
theorem ty75 : tyOf Try.prog 75 = some ⟨1, 24, false, some [.slice none 0 0]⟩ := by kernel_rfl
theorem sl75 : slOf Try.prog 75 = some 69 := by kernel_rfl
theorem ty77 : tyOf Try.prog 77 = some ⟨2, 32, true, some [.pointer none, .slice none 0 0]⟩ := by kernel_rfl
theorem st77 : stOf Try.prog 77 = some [(24, 0), (75, 1)] := by kernel_rfl
theorem ty78 : tyOf Try.prog 78 = some ⟨1, 8, false, some [.nilFunc]⟩ := by kernel_rfl
theorem ty79 : tyOf Try.prog 79 = some ⟨1, 8, false, some [.nilFunc]⟩ := by kernel_rfl
theorem ty84 : tyOf Try.prog 84 = some ⟨1, 8, false, some [.pointer none]⟩ := by kernel_rfl
theorem pt84 : isPtr Try.prog 84 = true := by kernel_rfl
theorem ty85 : tyOf Try.prog 85 = some ⟨1, 8, false, some [.nilFunc]⟩ := by kernel_rfl
theorem tys : (type_of% ty3) ∧ (type_of% in3) ∧ (type_of% ty4) ∧ (type_of% bo4) ∧ (type_of% ty5) ∧ (type_of% in5) ∧ (type_of% ty21) ∧ (type_of% in21) ∧ (type_of% ty22) ∧ (type_of% sl22) ∧ (type_of% ty24) ∧ (type_of% pt24) ∧ (type_of% ty25) ∧ (type_of% pt25) ∧ (type_of% ty26) ∧ (type_of% sl26) ∧ (type_of% ty27) ∧ (type_of% sl27) ∧ (type_of% ty29) ∧ (type_of% st29) ∧ (type_of% ty30) ∧ (type_of% sl30) ∧ (type_of% ty32) ∧ (type_of% st32) ∧ (type_of% ty37) ∧ (type_of% st37) ∧ (type_of% ty39) ∧ (type_of% in39) ∧ (type_of% ty41) ∧ (type_of% st41) ∧ (type_of% ty54) ∧ (type_of% ty64) ∧ (type_of% st64) ∧ (type_of% ty66) ∧ (type_of% pt66) ∧ (type_of% ty69) ∧ (type_of% st69) ∧ (type_of% ty71) ∧ (type_of% st71) ∧ (type_of% ty72) ∧ (type_of% sl72) ∧ (type_of% ty74) ∧ (type_of% st74) ∧ (type_of% ty75) ∧ (type_of% sl75) ∧ (type_of% ty77) ∧ (type_of% st77) ∧ (type_of% ty78) ∧ (type_of% ty79) ∧ (type_of% ty84) ∧ (type_of% pt84) ∧ (type_of% ty85) :=
  ⟨ty3, in3, ty4, bo4, ty5, in5, ty21, in21, ty22, sl22, ty24, pt24, ty25, pt25, ty26, sl26, ty27, sl27, ty29, st29, ty30, sl30, ty32, st32, ty37, st37, ty39, in39, ty41, st41, ty54, ty64, st64, ty66, pt66, ty69, st69, ty71, st71, ty72, sl72, ty74, st74, ty75, sl75, ty77, st77, ty78, ty79, ty84, pt84, ty85⟩
end Go.Al
