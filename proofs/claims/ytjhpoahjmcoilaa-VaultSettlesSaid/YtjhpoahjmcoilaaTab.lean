import Derived.Test.YtjhpoahjmcoilaaProg
import Derived.Test.YtjhpoahjmcoilaaStp9
set_option linter.unusedSimpArgs false
namespace Go.Proofs.Ytjhpoahjmcoilaa
open Go.Stp
theorem _root_.Go.Proofs.Try.wide_mixed : Try.prog.follows .mixedOrders = true := by kernel_rfl
theorem T.conc35 : Concrete Try.prog 35 := fun v w => by simp [Instr.makeInterface, Try.runUnderlying35]
theorem T.elem22 : Elem Try.prog 22 1 24 := Elem.of (z := .slice none 0 0) (by kernel_rfl) rfl
theorem T.elem5 : Elem Try.prog 5 1 1 := Elem.of (z := .int .u8 0) (by kernel_rfl) rfl
theorem T.elem9 : Elem Try.prog 9 1 16 := Elem.of (z := .string ⟨#[]⟩) (by kernel_rfl) rfl
theorem T.field37_0 : FieldAt Try.prog 37 0 0 := fun w a => by simp [Instr.fieldAt, Instr.sureAddr, fieldPlace, Try.runUnderlying37, Try.sizeOf9]
theorem T.field37_1 : FieldAt Try.prog 37 1 1 := fun w a => by simp [Instr.fieldAt, Instr.sureAddr, fieldPlace, Try.runUnderlying37, Try.sizeOf3]
theorem T.field46_0 : FieldAt Try.prog 46 0 0 := fun w a => by simp [Instr.fieldAt, Instr.sureAddr, fieldPlace, Try.runUnderlying46, Try.sizeOf3]
theorem T.field46_1 : FieldAt Try.prog 46 1 1 := fun w a => by simp [Instr.fieldAt, Instr.sureAddr, fieldPlace, Try.runUnderlying46, Try.sizeOf9]
theorem T.field46_2 : FieldAt Try.prog 46 2 2 := fun w a => by simp [Instr.fieldAt, Instr.sureAddr, fieldPlace, Try.runUnderlying46, Try.sizeOf3]
theorem T.field46_3 : FieldAt Try.prog 46 3 3 := fun w a => by simp [Instr.fieldAt, Instr.sureAddr, fieldPlace, Try.runUnderlying46, Try.sizeOf3]
theorem T.field56_0 : FieldAt Try.prog 56 0 0 := fun w a => by simp [Instr.fieldAt, Instr.sureAddr, fieldPlace, Try.runUnderlying56, Try.sizeOf3]
theorem T.field56_1 : FieldAt Try.prog 56 1 1 := fun w a => by simp [Instr.fieldAt, Instr.sureAddr, fieldPlace, Try.runUnderlying56, Try.sizeOf4]
theorem T.field56_2 : FieldAt Try.prog 56 2 2 := fun w a => by simp [Instr.fieldAt, Instr.sureAddr, fieldPlace, Try.runUnderlying56, Try.sizeOf22]
theorem T.field56_3 : FieldAt Try.prog 56 3 3 := fun w a => by simp [Instr.fieldAt, Instr.sureAddr, fieldPlace, Try.runUnderlying56, Try.sizeOf22]
theorem T.field56_4 : FieldAt Try.prog 56 4 4 := fun w a => by simp [Instr.fieldAt, Instr.sureAddr, fieldPlace, Try.runUnderlying56, Try.sizeOf28]
theorem T.field66_0 : FieldAt Try.prog 66 0 0 := fun w a => by simp [Instr.fieldAt, Instr.sureAddr, fieldPlace, Try.runUnderlying66, Try.sizeOf24]
theorem T.field66_1 : FieldAt Try.prog 66 1 1 := fun w a => by simp [Instr.fieldAt, Instr.sureAddr, fieldPlace, Try.runUnderlying66, Try.sizeOf63]
theorem T.field66_2 : FieldAt Try.prog 66 2 2 := fun w a => by simp [Instr.fieldAt, Instr.sureAddr, fieldPlace, Try.runUnderlying66, Try.sizeOf3]
theorem T.meth35_Do_62 : Meth Try.prog 35 "Do" 62 := fun v w => by kernel_rfl
theorem T.meth35_Load_63 : Meth Try.prog 35 "Load" 63 := fun v w => by kernel_rfl
theorem T.meth35_Save_64 : Meth Try.prog 35 "Save" 64 := fun v w => by kernel_rfl
theorem T.places37 : Places Try.prog 37 [(0, 1), (1, 1)] := ⟨_, Try.underlying37, fun w => by simp [Try.sizeOf3, Try.sizeOf9]⟩
theorem T.places56 : Places Try.prog 56 [(0, 1), (1, 1), (2, 1), (3, 1), (4, 1)] := ⟨_, Try.underlying56, fun w => by simp [Try.sizeOf22, Try.sizeOf28, Try.sizeOf3, Try.sizeOf4]⟩
theorem T.places66 : Places Try.prog 66 [(0, 1), (1, 1), (2, 1)] := ⟨_, Try.underlying66, fun w => by simp [Try.sizeOf24, Try.sizeOf3, Try.sizeOf63]⟩
end Go.Proofs.Ytjhpoahjmcoilaa
