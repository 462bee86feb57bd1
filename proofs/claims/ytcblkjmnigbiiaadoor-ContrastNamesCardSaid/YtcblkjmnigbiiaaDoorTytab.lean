/-
  The types of the translation, as a table, and that the program has them so. Conditions: none.
-/
import Derived.Test.YtcblkjmnigbiiaaDoorProg
import Derived.KernelRfl
import Derived.Test.YtcblkjmnigbiiaaDoorVO
set_option maxRecDepth 100000
namespace Go.Proofs.YtcblkjmnigbiiaaDoor
open Go.Vw
def T : TypeId → Option TyD
  | 2 => some ⟨.int .i64, 1, 8, .int .i64 0⟩
  | 3 => some ⟨.int .i64, 1, 8, .int .i64 0⟩
  | 4 => some ⟨.bool, 1, 1, .bool false⟩
  | 5 => some ⟨.int .u8, 1, 1, .int .u8 0⟩
  | 6 => some ⟨.int .u8, 1, 1, .int .u8 0⟩
  | 9 => some ⟨.string, 1, 16, .string .empty⟩
  | 10 => some ⟨.string, 1, 16, .string .empty⟩
  | 11 => some ⟨.string, 1, 16, .string .empty⟩
  | 12 => some ⟨.int .u64, 1, 8, .int .u64 0⟩
  | 15 => some ⟨.pointer 117, 1, 8, .pointer none⟩
  | 16 => some ⟨.pointer 120, 1, 8, .pointer none⟩
  | 17 => some ⟨.pointer 129, 1, 8, .pointer none⟩
  | 21 => some ⟨.int .i32, 1, 4, .int .i32 0⟩
  | 22 => some ⟨.slice 33, 1, 24, .slice none 0 0⟩
  | 23 => some ⟨.int .i64, 1, 8, .int .i64 0⟩
  | 29 => some ⟨.slice 9, 1, 24, .slice none 0 0⟩
  | 33 => some ⟨.slice 44, 1, 24, .slice none 0 0⟩
  | 40 => some ⟨.slice 75, 1, 24, .slice none 0 0⟩
  | 41 => some ⟨.struct #[⟨ "Neg", 4, 0, false, "", "", 0⟩, ⟨ "Mag", 40, 1, false, "", "", 8⟩], 2, 32, .agg #[.bool false, .slice none 0 0]⟩
  | 42 => some ⟨.struct #[⟨ "Neg", 4, 0, false, "", "", 0⟩, ⟨ "Mag", 40, 1, false, "", "", 8⟩], 2, 32, .agg #[.bool false, .slice none 0 0]⟩
  | 43 => some ⟨.struct #[⟨ "Num", 42, 0, false, "", "", 0⟩, ⟨ "Den", 40, 2, false, "", "", 32⟩], 3, 56, .agg #[.bool false, .slice none 0 0, .slice none 0 0]⟩
  | 44 => some ⟨.struct #[⟨ "Num", 42, 0, false, "", "", 0⟩, ⟨ "Den", 40, 2, false, "", "", 32⟩], 3, 56, .agg #[.bool false, .slice none 0 0, .slice none 0 0]⟩
  | 52 => some ⟨.map 3 51, 1, 8, .map none⟩
  | 59 => some ⟨.int .u64, 1, 8, .int .u64 0⟩
  | 60 => some ⟨.slice 3, 1, 24, .slice none 0 0⟩
  | 75 => some ⟨.int .u32, 1, 4, .int .u32 0⟩
  | 77 => some ⟨.slice 5, 1, 24, .slice none 0 0⟩
  | 78 => some ⟨.int .u64, 1, 8, .int .u64 0⟩
  | 101 => some ⟨.array 24 5, 24, 24, .agg #[.int .u8 0, .int .u8 0, .int .u8 0, .int .u8 0, .int .u8 0, .int .u8 0, .int .u8 0, .int .u8 0, .int .u8 0, .int .u8 0, .int .u8 0, .int .u8 0, .int .u8 0, .int .u8 0, .int .u8 0, .int .u8 0, .int .u8 0, .int .u8 0, .int .u8 0, .int .u8 0, .int .u8 0, .int .u8 0, .int .u8 0, .int .u8 0]⟩
  | 108 => some ⟨.array 20 59, 20, 160, .agg #[.int .u64 0, .int .u64 0, .int .u64 0, .int .u64 0, .int .u64 0, .int .u64 0, .int .u64 0, .int .u64 0, .int .u64 0, .int .u64 0, .int .u64 0, .int .u64 0, .int .u64 0, .int .u64 0, .int .u64 0, .int .u64 0, .int .u64 0, .int .u64 0, .int .u64 0, .int .u64 0]⟩
  | 109 => some ⟨.array 65 5, 65, 65, .agg #[.int .u8 0, .int .u8 0, .int .u8 0, .int .u8 0, .int .u8 0, .int .u8 0, .int .u8 0, .int .u8 0, .int .u8 0, .int .u8 0, .int .u8 0, .int .u8 0, .int .u8 0, .int .u8 0, .int .u8 0, .int .u8 0, .int .u8 0, .int .u8 0, .int .u8 0, .int .u8 0, .int .u8 0, .int .u8 0, .int .u8 0, .int .u8 0, .int .u8 0, .int .u8 0, .int .u8 0, .int .u8 0, .int .u8 0, .int .u8 0, .int .u8 0, .int .u8 0, .int .u8 0, .int .u8 0, .int .u8 0, .int .u8 0, .int .u8 0, .int .u8 0, .int .u8 0, .int .u8 0, .int .u8 0, .int .u8 0, .int .u8 0, .int .u8 0, .int .u8 0, .int .u8 0, .int .u8 0, .int .u8 0, .int .u8 0, .int .u8 0, .int .u8 0, .int .u8 0, .int .u8 0, .int .u8 0, .int .u8 0, .int .u8 0, .int .u8 0, .int .u8 0, .int .u8 0, .int .u8 0, .int .u8 0, .int .u8 0, .int .u8 0, .int .u8 0, .int .u8 0]⟩
  | 113 => some ⟨.array 32 5, 32, 32, .agg #[.int .u8 0, .int .u8 0, .int .u8 0, .int .u8 0, .int .u8 0, .int .u8 0, .int .u8 0, .int .u8 0, .int .u8 0, .int .u8 0, .int .u8 0, .int .u8 0, .int .u8 0, .int .u8 0, .int .u8 0, .int .u8 0, .int .u8 0, .int .u8 0, .int .u8 0, .int .u8 0, .int .u8 0, .int .u8 0, .int .u8 0, .int .u8 0, .int .u8 0, .int .u8 0, .int .u8 0, .int .u8 0, .int .u8 0, .int .u8 0, .int .u8 0, .int .u8 0]⟩
  | 114 => some ⟨.array 64 5, 64, 64, .agg #[.int .u8 0, .int .u8 0, .int .u8 0, .int .u8 0, .int .u8 0, .int .u8 0, .int .u8 0, .int .u8 0, .int .u8 0, .int .u8 0, .int .u8 0, .int .u8 0, .int .u8 0, .int .u8 0, .int .u8 0, .int .u8 0, .int .u8 0, .int .u8 0, .int .u8 0, .int .u8 0, .int .u8 0, .int .u8 0, .int .u8 0, .int .u8 0, .int .u8 0, .int .u8 0, .int .u8 0, .int .u8 0, .int .u8 0, .int .u8 0, .int .u8 0, .int .u8 0, .int .u8 0, .int .u8 0, .int .u8 0, .int .u8 0, .int .u8 0, .int .u8 0, .int .u8 0, .int .u8 0, .int .u8 0, .int .u8 0, .int .u8 0, .int .u8 0, .int .u8 0, .int .u8 0, .int .u8 0, .int .u8 0, .int .u8 0, .int .u8 0, .int .u8 0, .int .u8 0, .int .u8 0, .int .u8 0, .int .u8 0, .int .u8 0, .int .u8 0, .int .u8 0, .int .u8 0, .int .u8 0, .int .u8 0, .int .u8 0, .int .u8 0, .int .u8 0]⟩
  | 118 => some ⟨.array 0 16, 0, 0, .agg #[]⟩
  | 122 => some ⟨.int .u8, 1, 1, .int .u8 0⟩
  | 123 => some ⟨.int .u8, 1, 1, .int .u8 0⟩
  | 125 => some ⟨.pointer 5, 1, 8, .pointer none⟩
  | 126 => some ⟨.int .i32, 1, 4, .int .i32 0⟩
  | 127 => some ⟨.int .i32, 1, 4, .int .i32 0⟩
  | _ => none
theorem ty2 : tyOf Tryd.prog 2 = some ⟨.int .i64, 1, 8, .int .i64 0⟩ := by kernel_rfl
theorem ty3 : tyOf Tryd.prog 3 = some ⟨.int .i64, 1, 8, .int .i64 0⟩ := by kernel_rfl
theorem ty4 : tyOf Tryd.prog 4 = some ⟨.bool, 1, 1, .bool false⟩ := by kernel_rfl
theorem ty5 : tyOf Tryd.prog 5 = some ⟨.int .u8, 1, 1, .int .u8 0⟩ := by kernel_rfl
theorem ty6 : tyOf Tryd.prog 6 = some ⟨.int .u8, 1, 1, .int .u8 0⟩ := by kernel_rfl
theorem ty9 : tyOf Tryd.prog 9 = some ⟨.string, 1, 16, .string .empty⟩ := by kernel_rfl
theorem ty10 : tyOf Tryd.prog 10 = some ⟨.string, 1, 16, .string .empty⟩ := by kernel_rfl
theorem ty11 : tyOf Tryd.prog 11 = some ⟨.string, 1, 16, .string .empty⟩ := by kernel_rfl
theorem ty12 : tyOf Tryd.prog 12 = some ⟨.int .u64, 1, 8, .int .u64 0⟩ := by kernel_rfl
theorem ty15 : tyOf Tryd.prog 15 = some ⟨.pointer 117, 1, 8, .pointer none⟩ := by kernel_rfl
theorem ty16 : tyOf Tryd.prog 16 = some ⟨.pointer 120, 1, 8, .pointer none⟩ := by kernel_rfl
theorem ty17 : tyOf Tryd.prog 17 = some ⟨.pointer 129, 1, 8, .pointer none⟩ := by kernel_rfl
theorem ty21 : tyOf Tryd.prog 21 = some ⟨.int .i32, 1, 4, .int .i32 0⟩ := by kernel_rfl
theorem ty22 : tyOf Tryd.prog 22 = some ⟨.slice 33, 1, 24, .slice none 0 0⟩ := by kernel_rfl
theorem ty23 : tyOf Tryd.prog 23 = some ⟨.int .i64, 1, 8, .int .i64 0⟩ := by kernel_rfl
theorem ty29 : tyOf Tryd.prog 29 = some ⟨.slice 9, 1, 24, .slice none 0 0⟩ := by kernel_rfl
theorem ty33 : tyOf Tryd.prog 33 = some ⟨.slice 44, 1, 24, .slice none 0 0⟩ := by kernel_rfl
theorem ty40 : tyOf Tryd.prog 40 = some ⟨.slice 75, 1, 24, .slice none 0 0⟩ := by kernel_rfl
theorem ty41 : tyOf Tryd.prog 41 = some ⟨.struct #[⟨ "Neg", 4, 0, false, "", "", 0⟩, ⟨ "Mag", 40, 1, false, "", "", 8⟩], 2, 32, .agg #[.bool false, .slice none 0 0]⟩ := by kernel_rfl
theorem ty42 : tyOf Tryd.prog 42 = some ⟨.struct #[⟨ "Neg", 4, 0, false, "", "", 0⟩, ⟨ "Mag", 40, 1, false, "", "", 8⟩], 2, 32, .agg #[.bool false, .slice none 0 0]⟩ := by kernel_rfl
theorem ty43 : tyOf Tryd.prog 43 = some ⟨.struct #[⟨ "Num", 42, 0, false, "", "", 0⟩, ⟨ "Den", 40, 2, false, "", "", 32⟩], 3, 56, .agg #[.bool false, .slice none 0 0, .slice none 0 0]⟩ := by kernel_rfl
theorem ty44 : tyOf Tryd.prog 44 = some ⟨.struct #[⟨ "Num", 42, 0, false, "", "", 0⟩, ⟨ "Den", 40, 2, false, "", "", 32⟩], 3, 56, .agg #[.bool false, .slice none 0 0, .slice none 0 0]⟩ := by kernel_rfl
theorem ty52 : tyOf Tryd.prog 52 = some ⟨.map 3 51, 1, 8, .map none⟩ := by kernel_rfl
theorem ty59 : tyOf Tryd.prog 59 = some ⟨.int .u64, 1, 8, .int .u64 0⟩ := by kernel_rfl
theorem ty60 : tyOf Tryd.prog 60 = some ⟨.slice 3, 1, 24, .slice none 0 0⟩ := by kernel_rfl
theorem ty75 : tyOf Tryd.prog 75 = some ⟨.int .u32, 1, 4, .int .u32 0⟩ := by kernel_rfl
theorem ty77 : tyOf Tryd.prog 77 = some ⟨.slice 5, 1, 24, .slice none 0 0⟩ := by kernel_rfl
theorem ty78 : tyOf Tryd.prog 78 = some ⟨.int .u64, 1, 8, .int .u64 0⟩ := by kernel_rfl
theorem ty101 : tyOf Tryd.prog 101 = some ⟨.array 24 5, 24, 24, .agg #[.int .u8 0, .int .u8 0, .int .u8 0, .int .u8 0, .int .u8 0, .int .u8 0, .int .u8 0, .int .u8 0, .int .u8 0, .int .u8 0, .int .u8 0, .int .u8 0, .int .u8 0, .int .u8 0, .int .u8 0, .int .u8 0, .int .u8 0, .int .u8 0, .int .u8 0, .int .u8 0, .int .u8 0, .int .u8 0, .int .u8 0, .int .u8 0]⟩ := by kernel_rfl
theorem ty108 : tyOf Tryd.prog 108 = some ⟨.array 20 59, 20, 160, .agg #[.int .u64 0, .int .u64 0, .int .u64 0, .int .u64 0, .int .u64 0, .int .u64 0, .int .u64 0, .int .u64 0, .int .u64 0, .int .u64 0, .int .u64 0, .int .u64 0, .int .u64 0, .int .u64 0, .int .u64 0, .int .u64 0, .int .u64 0, .int .u64 0, .int .u64 0, .int .u64 0]⟩ := by kernel_rfl
theorem ty109 : tyOf Tryd.prog 109 = some ⟨.array 65 5, 65, 65, .agg #[.int .u8 0, .int .u8 0, .int .u8 0, .int .u8 0, .int .u8 0, .int .u8 0, .int .u8 0, .int .u8 0, .int .u8 0, .int .u8 0, .int .u8 0, .int .u8 0, .int .u8 0, .int .u8 0, .int .u8 0, .int .u8 0, .int .u8 0, .int .u8 0, .int .u8 0, .int .u8 0, .int .u8 0, .int .u8 0, .int .u8 0, .int .u8 0, .int .u8 0, .int .u8 0, .int .u8 0, .int .u8 0, .int .u8 0, .int .u8 0, .int .u8 0, .int .u8 0, .int .u8 0, .int .u8 0, .int .u8 0, .int .u8 0, .int .u8 0, .int .u8 0, .int .u8 0, .int .u8 0, .int .u8 0, .int .u8 0, .int .u8 0, .int .u8 0, .int .u8 0, .int .u8 0, .int .u8 0, .int .u8 0, .int .u8 0, .int .u8 0, .int .u8 0, .int .u8 0, .int .u8 0, .int .u8 0, .int .u8 0, .int .u8 0, .int .u8 0, .int .u8 0, .int .u8 0, .int .u8 0, .int .u8 0, .int .u8 0, .int .u8 0, .int .u8 0, .int .u8 0]⟩ := by kernel_rfl
theorem ty113 : tyOf Tryd.prog 113 = some ⟨.array 32 5, 32, 32, .agg #[.int .u8 0, .int .u8 0, .int .u8 0, .int .u8 0, .int .u8 0, .int .u8 0, .int .u8 0, .int .u8 0, .int .u8 0, .int .u8 0, .int .u8 0, .int .u8 0, .int .u8 0, .int .u8 0, .int .u8 0, .int .u8 0, .int .u8 0, .int .u8 0, .int .u8 0, .int .u8 0, .int .u8 0, .int .u8 0, .int .u8 0, .int .u8 0, .int .u8 0, .int .u8 0, .int .u8 0, .int .u8 0, .int .u8 0, .int .u8 0, .int .u8 0, .int .u8 0]⟩ := by kernel_rfl
theorem ty114 : tyOf Tryd.prog 114 = some ⟨.array 64 5, 64, 64, .agg #[.int .u8 0, .int .u8 0, .int .u8 0, .int .u8 0, .int .u8 0, .int .u8 0, .int .u8 0, .int .u8 0, .int .u8 0, .int .u8 0, .int .u8 0, .int .u8 0, .int .u8 0, .int .u8 0, .int .u8 0, .int .u8 0, .int .u8 0, .int .u8 0, .int .u8 0, .int .u8 0, .int .u8 0, .int .u8 0, .int .u8 0, .int .u8 0, .int .u8 0, .int .u8 0, .int .u8 0, .int .u8 0, .int .u8 0, .int .u8 0, .int .u8 0, .int .u8 0, .int .u8 0, .int .u8 0, .int .u8 0, .int .u8 0, .int .u8 0, .int .u8 0, .int .u8 0, .int .u8 0, .int .u8 0, .int .u8 0, .int .u8 0, .int .u8 0, .int .u8 0, .int .u8 0, .int .u8 0, .int .u8 0, .int .u8 0, .int .u8 0, .int .u8 0, .int .u8 0, .int .u8 0, .int .u8 0, .int .u8 0, .int .u8 0, .int .u8 0, .int .u8 0, .int .u8 0, .int .u8 0, .int .u8 0, .int .u8 0, .int .u8 0, .int .u8 0]⟩ := by kernel_rfl
theorem ty118 : tyOf Tryd.prog 118 = some ⟨.array 0 16, 0, 0, .agg #[]⟩ := by kernel_rfl
theorem ty122 : tyOf Tryd.prog 122 = some ⟨.int .u8, 1, 1, .int .u8 0⟩ := by kernel_rfl
theorem ty123 : tyOf Tryd.prog 123 = some ⟨.int .u8, 1, 1, .int .u8 0⟩ := by kernel_rfl
theorem ty125 : tyOf Tryd.prog 125 = some ⟨.pointer 5, 1, 8, .pointer none⟩ := by kernel_rfl
theorem ty126 : tyOf Tryd.prog 126 = some ⟨.int .i32, 1, 4, .int .i32 0⟩ := by kernel_rfl
theorem ty127 : tyOf Tryd.prog 127 = some ⟨.int .i32, 1, 4, .int .i32 0⟩ := by kernel_rfl
theorem tab : TabOk Tryd.prog T := by
  intro t d h
  unfold T at h
  split at h
  · cases h; exact TyOk.of ty2
  · cases h; exact TyOk.of ty3
  · cases h; exact TyOk.of ty4
  · cases h; exact TyOk.of ty5
  · cases h; exact TyOk.of ty6
  · cases h; exact TyOk.of ty9
  · cases h; exact TyOk.of ty10
  · cases h; exact TyOk.of ty11
  · cases h; exact TyOk.of ty12
  · cases h; exact TyOk.of ty15
  · cases h; exact TyOk.of ty16
  · cases h; exact TyOk.of ty17
  · cases h; exact TyOk.of ty21
  · cases h; exact TyOk.of ty22
  · cases h; exact TyOk.of ty23
  · cases h; exact TyOk.of ty29
  · cases h; exact TyOk.of ty33
  · cases h; exact TyOk.of ty40
  · cases h; exact TyOk.of ty41
  · cases h; exact TyOk.of ty42
  · cases h; exact TyOk.of ty43
  · cases h; exact TyOk.of ty44
  · cases h; exact TyOk.of ty52
  · cases h; exact TyOk.of ty59
  · cases h; exact TyOk.of ty60
  · cases h; exact TyOk.of ty75
  · cases h; exact TyOk.of ty77
  · cases h; exact TyOk.of ty78
  · cases h; exact TyOk.of ty101
  · cases h; exact TyOk.of ty108
  · cases h; exact TyOk.of ty109
  · cases h; exact TyOk.of ty113
  · cases h; exact TyOk.of ty114
  · cases h; exact TyOk.of ty118
  · cases h; exact TyOk.of ty122
  · cases h; exact TyOk.of ty123
  · cases h; exact TyOk.of ty125
  · cases h; exact TyOk.of ty126
  · cases h; exact TyOk.of ty127
  · cases h
theorem mixed : Tryd.prog.follows .mixedOrders = true := by kernel_rfl
end Go.Proofs.YtcblkjmnigbiiaaDoor
