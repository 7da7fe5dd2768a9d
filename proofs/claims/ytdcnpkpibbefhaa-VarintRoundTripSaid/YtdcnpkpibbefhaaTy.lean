/- What the logic asks of this program's types. -/
import Derived.Test.YtdcnpkpibbefhaaProg
import Derived.Test.YtdcnpkpibbefhaaLB
namespace Go.Proofs.Ytdcnpkpibbefhaa
theorem ty2 : tyi Try.prog 2 = some ⟨.int .i64, 1, 8, some [.int .i64 0]⟩ := by kernel_rfl
theorem ty3 : tyi Try.prog 3 = some ⟨.int .i64, 1, 8, some [.int .i64 0]⟩ := by kernel_rfl
theorem ty4 : tyi Try.prog 4 = some ⟨.bool, 1, 1, some [.bool false]⟩ := by kernel_rfl
theorem ty5 : tyi Try.prog 5 = some ⟨.int .u8, 1, 1, some [.int .u8 0]⟩ := by kernel_rfl
theorem ty6 : tyi Try.prog 6 = some ⟨.int .u8, 1, 1, some [.int .u8 0]⟩ := by kernel_rfl
theorem ty7 : tyi Try.prog 7 = some ⟨.struct [(0, 2), (1, 3), (2, 4), (3, 6)], 4, 24, some [.int .i64 0, .int .i64 0, .bool false, .int .u8 0]⟩ := by kernel_rfl
theorem ty8 : tyi Try.prog 8 = some ⟨.struct [(0, 2), (1, 3), (2, 4), (3, 6)], 4, 24, some [.int .i64 0, .int .i64 0, .bool false, .int .u8 0]⟩ := by kernel_rfl
theorem ty9 : tyi Try.prog 9 = some ⟨.string, 1, 16, some [.string ByteArray.empty]⟩ := by kernel_rfl
theorem ty10 : tyi Try.prog 10 = some ⟨.string, 1, 16, some [.string ByteArray.empty]⟩ := by kernel_rfl
theorem ty11 : tyi Try.prog 11 = some ⟨.string, 1, 16, some [.string ByteArray.empty]⟩ := by kernel_rfl
theorem ty12 : tyi Try.prog 12 = some ⟨.int .u64, 1, 8, some [.int .u64 0]⟩ := by kernel_rfl
theorem ty13 : tyi Try.prog 13 = some ⟨.struct [(0, 9), (1, 12)], 2, 24, some [.string ByteArray.empty, .int .u64 0]⟩ := by kernel_rfl
theorem ty14 : tyi Try.prog 14 = some ⟨.struct [(0, 9), (1, 12)], 2, 24, some [.string ByteArray.empty, .int .u64 0]⟩ := by kernel_rfl
theorem ty15 : tyi Try.prog 15 = some ⟨.ptr 63, 1, 8, some [.pointer none]⟩ := by kernel_rfl
theorem ty16 : tyi Try.prog 16 = some ⟨.ptr 66, 1, 8, some [.pointer none]⟩ := by kernel_rfl
theorem ty17 : tyi Try.prog 17 = some ⟨.ptr 75, 1, 8, some [.pointer none]⟩ := by kernel_rfl
theorem ty18 : tyi Try.prog 18 = some ⟨.struct [(0, 17)], 1, 8, some [.pointer none]⟩ := by kernel_rfl
theorem ty19 : tyi Try.prog 19 = some ⟨.struct [(0, 17)], 1, 8, some [.pointer none]⟩ := by kernel_rfl
theorem ty21 : tyi Try.prog 21 = some ⟨.int .i32, 1, 4, some [.int .i32 0]⟩ := by kernel_rfl
theorem ty22 : tyi Try.prog 22 = some ⟨.int .u32, 1, 4, some [.int .u32 0]⟩ := by kernel_rfl
theorem ty23 : tyi Try.prog 23 = some ⟨.slice 5, 1, 24, some [.slice none 0 0]⟩ := by kernel_rfl
theorem ty32 : tyi Try.prog 32 = some ⟨.int .u16, 1, 2, some [.int .u16 0]⟩ := by kernel_rfl
theorem ty35 : tyi Try.prog 35 = some ⟨.int .u64, 1, 8, some [.int .u64 0]⟩ := by kernel_rfl
theorem ty39 : tyi Try.prog 39 = some ⟨.int .i64, 1, 8, some [.int .i64 0]⟩ := by kernel_rfl
theorem ty51 : tyi Try.prog 51 = some ⟨.array 256 22, 256, 1024, some [.int .u32 0, .int .u32 0, .int .u32 0, .int .u32 0, .int .u32 0, .int .u32 0, .int .u32 0, .int .u32 0, .int .u32 0, .int .u32 0, .int .u32 0, .int .u32 0, .int .u32 0, .int .u32 0, .int .u32 0, .int .u32 0, .int .u32 0, .int .u32 0, .int .u32 0, .int .u32 0, .int .u32 0, .int .u32 0, .int .u32 0, .int .u32 0, .int .u32 0, .int .u32 0, .int .u32 0, .int .u32 0, .int .u32 0, .int .u32 0, .int .u32 0, .int .u32 0, .int .u32 0, .int .u32 0, .int .u32 0, .int .u32 0, .int .u32 0, .int .u32 0, .int .u32 0, .int .u32 0, .int .u32 0, .int .u32 0, .int .u32 0, .int .u32 0, .int .u32 0, .int .u32 0, .int .u32 0, .int .u32 0, .int .u32 0, .int .u32 0, .int .u32 0, .int .u32 0, .int .u32 0, .int .u32 0, .int .u32 0, .int .u32 0, .int .u32 0, .int .u32 0, .int .u32 0, .int .u32 0, .int .u32 0, .int .u32 0, .int .u32 0, .int .u32 0, .int .u32 0, .int .u32 0, .int .u32 0, .int .u32 0, .int .u32 0, .int .u32 0, .int .u32 0, .int .u32 0, .int .u32 0, .int .u32 0, .int .u32 0, .int .u32 0, .int .u32 0, .int .u32 0, .int .u32 0, .int .u32 0, .int .u32 0, .int .u32 0, .int .u32 0, .int .u32 0, .int .u32 0, .int .u32 0, .int .u32 0, .int .u32 0, .int .u32 0, .int .u32 0, .int .u32 0, .int .u32 0, .int .u32 0, .int .u32 0, .int .u32 0, .int .u32 0, .int .u32 0, .int .u32 0, .int .u32 0, .int .u32 0, .int .u32 0, .int .u32 0, .int .u32 0, .int .u32 0, .int .u32 0, .int .u32 0, .int .u32 0, .int .u32 0, .int .u32 0, .int .u32 0, .int .u32 0, .int .u32 0, .int .u32 0, .int .u32 0, .int .u32 0, .int .u32 0, .int .u32 0, .int .u32 0, .int .u32 0, .int .u32 0, .int .u32 0, .int .u32 0, .int .u32 0, .int .u32 0, .int .u32 0, .int .u32 0, .int .u32 0, .int .u32 0, .int .u32 0, .int .u32 0, .int .u32 0, .int .u32 0, .int .u32 0, .int .u32 0, .int .u32 0, .int .u32 0, .int .u32 0, .int .u32 0, .int .u32 0, .int .u32 0, .int .u32 0, .int .u32 0, .int .u32 0, .int .u32 0, .int .u32 0, .int .u32 0, .int .u32 0, .int .u32 0, .int .u32 0, .int .u32 0, .int .u32 0, .int .u32 0, .int .u32 0, .int .u32 0, .int .u32 0, .int .u32 0, .int .u32 0, .int .u32 0, .int .u32 0, .int .u32 0, .int .u32 0, .int .u32 0, .int .u32 0, .int .u32 0, .int .u32 0, .int .u32 0, .int .u32 0, .int .u32 0, .int .u32 0, .int .u32 0, .int .u32 0, .int .u32 0, .int .u32 0, .int .u32 0, .int .u32 0, .int .u32 0, .int .u32 0, .int .u32 0, .int .u32 0, .int .u32 0, .int .u32 0, .int .u32 0, .int .u32 0, .int .u32 0, .int .u32 0, .int .u32 0, .int .u32 0, .int .u32 0, .int .u32 0, .int .u32 0, .int .u32 0, .int .u32 0, .int .u32 0, .int .u32 0, .int .u32 0, .int .u32 0, .int .u32 0, .int .u32 0, .int .u32 0, .int .u32 0, .int .u32 0, .int .u32 0, .int .u32 0, .int .u32 0, .int .u32 0, .int .u32 0, .int .u32 0, .int .u32 0, .int .u32 0, .int .u32 0, .int .u32 0, .int .u32 0, .int .u32 0, .int .u32 0, .int .u32 0, .int .u32 0, .int .u32 0, .int .u32 0, .int .u32 0, .int .u32 0, .int .u32 0, .int .u32 0, .int .u32 0, .int .u32 0, .int .u32 0, .int .u32 0, .int .u32 0, .int .u32 0, .int .u32 0, .int .u32 0, .int .u32 0, .int .u32 0, .int .u32 0, .int .u32 0, .int .u32 0, .int .u32 0, .int .u32 0, .int .u32 0, .int .u32 0, .int .u32 0, .int .u32 0, .int .u32 0, .int .u32 0, .int .u32 0, .int .u32 0, .int .u32 0, .int .u32 0, .int .u32 0, .int .u32 0, .int .u32 0, .int .u32 0, .int .u32 0, .int .u32 0, .int .u32 0, .int .u32 0, .int .u32 0]⟩ := by kernel_rfl
theorem ty53 : tyi Try.prog 53 = some ⟨.int .u64, 1, 8, some [.int .u64 0]⟩ := by kernel_rfl
theorem ty58 : tyi Try.prog 58 = some ⟨.slice 23, 1, 24, some [.slice none 0 0]⟩ := by kernel_rfl
theorem ty62 : tyi Try.prog 62 = some ⟨.struct [(0, 17), (1, 17), (2, 17), (3, 9)], 4, 40, some [.pointer none, .pointer none, .pointer none, .string ByteArray.empty]⟩ := by kernel_rfl
theorem ty63 : tyi Try.prog 63 = some ⟨.struct [(0, 17), (1, 17), (2, 17), (3, 9)], 4, 40, some [.pointer none, .pointer none, .pointer none, .string ByteArray.empty]⟩ := by kernel_rfl
theorem ty64 : tyi Try.prog 64 = some ⟨.array 0 16, 0, 0, some []⟩ := by kernel_rfl
theorem ty65 : tyi Try.prog 65 = some ⟨.struct [(0, 64)], 0, 0, some []⟩ := by kernel_rfl
theorem ty66 : tyi Try.prog 66 = some ⟨.struct [(0, 64)], 0, 0, some []⟩ := by kernel_rfl
theorem ty68 : tyi Try.prog 68 = some ⟨.int .u8, 1, 1, some [.int .u8 0]⟩ := by kernel_rfl
theorem ty69 : tyi Try.prog 69 = some ⟨.int .u8, 1, 1, some [.int .u8 0]⟩ := by kernel_rfl
theorem ty71 : tyi Try.prog 71 = some ⟨.ptr 5, 1, 8, some [.pointer none]⟩ := by kernel_rfl
theorem ty72 : tyi Try.prog 72 = some ⟨.int .i32, 1, 4, some [.int .i32 0]⟩ := by kernel_rfl
theorem ty73 : tyi Try.prog 73 = some ⟨.int .i32, 1, 4, some [.int .i32 0]⟩ := by kernel_rfl
theorem ty74 : tyi Try.prog 74 = some ⟨.struct [(0, 12), (1, 12), (2, 22), (3, 68), (4, 5), (5, 5), (6, 69), (7, 70), (8, 71), (9, 72), (10, 73)], 11, 48, some [.int .u64 0, .int .u64 0, .int .u32 0, .int .u8 0, .int .u8 0, .int .u8 0, .int .u8 0, .nilFunc, .pointer none, .int .i32 0, .int .i32 0]⟩ := by kernel_rfl
theorem ty75 : tyi Try.prog 75 = some ⟨.struct [(0, 12), (1, 12), (2, 22), (3, 68), (4, 5), (5, 5), (6, 69), (7, 70), (8, 71), (9, 72), (10, 73)], 11, 48, some [.int .u64 0, .int .u64 0, .int .u32 0, .int .u8 0, .int .u8 0, .int .u8 0, .int .u8 0, .nilFunc, .pointer none, .int .i32 0, .int .i32 0]⟩ := by kernel_rfl
end Go.Proofs.Ytdcnpkpibbefhaa
