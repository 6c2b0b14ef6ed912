/- The table of the program's types, as 'VX' wants it; printed by a program of this session from the program's form in Lean; checked here by counting out. -/
import Derived.Test.YtiapjcncfoefeaaProg
import Derived.KernelRfl
import Derived.Test.YtiapjcncfoefeaaVxI
namespace Go.Proofs.Ytiapjcncfoefeaa
open VX
/-- 0: () -/
def ti0 : TI := ⟨.other, 1, 0, .any, false⟩
/-- 1: func() -/
def ti1 : TI := ⟨.func, 1, 8, .nilf, false⟩
/-- 2: int64 -/
def ti2 : TI := ⟨.int .i64, 1, 8, .int .i64 0, false⟩
/-- 3: int -/
def ti3 : TI := ⟨.int .i64, 1, 8, .int .i64 0, false⟩
/-- 4: bool -/
def ti4 : TI := ⟨.bool, 1, 1, .bool false, false⟩
/-- 5: uint8 -/
def ti5 : TI := ⟨.int .u8, 1, 1, .int .u8 0, false⟩
/-- 6: abi.BoundsErrorCode -/
def ti6 : TI := ⟨.int .u8, 1, 1, .int .u8 0, false⟩
/-- 7: struct ( x int64; y int; signed bool; code abi.BoundsErrorCode ) -/
def ti7 : TI := ⟨.struct [(0, 2), (1, 3), (2, 4), (3, 6)], 4, 24, .agg [.int .i64 0, .int .i64 0, .bool false, .int .u8 0], true⟩
/-- 8: runtime.boundsError -/
def ti8 : TI := ⟨.struct [(0, 2), (1, 3), (2, 4), (3, 6)], 4, 24, .agg [.int .i64 0, .int .i64 0, .bool false, .int .u8 0], true⟩
/-- 9: string -/
def ti9 : TI := ⟨.string, 1, 16, .str [], false⟩
/-- 10: runtime.errorString -/
def ti10 : TI := ⟨.string, 1, 16, .str [], false⟩
/-- 11: runtime.plainError -/
def ti11 : TI := ⟨.string, 1, 16, .str [], false⟩
/-- 12: uintptr -/
def ti12 : TI := ⟨.int .u64, 1, 8, .int .u64 0, false⟩
/-- 13: struct ( msg string; addr uintptr ) -/
def ti13 : TI := ⟨.struct [(0, 9), (1, 12)], 2, 24, .agg [.str [], .int .u64 0], false⟩
/-- 14: runtime.errorAddressString -/
def ti14 : TI := ⟨.struct [(0, 9), (1, 12)], 2, 24, .agg [.str [], .int .u64 0], false⟩
/-- 15: *runtime.TypeAssertionError -/
def ti15 : TI := ⟨.pointer 57, 1, 8, .nilp, false⟩
/-- 16: *runtime.PanicNilError -/
def ti16 : TI := ⟨.pointer 60, 1, 8, .nilp, false⟩
/-- 17: *abi.Type -/
def ti17 : TI := ⟨.pointer 69, 1, 8, .nilp, false⟩
/-- 18: struct ( typ *abi.Type ) -/
def ti18 : TI := ⟨.struct [(0, 17)], 1, 8, .agg [.nilp], false⟩
/-- 19: maps.unhashableTypeError -/
def ti19 : TI := ⟨.struct [(0, 17)], 1, 8, .agg [.nilp], false⟩
/-- 20: interface () -/
def ti20 : TI := ⟨.iface, 1, 16, .nili, false⟩
/-- 21: int32 -/
def ti21 : TI := ⟨.int .i32, 1, 4, .int .i32 0, false⟩
/-- 22: []uint8 -/
def ti22 : TI := ⟨.slice 5, 1, 24, .nils, false⟩
/-- 23: [][]uint8 -/
def ti23 : TI := ⟨.slice 22, 1, 24, .nils, false⟩
/-- 24: uint64 -/
def ti24 : TI := ⟨.int .u64, 1, 8, .int .u64 0, false⟩
/-- 25: func() bool -/
def ti25 : TI := ⟨.func, 1, 8, .nilf, false⟩
/-- 26: *disk.Disk -/
def ti26 : TI := ⟨.pointer 47, 1, 8, .nilp, false⟩
/-- 27: func(int) *disk.Disk -/
def ti27 : TI := ⟨.func, 1, 8, .nilf, false⟩
/-- 28: api.Errno -/
def ti28 : TI := ⟨.int .i64, 1, 8, .int .i64 0, false⟩
/-- 29: func(int, []uint8) api.Errno -/
def ti29 : TI := ⟨.func, 1, 8, .nilf, false⟩
/-- 30: func(int) api.Errno -/
def ti30 : TI := ⟨.func, 1, 8, .nilf, false⟩
/-- 31: func(int) []uint8 -/
def ti31 : TI := ⟨.func, 1, 8, .nilf, false⟩
/-- 32: func(int) int -/
def ti32 : TI := ⟨.func, 1, 8, .nilf, false⟩
/-- 33: func(uint64, int) -/
def ti33 : TI := ⟨.func, 1, 8, .nilf, false⟩
/-- 34: func([]uint8, [][]uint8, uint64, int) bool -/
def ti34 : TI := ⟨.func, 1, 8, .nilf, false⟩
/-- 35: func(int) -/
def ti35 : TI := ⟨.func, 1, 8, .nilf, false⟩
/-- 36: func(int, int) api.Errno -/
def ti36 : TI := ⟨.func, 1, 8, .nilf, false⟩
/-- 37: func(uint8, []uint8) bool -/
def ti37 : TI := ⟨.func, 1, 8, .nilf, false⟩
/-- 38: func([]uint8, [][]uint8, uint8) bool -/
def ti38 : TI := ⟨.func, 1, 8, .nilf, false⟩
/-- 39: [3][]uint8 -/
def ti39 : TI := ⟨.array 3 22, 3, 72, .vec 1 3 (fun _ => .nils), false⟩
/-- 40: [3]int -/
def ti40 : TI := ⟨.array 3 3, 3, 24, .vec 1 3 (fun _ => .int .i64 0), true⟩
/-- 41: func([][]uint8, []uint8) bool -/
def ti41 : TI := ⟨.func, 1, 8, .nilf, false⟩
/-- 42: []int -/
def ti42 : TI := ⟨.slice 3, 1, 24, .nils, false⟩
/-- 43: struct ( b []uint8; sure int; begins []int ) -/
def ti43 : TI := ⟨.struct [(0, 22), (1, 3), (2, 42)], 3, 56, .agg [.nils, .int .i64 0, .nils], false⟩
/-- 44: disk.file -/
def ti44 : TI := ⟨.struct [(0, 22), (1, 3), (2, 42)], 3, 56, .agg [.nils, .int .i64 0, .nils], false⟩
/-- 45: [3]disk.file -/
def ti45 : TI := ⟨.array 3 44, 9, 168, .agg [.agg [.nils, .int .i64 0, .nils], .agg [.nils, .int .i64 0, .nils], .agg [.nils, .int .i64 0, .nils]], false⟩
/-- 46: struct ( l [3]disk.file; room int; fail int ) -/
def ti46 : TI := ⟨.struct [(0, 45), (9, 3), (10, 3)], 11, 184, .agg [.agg [.agg [.nils, .int .i64 0, .nils], .agg [.nils, .int .i64 0, .nils], .agg [.nils, .int .i64 0, .nils]], .int .i64 0, .int .i64 0], false⟩
/-- 47: disk.Disk -/
def ti47 : TI := ⟨.struct [(0, 45), (9, 3), (10, 3)], 11, 184, .agg [.agg [.agg [.nils, .int .i64 0, .nils], .agg [.nils, .int .i64 0, .nils], .agg [.nils, .int .i64 0, .nils]], .int .i64 0, .int .i64 0], false⟩
/-- 48: *disk.file -/
def ti48 : TI := ⟨.pointer 44, 1, 8, .nilp, false⟩
/-- 49: func(int) *disk.file -/
def ti49 : TI := ⟨.func, 1, 8, .nilf, false⟩
/-- 50: func() int -/
def ti50 : TI := ⟨.func, 1, 8, .nilf, false⟩
/-- 51: func([]uint8) []uint8 -/
def ti51 : TI := ⟨.func, 1, 8, .nilf, false⟩
/-- 52: func([]int, func(int) bool) []int -/
def ti52 : TI := ⟨.func, 1, 8, .nilf, false⟩
/-- 53: func(int) bool -/
def ti53 : TI := ⟨.func, 1, 8, .nilf, false⟩
/-- 54: func([]int, func(int) bool) int -/
def ti54 : TI := ⟨.func, 1, 8, .nilf, false⟩
/-- 55: func() string -/
def ti55 : TI := ⟨.func, 1, 8, .nilf, false⟩
/-- 56: struct ( _interface *abi.Type; concrete *abi.Type; asserted *abi.Type; missingMethod string ) -/
def ti56 : TI := ⟨.struct [(0, 17), (1, 17), (2, 17), (3, 9)], 4, 40, .agg [.nilp, .nilp, .nilp, .str []], false⟩
/-- 57: runtime.TypeAssertionError -/
def ti57 : TI := ⟨.struct [(0, 17), (1, 17), (2, 17), (3, 9)], 4, 40, .agg [.nilp, .nilp, .nilp, .str []], false⟩
/-- 58: [0]*runtime.PanicNilError -/
def ti58 : TI := ⟨.array 0 16, 0, 0, .vec 1 0 (fun _ => .nilp), false⟩
/-- 59: struct ( _ [0]*runtime.PanicNilError ) -/
def ti59 : TI := ⟨.struct [(0, 58)], 0, 0, .agg [.vec 1 0 (fun _ => .nilp)], false⟩
/-- 60: runtime.PanicNilError -/
def ti60 : TI := ⟨.struct [(0, 58)], 0, 0, .agg [.vec 1 0 (fun _ => .nilp)], false⟩
/-- 61: uint32 -/
def ti61 : TI := ⟨.int .u32, 1, 4, .int .u32 0, false⟩
/-- 62: abi.TFlag -/
def ti62 : TI := ⟨.int .u8, 1, 1, .int .u8 0, false⟩
/-- 63: abi.Kind -/
def ti63 : TI := ⟨.int .u8, 1, 1, .int .u8 0, false⟩
/-- 64: func(unsafe.Pointer, unsafe.Pointer) bool -/
def ti64 : TI := ⟨.func, 1, 8, .nilf, false⟩
/-- 65: *uint8 -/
def ti65 : TI := ⟨.pointer 5, 1, 8, .nilp, false⟩
/-- 66: abi.NameOff -/
def ti66 : TI := ⟨.int .i32, 1, 4, .int .i32 0, false⟩
/-- 67: abi.TypeOff -/
def ti67 : TI := ⟨.int .i32, 1, 4, .int .i32 0, false⟩
/-- 68: struct ( Size_ uintptr; PtrBytes uintptr; Hash uint32; TFlag abi.TFlag; Align_ uint8; FieldAlign_ uint8; Kind_ abi.Kind; Equal func(unsafe.Pointer, unsafe.Pointer) bool; GCData *uint8; Str abi.NameOff; PtrToThis abi.TypeOff ) -/
def ti68 : TI := ⟨.struct [(0, 12), (1, 12), (2, 61), (3, 62), (4, 5), (5, 5), (6, 63), (7, 64), (8, 65), (9, 66), (10, 67)], 11, 48, .agg [.int .u64 0, .int .u64 0, .int .u32 0, .int .u8 0, .int .u8 0, .int .u8 0, .int .u8 0, .nilf, .nilp, .int .i32 0, .int .i32 0], false⟩
/-- 69: abi.Type -/
def ti69 : TI := ⟨.struct [(0, 12), (1, 12), (2, 61), (3, 62), (4, 5), (5, 5), (6, 63), (7, 64), (8, 65), (9, 66), (10, 67)], 11, 48, .agg [.int .u64 0, .int .u64 0, .int .u32 0, .int .u8 0, .int .u8 0, .int .u8 0, .int .u8 0, .nilf, .nilp, .int .i32 0, .int .i32 0], false⟩
/-- 70: unsafe.Pointer -/
def ti70 : TI := ⟨.other, 1, 8, .any, false⟩
def tabL : List TI := [ti0, ti1, ti2, ti3, ti4, ti5, ti6, ti7, ti8, ti9, ti10, ti11, ti12, ti13, ti14, ti15, ti16, ti17, ti18, ti19, ti20, ti21, ti22, ti23, ti24, ti25, ti26, ti27, ti28, ti29, ti30, ti31, ti32, ti33, ti34, ti35, ti36, ti37, ti38, ti39, ti40, ti41, ti42, ti43, ti44, ti45, ti46, ti47, ti48, ti49, ti50, ti51, ti52, ti53, ti54, ti55, ti56, ti57, ti58, ti59, ti60, ti61, ti62, ti63, ti64, ti65, ti66, ti67, ti68, ti69, ti70]
theorem tabOK : TabOK Try.prog tabL := TabOK.of_chk (by kernel_rfl)
/-- Sums of ints: exact, where they fit. -/
def T : Tab := { l := tabL }
/-- Sums of ints: as they wrap. -/
def Tw : Tab := { l := tabL, nowrap := false }
theorem TOK : TabOK Try.prog T.l := tabOK
theorem TwOK : TabOK Try.prog Tw.l := tabOK
end Go.Proofs.Ytiapjcncfoefeaa
