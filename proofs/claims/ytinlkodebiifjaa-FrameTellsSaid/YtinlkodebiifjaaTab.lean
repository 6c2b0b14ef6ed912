/- The table of the program's types, as 'VX' wants it; printed by a program of this session from the program's form in Lean; checked here by counting out. -/
import Derived.Test.YtinlkodebiifjaaProg
import Derived.KernelRfl
import Derived.Test.YtinlkodebiifjaaVxH
namespace Go.Proofs.Ytinlkodebiifjaa
open VX
/-- 0: () -/
def ti0 : TI := ⟨.other, 1, 0, .any, false⟩
/-- 1: func() -/
def ti1 : TI := ⟨.func, 1, 8, .nilf, false⟩
/-- 2: int64 -/
def ti2 : TI := ⟨.int .i64, 1, 8, .int .i64 0, false⟩
/-- 3: int -/
def ti3 : TI := ⟨.int .i64, 1, 8, .int .i64 0, false⟩
/-- 4: bool -/
def ti4 : TI := ⟨.bool, 1, 1, .bool false, false⟩
/-- 5: uint8 -/
def ti5 : TI := ⟨.int .u8, 1, 1, .int .u8 0, false⟩
/-- 6: abi.BoundsErrorCode -/
def ti6 : TI := ⟨.int .u8, 1, 1, .int .u8 0, false⟩
/-- 7: struct ( x int64; y int; signed bool; code abi.BoundsErrorCode ) -/
def ti7 : TI := ⟨.struct [(0, 2), (1, 3), (2, 4), (3, 6)], 4, 24, .agg [.int .i64 0, .int .i64 0, .bool false, .int .u8 0], true⟩
/-- 8: runtime.boundsError -/
def ti8 : TI := ⟨.struct [(0, 2), (1, 3), (2, 4), (3, 6)], 4, 24, .agg [.int .i64 0, .int .i64 0, .bool false, .int .u8 0], true⟩
/-- 9: string -/
def ti9 : TI := ⟨.string, 1, 16, .str [], false⟩
/-- 10: runtime.errorString -/
def ti10 : TI := ⟨.string, 1, 16, .str [], false⟩
/-- 11: runtime.plainError -/
def ti11 : TI := ⟨.string, 1, 16, .str [], false⟩
/-- 12: uintptr -/
def ti12 : TI := ⟨.int .u64, 1, 8, .int .u64 0, false⟩
/-- 13: struct ( msg string; addr uintptr ) -/
def ti13 : TI := ⟨.struct [(0, 9), (1, 12)], 2, 24, .agg [.str [], .int .u64 0], false⟩
/-- 14: runtime.errorAddressString -/
def ti14 : TI := ⟨.struct [(0, 9), (1, 12)], 2, 24, .agg [.str [], .int .u64 0], false⟩
/-- 15: *runtime.TypeAssertionError -/
def ti15 : TI := ⟨.pointer 71, 1, 8, .nilp, false⟩
/-- 16: *runtime.PanicNilError -/
def ti16 : TI := ⟨.pointer 74, 1, 8, .nilp, false⟩
/-- 17: *abi.Type -/
def ti17 : TI := ⟨.pointer 84, 1, 8, .nilp, false⟩
/-- 18: struct ( typ *abi.Type ) -/
def ti18 : TI := ⟨.struct [(0, 17)], 1, 8, .agg [.nilp], false⟩
/-- 19: maps.unhashableTypeError -/
def ti19 : TI := ⟨.struct [(0, 17)], 1, 8, .agg [.nilp], false⟩
/-- 20: interface () -/
def ti20 : TI := ⟨.iface, 1, 16, .nili, false⟩
/-- 21: int32 -/
def ti21 : TI := ⟨.int .i32, 1, 4, .int .i32 0, false⟩
/-- 22: []uint8 -/
def ti22 : TI := ⟨.slice 5, 1, 24, .nils, false⟩
/-- 23: uint16 -/
def ti23 : TI := ⟨.int .u16, 1, 2, .int .u16 0, false⟩
/-- 24: func() bool -/
def ti24 : TI := ⟨.func, 1, 8, .nilf, false⟩
/-- 25: []int -/
def ti25 : TI := ⟨.slice 3, 1, 24, .nils, false⟩
/-- 26: []int64 -/
def ti26 : TI := ⟨.slice 2, 1, 24, .nils, false⟩
/-- 27: api.Errno -/
def ti27 : TI := ⟨.int .i64, 1, 8, .int .i64 0, false⟩
/-- 28: ([]uint8, api.Errno) -/
def ti28 : TI := ⟨.other, 1, 0, .any, false⟩
/-- 29: func(int, int64, []uint8) ([]uint8, api.Errno) -/
def ti29 : TI := ⟨.func, 1, 8, .nilf, false⟩
/-- 30: ([]uint8, int) -/
def ti30 : TI := ⟨.other, 1, 0, .any, false⟩
/-- 31: func(int, int64, []uint8) ([]uint8, int) -/
def ti31 : TI := ⟨.func, 1, 8, .nilf, false⟩
/-- 32: [][]uint8 -/
def ti32 : TI := ⟨.slice 22, 1, 24, .nils, false⟩
/-- 33: (int, int64, []uint8, int, api.Errno) -/
def ti33 : TI := ⟨.other, 1, 0, .any, false⟩
/-- 34: func([]uint8) (int, int64, []uint8, int, api.Errno) -/
def ti34 : TI := ⟨.func, 1, 8, .nilf, false⟩
/-- 35: (int, int64, []uint8, int, int) -/
def ti35 : TI := ⟨.other, 1, 0, .any, false⟩
/-- 36: func([]uint8) (int, int64, []uint8, int, int) -/
def ti36 : TI := ⟨.func, 1, 8, .nilf, false⟩
/-- 37: func(int, int64, []uint8, []uint8, uint16, uint8, uint8) bool -/
def ti37 : TI := ⟨.func, 1, 8, .nilf, false⟩
/-- 38: func(uint8, int64, []uint8, uint16, uint8) bool -/
def ti38 : TI := ⟨.func, 1, 8, .nilf, false⟩
/-- 39: func(uint8) bool -/
def ti39 : TI := ⟨.func, 1, 8, .nilf, false⟩
/-- 40: func([][]uint8, []uint8) bool -/
def ti40 : TI := ⟨.func, 1, 8, .nilf, false⟩
/-- 41: func(uint64) []uint8 -/
def ti41 : TI := ⟨.func, 1, 8, .nilf, false⟩
/-- 42: uint64 -/
def ti42 : TI := ⟨.int .u64, 1, 8, .int .u64 0, false⟩
/-- 43: func(...[]uint8) []uint8 -/
def ti43 : TI := ⟨.func, 1, 8, .nilf, false⟩
/-- 44: func(uint8, int64, []uint8) []uint8 -/
def ti44 : TI := ⟨.func, 1, 8, .nilf, false⟩
/-- 45: uint -/
def ti45 : TI := ⟨.int .u64, 1, 8, .int .u64 0, false⟩
/-- 46: func(int, int64, []uint8) []uint8 -/
def ti46 : TI := ⟨.func, 1, 8, .nilf, false⟩
/-- 47: *bin.Reader -/
def ti47 : TI := ⟨.pointer 57, 1, 8, .nilp, false⟩
/-- 48: func([]uint8) *bin.Reader -/
def ti48 : TI := ⟨.func, 1, 8, .nilf, false⟩
/-- 49: func([]uint8) []uint8 -/
def ti49 : TI := ⟨.func, 1, 8, .nilf, false⟩
/-- 50: func() uint64 -/
def ti50 : TI := ⟨.func, 1, 8, .nilf, false⟩
/-- 51: func([]uint8, []uint8) bool -/
def ti51 : TI := ⟨.func, 1, 8, .nilf, false⟩
/-- 52: func([]uint8) uint64 -/
def ti52 : TI := ⟨.func, 1, 8, .nilf, false⟩
/-- 53: [32]uint8 -/
def ti53 : TI := ⟨.array 32 5, 32, 32, .vec 1 32 (fun _ => .int .u8 0), true⟩
/-- 54: api.Hash -/
def ti54 : TI := ⟨.array 32 5, 32, 32, .vec 1 32 (fun _ => .int .u8 0), true⟩
/-- 55: func(uint8, ...[]uint8) api.Hash -/
def ti55 : TI := ⟨.func, 1, 8, .nilf, false⟩
/-- 56: struct ( b []uint8; e api.Errno ) -/
def ti56 : TI := ⟨.struct [(0, 22), (1, 27)], 2, 32, .agg [.nils, .int .i64 0], false⟩
/-- 57: bin.Reader -/
def ti57 : TI := ⟨.struct [(0, 22), (1, 27)], 2, 32, .agg [.nils, .int .i64 0], false⟩
/-- 58: func(int) []uint8 -/
def ti58 : TI := ⟨.func, 1, 8, .nilf, false⟩
/-- 59: func([]uint8, int) []uint8 -/
def ti59 : TI := ⟨.func, 1, 8, .nilf, false⟩
/-- 60: func([]uint8) api.Hash -/
def ti60 : TI := ⟨.func, 1, 8, .nilf, false⟩
/-- 61: func(uint8, ...[]uint8) []uint8 -/
def ti61 : TI := ⟨.func, 1, 8, .nilf, false⟩
/-- 62: func(api.Errno) -/
def ti62 : TI := ⟨.func, 1, 8, .nilf, false⟩
/-- 63: [5]uint64 -/
def ti63 : TI := ⟨.array 5 42, 5, 40, .vec 1 5 (fun _ => .int .u64 0), true⟩
/-- 64: func([5]uint64) [5]uint64 -/
def ti64 : TI := ⟨.func, 1, 8, .nilf, false⟩
/-- 65: func([5]uint64, uint64) [5]uint64 -/
def ti65 : TI := ⟨.func, 1, 8, .nilf, false⟩
/-- 66: [12]uint64 -/
def ti66 : TI := ⟨.array 12 42, 12, 96, .vec 1 12 (fun _ => .int .u64 0), true⟩
/-- 67: func(uint64, int, int) uint64 -/
def ti67 : TI := ⟨.func, 1, 8, .nilf, false⟩
/-- 68: func(uint64, int) uint64 -/
def ti68 : TI := ⟨.func, 1, 8, .nilf, false⟩
/-- 69: func() string -/
def ti69 : TI := ⟨.func, 1, 8, .nilf, false⟩
/-- 70: struct ( _interface *abi.Type; concrete *abi.Type; asserted *abi.Type; missingMethod string ) -/
def ti70 : TI := ⟨.struct [(0, 17), (1, 17), (2, 17), (3, 9)], 4, 40, .agg [.nilp, .nilp, .nilp, .str []], false⟩
/-- 71: runtime.TypeAssertionError -/
def ti71 : TI := ⟨.struct [(0, 17), (1, 17), (2, 17), (3, 9)], 4, 40, .agg [.nilp, .nilp, .nilp, .str []], false⟩
/-- 72: [0]*runtime.PanicNilError -/
def ti72 : TI := ⟨.array 0 16, 0, 0, .vec 1 0 (fun _ => .nilp), false⟩
/-- 73: struct ( _ [0]*runtime.PanicNilError ) -/
def ti73 : TI := ⟨.struct [(0, 72)], 0, 0, .agg [.vec 1 0 (fun _ => .nilp)], false⟩
/-- 74: runtime.PanicNilError -/
def ti74 : TI := ⟨.struct [(0, 72)], 0, 0, .agg [.vec 1 0 (fun _ => .nilp)], false⟩
/-- 75: func() int -/
def ti75 : TI := ⟨.func, 1, 8, .nilf, false⟩
/-- 76: uint32 -/
def ti76 : TI := ⟨.int .u32, 1, 4, .int .u32 0, false⟩
/-- 77: abi.TFlag -/
def ti77 : TI := ⟨.int .u8, 1, 1, .int .u8 0, false⟩
/-- 78: abi.Kind -/
def ti78 : TI := ⟨.int .u8, 1, 1, .int .u8 0, false⟩
/-- 79: func(unsafe.Pointer, unsafe.Pointer) bool -/
def ti79 : TI := ⟨.func, 1, 8, .nilf, false⟩
/-- 80: *uint8 -/
def ti80 : TI := ⟨.pointer 5, 1, 8, .nilp, false⟩
/-- 81: abi.NameOff -/
def ti81 : TI := ⟨.int .i32, 1, 4, .int .i32 0, false⟩
/-- 82: abi.TypeOff -/
def ti82 : TI := ⟨.int .i32, 1, 4, .int .i32 0, false⟩
/-- 83: struct ( Size_ uintptr; PtrBytes uintptr; Hash uint32; TFlag abi.TFlag; Align_ uint8; FieldAlign_ uint8; Kind_ abi.Kind; Equal func(unsafe.Pointer, unsafe.Pointer) bool; GCData *uint8; Str abi.NameOff; PtrToThis abi.TypeOff ) -/
def ti83 : TI := ⟨.struct [(0, 12), (1, 12), (2, 76), (3, 77), (4, 5), (5, 5), (6, 78), (7, 79), (8, 80), (9, 81), (10, 82)], 11, 48, .agg [.int .u64 0, .int .u64 0, .int .u32 0, .int .u8 0, .int .u8 0, .int .u8 0, .int .u8 0, .nilf, .nilp, .int .i32 0, .int .i32 0], false⟩
/-- 84: abi.Type -/
def ti84 : TI := ⟨.struct [(0, 12), (1, 12), (2, 76), (3, 77), (4, 5), (5, 5), (6, 78), (7, 79), (8, 80), (9, 81), (10, 82)], 11, 48, .agg [.int .u64 0, .int .u64 0, .int .u32 0, .int .u8 0, .int .u8 0, .int .u8 0, .int .u8 0, .nilf, .nilp, .int .i32 0, .int .i32 0], false⟩
/-- 85: unsafe.Pointer -/
def ti85 : TI := ⟨.other, 1, 8, .any, false⟩
def tabL : List TI := [ti0, ti1, ti2, ti3, ti4, ti5, ti6, ti7, ti8, ti9, ti10, ti11, ti12, ti13, ti14, ti15, ti16, ti17, ti18, ti19, ti20, ti21, ti22, ti23, ti24, ti25, ti26, ti27, ti28, ti29, ti30, ti31, ti32, ti33, ti34, ti35, ti36, ti37, ti38, ti39, ti40, ti41, ti42, ti43, ti44, ti45, ti46, ti47, ti48, ti49, ti50, ti51, ti52, ti53, ti54, ti55, ti56, ti57, ti58, ti59, ti60, ti61, ti62, ti63, ti64, ti65, ti66, ti67, ti68, ti69, ti70, ti71, ti72, ti73, ti74, ti75, ti76, ti77, ti78, ti79, ti80, ti81, ti82, ti83, ti84, ti85]
theorem tabOK : TabOK Try.prog tabL := TabOK.of_chk (by kernel_rfl)
/-- Sums of ints: exact, where they fit. -/
def T : Tab := { l := tabL }
/-- Sums of ints: as they wrap. -/
def Tw : Tab := { l := tabL, nowrap := false }
theorem TOK : TabOK Try.prog T.l := tabOK
theorem TwOK : TabOK Try.prog Tw.l := tabOK
end Go.Proofs.Ytinlkodebiifjaa
