/- The table of the program's types, as 'VX' wants it; printed by a program of this session from the program's form in Lean; checked here by counting out. -/
import Derived.Test.YtfgpiobnmddmhaaProg
import Derived.KernelRfl
import Derived.Test.YtfgpiobnmddmhaaVxH
namespace Go.Proofs.Ytfgpiobnmddmhaa
open VX
/-- 0: () -/
def ti0 : TI := ⟨.other, 1, 0, .any, false⟩
/-- 1: func() -/
def ti1 : TI := ⟨.func, 1, 8, .nilf, false⟩
/-- 2: int64 -/
def ti2 : TI := ⟨.int .i64, 1, 8, .int .i64 0, false⟩
/-- 3: int -/
def ti3 : TI := ⟨.int .i64, 1, 8, .int .i64 0, false⟩
/-- 4: bool -/
def ti4 : TI := ⟨.bool, 1, 1, .bool false, false⟩
/-- 5: uint8 -/
def ti5 : TI := ⟨.int .u8, 1, 1, .int .u8 0, false⟩
/-- 6: abi.BoundsErrorCode -/
def ti6 : TI := ⟨.int .u8, 1, 1, .int .u8 0, false⟩
/-- 7: struct ( x int64; y int; signed bool; code abi.BoundsErrorCode ) -/
def ti7 : TI := ⟨.struct [(0, 2), (1, 3), (2, 4), (3, 6)], 4, 24, .agg [.int .i64 0, .int .i64 0, .bool false, .int .u8 0], true⟩
/-- 8: runtime.boundsError -/
def ti8 : TI := ⟨.struct [(0, 2), (1, 3), (2, 4), (3, 6)], 4, 24, .agg [.int .i64 0, .int .i64 0, .bool false, .int .u8 0], true⟩
/-- 9: string -/
def ti9 : TI := ⟨.string, 1, 16, .str [], false⟩
/-- 10: runtime.errorString -/
def ti10 : TI := ⟨.string, 1, 16, .str [], false⟩
/-- 11: runtime.plainError -/
def ti11 : TI := ⟨.string, 1, 16, .str [], false⟩
/-- 12: uintptr -/
def ti12 : TI := ⟨.int .u64, 1, 8, .int .u64 0, false⟩
/-- 13: struct ( msg string; addr uintptr ) -/
def ti13 : TI := ⟨.struct [(0, 9), (1, 12)], 2, 24, .agg [.str [], .int .u64 0], false⟩
/-- 14: runtime.errorAddressString -/
def ti14 : TI := ⟨.struct [(0, 9), (1, 12)], 2, 24, .agg [.str [], .int .u64 0], false⟩
/-- 15: *runtime.TypeAssertionError -/
def ti15 : TI := ⟨.pointer 67, 1, 8, .nilp, false⟩
/-- 16: *runtime.PanicNilError -/
def ti16 : TI := ⟨.pointer 70, 1, 8, .nilp, false⟩
/-- 17: *abi.Type -/
def ti17 : TI := ⟨.pointer 79, 1, 8, .nilp, false⟩
/-- 18: struct ( typ *abi.Type ) -/
def ti18 : TI := ⟨.struct [(0, 17)], 1, 8, .agg [.nilp], false⟩
/-- 19: maps.unhashableTypeError -/
def ti19 : TI := ⟨.struct [(0, 17)], 1, 8, .agg [.nilp], false⟩
/-- 20: interface () -/
def ti20 : TI := ⟨.iface, 1, 16, .nili, false⟩
/-- 21: int32 -/
def ti21 : TI := ⟨.int .i32, 1, 4, .int .i32 0, false⟩
/-- 22: []uint8 -/
def ti22 : TI := ⟨.slice 5, 1, 24, .nils, false⟩
/-- 23: []api.Hash -/
def ti23 : TI := ⟨.slice 25, 1, 24, .nils, false⟩
/-- 24: [32]uint8 -/
def ti24 : TI := ⟨.array 32 5, 32, 32, .vec 1 32 (fun _ => .int .u8 0), true⟩
/-- 25: api.Hash -/
def ti25 : TI := ⟨.array 32 5, 32, 32, .vec 1 32 (fun _ => .int .u8 0), true⟩
/-- 26: func() bool -/
def ti26 : TI := ⟨.func, 1, 8, .nilf, false⟩
/-- 27: func([]uint8) []api.Hash -/
def ti27 : TI := ⟨.func, 1, 8, .nilf, false⟩
/-- 28: []int -/
def ti28 : TI := ⟨.slice 3, 1, 24, .nils, false⟩
/-- 29: ([]api.Hash, bool) -/
def ti29 : TI := ⟨.other, 1, 0, .any, false⟩
/-- 30: func([]api.Hash, int) ([]api.Hash, bool) -/
def ti30 : TI := ⟨.func, 1, 8, .nilf, false⟩
/-- 31: func([]api.Hash, []api.Hash) bool -/
def ti31 : TI := ⟨.func, 1, 8, .nilf, false⟩
/-- 32: func([]api.Hash) api.Hash -/
def ti32 : TI := ⟨.func, 1, 8, .nilf, false⟩
/-- 33: [][]api.Hash -/
def ti33 : TI := ⟨.slice 23, 1, 24, .nils, false⟩
/-- 34: func(api.Hash, api.Hash, int, int, []api.Hash) bool -/
def ti34 : TI := ⟨.func, 1, 8, .nilf, false⟩
/-- 35: func([]uint8, []api.Hash, int, int, uint8, api.Hash, uint8) bool -/
def ti35 : TI := ⟨.func, 1, 8, .nilf, false⟩
/-- 36: func([]uint8) api.Hash -/
def ti36 : TI := ⟨.func, 1, 8, .nilf, false⟩
/-- 37: func([]uint8, uint8) bool -/
def ti37 : TI := ⟨.func, 1, 8, .nilf, false⟩
/-- 38: func([]uint8, api.Hash) bool -/
def ti38 : TI := ⟨.func, 1, 8, .nilf, false⟩
/-- 39: func([]uint8, uint8, api.Hash) bool -/
def ti39 : TI := ⟨.func, 1, 8, .nilf, false⟩
/-- 40: func([]api.Hash, int, bool) []api.Hash -/
def ti40 : TI := ⟨.func, 1, 8, .nilf, false⟩
/-- 41: func(uint8, ...[]uint8) api.Hash -/
def ti41 : TI := ⟨.func, 1, 8, .nilf, false⟩
/-- 42: func(int) int -/
def ti42 : TI := ⟨.func, 1, 8, .nilf, false⟩
/-- 43: func(api.Hash, api.Hash) api.Hash -/
def ti43 : TI := ⟨.func, 1, 8, .nilf, false⟩
/-- 44: func(...[]api.Hash) []api.Hash -/
def ti44 : TI := ⟨.func, 1, 8, .nilf, false⟩
/-- 45: uint -/
def ti45 : TI := ⟨.int .u64, 1, 8, .int .u64 0, false⟩
/-- 46: (api.Hash, api.Hash, bool) -/
def ti46 : TI := ⟨.other, 1, 0, .any, false⟩
/-- 47: func(api.Hash, int, int, bool, []api.Hash) (api.Hash, api.Hash, bool) -/
def ti47 : TI := ⟨.func, 1, 8, .nilf, false⟩
/-- 48: [][]uint8 -/
def ti48 : TI := ⟨.slice 22, 1, 24, .nils, false⟩
/-- 49: func(uint8, ...[]uint8) []uint8 -/
def ti49 : TI := ⟨.func, 1, 8, .nilf, false⟩
/-- 50: func([]api.Hash, int) []api.Hash -/
def ti50 : TI := ⟨.func, 1, 8, .nilf, false⟩
/-- 51: func(uint) int -/
def ti51 : TI := ⟨.func, 1, 8, .nilf, false⟩
/-- 52: uint64 -/
def ti52 : TI := ⟨.int .u64, 1, 8, .int .u64 0, false⟩
/-- 53: [5]uint64 -/
def ti53 : TI := ⟨.array 5 52, 5, 40, .vec 1 5 (fun _ => .int .u64 0), true⟩
/-- 54: func([5]uint64) [5]uint64 -/
def ti54 : TI := ⟨.func, 1, 8, .nilf, false⟩
/-- 55: func([]uint8) uint64 -/
def ti55 : TI := ⟨.func, 1, 8, .nilf, false⟩
/-- 56: func(uint64) []uint8 -/
def ti56 : TI := ⟨.func, 1, 8, .nilf, false⟩
/-- 57: func([]uint8) []uint8 -/
def ti57 : TI := ⟨.func, 1, 8, .nilf, false⟩
/-- 58: func(uint32) int -/
def ti58 : TI := ⟨.func, 1, 8, .nilf, false⟩
/-- 59: uint32 -/
def ti59 : TI := ⟨.int .u32, 1, 4, .int .u32 0, false⟩
/-- 60: func(uint64) int -/
def ti60 : TI := ⟨.func, 1, 8, .nilf, false⟩
/-- 61: [12]uint64 -/
def ti61 : TI := ⟨.array 12 52, 12, 96, .vec 1 12 (fun _ => .int .u64 0), true⟩
/-- 62: func([5]uint64, uint64) [5]uint64 -/
def ti62 : TI := ⟨.func, 1, 8, .nilf, false⟩
/-- 63: func(uint64, int) uint64 -/
def ti63 : TI := ⟨.func, 1, 8, .nilf, false⟩
/-- 64: func(uint64, int, int) uint64 -/
def ti64 : TI := ⟨.func, 1, 8, .nilf, false⟩
/-- 65: func() string -/
def ti65 : TI := ⟨.func, 1, 8, .nilf, false⟩
/-- 66: struct ( _interface *abi.Type; concrete *abi.Type; asserted *abi.Type; missingMethod string ) -/
def ti66 : TI := ⟨.struct [(0, 17), (1, 17), (2, 17), (3, 9)], 4, 40, .agg [.nilp, .nilp, .nilp, .str []], false⟩
/-- 67: runtime.TypeAssertionError -/
def ti67 : TI := ⟨.struct [(0, 17), (1, 17), (2, 17), (3, 9)], 4, 40, .agg [.nilp, .nilp, .nilp, .str []], false⟩
/-- 68: [0]*runtime.PanicNilError -/
def ti68 : TI := ⟨.array 0 16, 0, 0, .vec 1 0 (fun _ => .nilp), false⟩
/-- 69: struct ( _ [0]*runtime.PanicNilError ) -/
def ti69 : TI := ⟨.struct [(0, 68)], 0, 0, .agg [.vec 1 0 (fun _ => .nilp)], false⟩
/-- 70: runtime.PanicNilError -/
def ti70 : TI := ⟨.struct [(0, 68)], 0, 0, .agg [.vec 1 0 (fun _ => .nilp)], false⟩
/-- 71: func() int -/
def ti71 : TI := ⟨.func, 1, 8, .nilf, false⟩
/-- 72: abi.TFlag -/
def ti72 : TI := ⟨.int .u8, 1, 1, .int .u8 0, false⟩
/-- 73: abi.Kind -/
def ti73 : TI := ⟨.int .u8, 1, 1, .int .u8 0, false⟩
/-- 74: func(unsafe.Pointer, unsafe.Pointer) bool -/
def ti74 : TI := ⟨.func, 1, 8, .nilf, false⟩
/-- 75: *uint8 -/
def ti75 : TI := ⟨.pointer 5, 1, 8, .nilp, false⟩
/-- 76: abi.NameOff -/
def ti76 : TI := ⟨.int .i32, 1, 4, .int .i32 0, false⟩
/-- 77: abi.TypeOff -/
def ti77 : TI := ⟨.int .i32, 1, 4, .int .i32 0, false⟩
/-- 78: struct ( Size_ uintptr; PtrBytes uintptr; Hash uint32; TFlag abi.TFlag; Align_ uint8; FieldAlign_ uint8; Kind_ abi.Kind; Equal func(unsafe.Pointer, unsafe.Pointer) bool; GCData *uint8; Str abi.NameOff; PtrToThis abi.TypeOff ) -/
def ti78 : TI := ⟨.struct [(0, 12), (1, 12), (2, 59), (3, 72), (4, 5), (5, 5), (6, 73), (7, 74), (8, 75), (9, 76), (10, 77)], 11, 48, .agg [.int .u64 0, .int .u64 0, .int .u32 0, .int .u8 0, .int .u8 0, .int .u8 0, .int .u8 0, .nilf, .nilp, .int .i32 0, .int .i32 0], false⟩
/-- 79: abi.Type -/
def ti79 : TI := ⟨.struct [(0, 12), (1, 12), (2, 59), (3, 72), (4, 5), (5, 5), (6, 73), (7, 74), (8, 75), (9, 76), (10, 77)], 11, 48, .agg [.int .u64 0, .int .u64 0, .int .u32 0, .int .u8 0, .int .u8 0, .int .u8 0, .int .u8 0, .nilf, .nilp, .int .i32 0, .int .i32 0], false⟩
/-- 80: unsafe.Pointer -/
def ti80 : TI := ⟨.other, 1, 8, .any, false⟩
def tabL : List TI := [ti0, ti1, ti2, ti3, ti4, ti5, ti6, ti7, ti8, ti9, ti10, ti11, ti12, ti13, ti14, ti15, ti16, ti17, ti18, ti19, ti20, ti21, ti22, ti23, ti24, ti25, ti26, ti27, ti28, ti29, ti30, ti31, ti32, ti33, ti34, ti35, ti36, ti37, ti38, ti39, ti40, ti41, ti42, ti43, ti44, ti45, ti46, ti47, ti48, ti49, ti50, ti51, ti52, ti53, ti54, ti55, ti56, ti57, ti58, ti59, ti60, ti61, ti62, ti63, ti64, ti65, ti66, ti67, ti68, ti69, ti70, ti71, ti72, ti73, ti74, ti75, ti76, ti77, ti78, ti79, ti80]
theorem tabOK : TabOK Try.prog tabL := TabOK.of_chk (by kernel_rfl)
/-- Sums of ints: exact, where they fit. -/
def T : Tab := { l := tabL }
/-- Sums of ints: as they wrap. -/
def Tw : Tab := { l := tabL, nowrap := false }
theorem TOK : TabOK Try.prog T.l := tabOK
theorem TwOK : TabOK Try.prog Tw.l := tabOK
end Go.Proofs.Ytfgpiobnmddmhaa
