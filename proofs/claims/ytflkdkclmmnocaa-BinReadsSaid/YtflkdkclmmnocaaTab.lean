/- The table of the program's types, as 'VX' wants it; printed by a program of this session from the program's form in Lean; checked here by counting out. -/
import Derived.Test.YtflkdkclmmnocaaProg
import Derived.KernelRfl
import Derived.Test.YtflkdkclmmnocaaVxH
namespace Go.Proofs.Ytflkdkclmmnocaa
open VX
/-- 0: () -/
def ti0 : TI := ⟨.other, 1, 0, .any, false⟩
/-- 1: func() -/
def ti1 : TI := ⟨.func, 1, 8, .nilf, false⟩
/-- 2: int64 -/
def ti2 : TI := ⟨.int .i64, 1, 8, .int .i64 0, false⟩
/-- 3: int -/
def ti3 : TI := ⟨.int .i64, 1, 8, .int .i64 0, false⟩
/-- 4: bool -/
def ti4 : TI := ⟨.bool, 1, 1, .bool false, false⟩
/-- 5: uint8 -/
def ti5 : TI := ⟨.int .u8, 1, 1, .int .u8 0, false⟩
/-- 6: abi.BoundsErrorCode -/
def ti6 : TI := ⟨.int .u8, 1, 1, .int .u8 0, false⟩
/-- 7: struct ( x int64; y int; signed bool; code abi.BoundsErrorCode ) -/
def ti7 : TI := ⟨.struct [(0, 2), (1, 3), (2, 4), (3, 6)], 4, 24, .agg [.int .i64 0, .int .i64 0, .bool false, .int .u8 0], true⟩
/-- 8: runtime.boundsError -/
def ti8 : TI := ⟨.struct [(0, 2), (1, 3), (2, 4), (3, 6)], 4, 24, .agg [.int .i64 0, .int .i64 0, .bool false, .int .u8 0], true⟩
/-- 9: string -/
def ti9 : TI := ⟨.string, 1, 16, .str [], false⟩
/-- 10: runtime.errorString -/
def ti10 : TI := ⟨.string, 1, 16, .str [], false⟩
/-- 11: runtime.plainError -/
def ti11 : TI := ⟨.string, 1, 16, .str [], false⟩
/-- 12: uintptr -/
def ti12 : TI := ⟨.int .u64, 1, 8, .int .u64 0, false⟩
/-- 13: struct ( msg string; addr uintptr ) -/
def ti13 : TI := ⟨.struct [(0, 9), (1, 12)], 2, 24, .agg [.str [], .int .u64 0], false⟩
/-- 14: runtime.errorAddressString -/
def ti14 : TI := ⟨.struct [(0, 9), (1, 12)], 2, 24, .agg [.str [], .int .u64 0], false⟩
/-- 15: *runtime.TypeAssertionError -/
def ti15 : TI := ⟨.pointer 56, 1, 8, .nilp, false⟩
/-- 16: *runtime.PanicNilError -/
def ti16 : TI := ⟨.pointer 59, 1, 8, .nilp, false⟩
/-- 17: *abi.Type -/
def ti17 : TI := ⟨.pointer 68, 1, 8, .nilp, false⟩
/-- 18: struct ( typ *abi.Type ) -/
def ti18 : TI := ⟨.struct [(0, 17)], 1, 8, .agg [.nilp], false⟩
/-- 19: maps.unhashableTypeError -/
def ti19 : TI := ⟨.struct [(0, 17)], 1, 8, .agg [.nilp], false⟩
/-- 20: interface () -/
def ti20 : TI := ⟨.iface, 1, 16, .nili, false⟩
/-- 21: int32 -/
def ti21 : TI := ⟨.int .i32, 1, 4, .int .i32 0, false⟩
/-- 22: []uint8 -/
def ti22 : TI := ⟨.slice 5, 1, 24, .nils, false⟩
/-- 23: uint64 -/
def ti23 : TI := ⟨.int .u64, 1, 8, .int .u64 0, false⟩
/-- 24: [][]uint8 -/
def ti24 : TI := ⟨.slice 22, 1, 24, .nils, false⟩
/-- 25: []postmarklaw1.Act -/
def ti25 : TI := ⟨.slice 36, 1, 24, .nils, false⟩
/-- 26: func() bool -/
def ti26 : TI := ⟨.func, 1, 8, .nilf, false⟩
/-- 27: func([]uint8) []uint8 -/
def ti27 : TI := ⟨.func, 1, 8, .nilf, false⟩
/-- 28: func(uint64) []uint8 -/
def ti28 : TI := ⟨.func, 1, 8, .nilf, false⟩
/-- 29: func(...[]uint8) []uint8 -/
def ti29 : TI := ⟨.func, 1, 8, .nilf, false⟩
/-- 30: *bin.Reader -/
def ti30 : TI := ⟨.pointer 48, 1, 8, .nilp, false⟩
/-- 31: func([]uint8) *bin.Reader -/
def ti31 : TI := ⟨.func, 1, 8, .nilf, false⟩
/-- 32: *postmarkref1.Reader -/
def ti32 : TI := ⟨.pointer 34, 1, 8, .nilp, false⟩
/-- 33: struct ( B []uint8; E int ) -/
def ti33 : TI := ⟨.struct [(0, 22), (1, 3)], 2, 32, .agg [.nils, .int .i64 0], false⟩
/-- 34: postmarkref1.Reader -/
def ti34 : TI := ⟨.struct [(0, 22), (1, 3)], 2, 32, .agg [.nils, .int .i64 0], false⟩
/-- 35: struct ( What uint8; N int ) -/
def ti35 : TI := ⟨.struct [(0, 5), (1, 3)], 2, 16, .agg [.int .u8 0, .int .i64 0], true⟩
/-- 36: postmarklaw1.Act -/
def ti36 : TI := ⟨.struct [(0, 5), (1, 3)], 2, 16, .agg [.int .u8 0, .int .i64 0], true⟩
/-- 37: func() uint64 -/
def ti37 : TI := ⟨.func, 1, 8, .nilf, false⟩
/-- 38: func(int) []uint8 -/
def ti38 : TI := ⟨.func, 1, 8, .nilf, false⟩
/-- 39: api.Errno -/
def ti39 : TI := ⟨.int .i64, 1, 8, .int .i64 0, false⟩
/-- 40: func() api.Errno -/
def ti40 : TI := ⟨.func, 1, 8, .nilf, false⟩
/-- 41: func() int -/
def ti41 : TI := ⟨.func, 1, 8, .nilf, false⟩
/-- 42: func([]uint8, uint64, [][]uint8, []postmarklaw1.Act) bool -/
def ti42 : TI := ⟨.func, 1, 8, .nilf, false⟩
/-- 43: []uint64 -/
def ti43 : TI := ⟨.slice 23, 1, 24, .nils, false⟩
/-- 44: func([][]uint8, []uint64) bool -/
def ti44 : TI := ⟨.func, 1, 8, .nilf, false⟩
/-- 45: func([]uint8, uint8, uint8) bool -/
def ti45 : TI := ⟨.func, 1, 8, .nilf, false⟩
/-- 46: func([]uint8, []uint8) bool -/
def ti46 : TI := ⟨.func, 1, 8, .nilf, false⟩
/-- 47: struct ( b []uint8; e api.Errno ) -/
def ti47 : TI := ⟨.struct [(0, 22), (1, 39)], 2, 32, .agg [.nils, .int .i64 0], false⟩
/-- 48: bin.Reader -/
def ti48 : TI := ⟨.struct [(0, 22), (1, 39)], 2, 32, .agg [.nils, .int .i64 0], false⟩
/-- 49: func([]uint8) uint64 -/
def ti49 : TI := ⟨.func, 1, 8, .nilf, false⟩
/-- 50: func(api.Errno) -/
def ti50 : TI := ⟨.func, 1, 8, .nilf, false⟩
/-- 51: func(int) -/
def ti51 : TI := ⟨.func, 1, 8, .nilf, false⟩
/-- 52: func([]uint8, int) []uint8 -/
def ti52 : TI := ⟨.func, 1, 8, .nilf, false⟩
/-- 53: uint -/
def ti53 : TI := ⟨.int .u64, 1, 8, .int .u64 0, false⟩
/-- 54: func() string -/
def ti54 : TI := ⟨.func, 1, 8, .nilf, false⟩
/-- 55: struct ( _interface *abi.Type; concrete *abi.Type; asserted *abi.Type; missingMethod string ) -/
def ti55 : TI := ⟨.struct [(0, 17), (1, 17), (2, 17), (3, 9)], 4, 40, .agg [.nilp, .nilp, .nilp, .str []], false⟩
/-- 56: runtime.TypeAssertionError -/
def ti56 : TI := ⟨.struct [(0, 17), (1, 17), (2, 17), (3, 9)], 4, 40, .agg [.nilp, .nilp, .nilp, .str []], false⟩
/-- 57: [0]*runtime.PanicNilError -/
def ti57 : TI := ⟨.array 0 16, 0, 0, .vec 1 0 (fun _ => .nilp), false⟩
/-- 58: struct ( _ [0]*runtime.PanicNilError ) -/
def ti58 : TI := ⟨.struct [(0, 57)], 0, 0, .agg [.vec 1 0 (fun _ => .nilp)], false⟩
/-- 59: runtime.PanicNilError -/
def ti59 : TI := ⟨.struct [(0, 57)], 0, 0, .agg [.vec 1 0 (fun _ => .nilp)], false⟩
/-- 60: uint32 -/
def ti60 : TI := ⟨.int .u32, 1, 4, .int .u32 0, false⟩
/-- 61: abi.TFlag -/
def ti61 : TI := ⟨.int .u8, 1, 1, .int .u8 0, false⟩
/-- 62: abi.Kind -/
def ti62 : TI := ⟨.int .u8, 1, 1, .int .u8 0, false⟩
/-- 63: func(unsafe.Pointer, unsafe.Pointer) bool -/
def ti63 : TI := ⟨.func, 1, 8, .nilf, false⟩
/-- 64: *uint8 -/
def ti64 : TI := ⟨.pointer 5, 1, 8, .nilp, false⟩
/-- 65: abi.NameOff -/
def ti65 : TI := ⟨.int .i32, 1, 4, .int .i32 0, false⟩
/-- 66: abi.TypeOff -/
def ti66 : TI := ⟨.int .i32, 1, 4, .int .i32 0, false⟩
/-- 67: struct ( Size_ uintptr; PtrBytes uintptr; Hash uint32; TFlag abi.TFlag; Align_ uint8; FieldAlign_ uint8; Kind_ abi.Kind; Equal func(unsafe.Pointer, unsafe.Pointer) bool; GCData *uint8; Str abi.NameOff; PtrToThis abi.TypeOff ) -/
def ti67 : TI := ⟨.struct [(0, 12), (1, 12), (2, 60), (3, 61), (4, 5), (5, 5), (6, 62), (7, 63), (8, 64), (9, 65), (10, 66)], 11, 48, .agg [.int .u64 0, .int .u64 0, .int .u32 0, .int .u8 0, .int .u8 0, .int .u8 0, .int .u8 0, .nilf, .nilp, .int .i32 0, .int .i32 0], false⟩
/-- 68: abi.Type -/
def ti68 : TI := ⟨.struct [(0, 12), (1, 12), (2, 60), (3, 61), (4, 5), (5, 5), (6, 62), (7, 63), (8, 64), (9, 65), (10, 66)], 11, 48, .agg [.int .u64 0, .int .u64 0, .int .u32 0, .int .u8 0, .int .u8 0, .int .u8 0, .int .u8 0, .nilf, .nilp, .int .i32 0, .int .i32 0], false⟩
/-- 69: unsafe.Pointer -/
def ti69 : TI := ⟨.other, 1, 8, .any, false⟩
def tabL : List TI := [ti0, ti1, ti2, ti3, ti4, ti5, ti6, ti7, ti8, ti9, ti10, ti11, ti12, ti13, ti14, ti15, ti16, ti17, ti18, ti19, ti20, ti21, ti22, ti23, ti24, ti25, ti26, ti27, ti28, ti29, ti30, ti31, ti32, ti33, ti34, ti35, ti36, ti37, ti38, ti39, ti40, ti41, ti42, ti43, ti44, ti45, ti46, ti47, ti48, ti49, ti50, ti51, ti52, ti53, ti54, ti55, ti56, ti57, ti58, ti59, ti60, ti61, ti62, ti63, ti64, ti65, ti66, ti67, ti68, ti69]
theorem tabOK : TabOK Try.prog tabL := TabOK.of_chk (by kernel_rfl)
/-- Sums of ints: exact, where they fit. -/
def T : Tab := { l := tabL }
/-- Sums of ints: as they wrap. -/
def Tw : Tab := { l := tabL, nowrap := false }
theorem TOK : TabOK Try.prog T.l := tabOK
theorem TwOK : TabOK Try.prog Tw.l := tabOK
end Go.Proofs.Ytflkdkclmmnocaa
