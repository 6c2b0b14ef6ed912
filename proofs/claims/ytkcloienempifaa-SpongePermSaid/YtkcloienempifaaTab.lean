/- The table of the program's types, as 'VX' wants it; printed by a program of this session from the program's form in Lean; checked here by counting out. -/
import Derived.Test.YtkcloienempifaaProg
import Derived.KernelRfl
import Derived.Test.YtkcloienempifaaVxH
namespace Go.Proofs.Ytkcloienempifaa
open VX
/-- 0: () -/
def ti0 : TI := ⟨.other, 1, 0, .any, false⟩
/-- 1: func() -/
def ti1 : TI := ⟨.func, 1, 8, .nilf, false⟩
/-- 2: int64 -/
def ti2 : TI := ⟨.int .i64, 1, 8, .int .i64 0, false⟩
/-- 3: int -/
def ti3 : TI := ⟨.int .i64, 1, 8, .int .i64 0, false⟩
/-- 4: bool -/
def ti4 : TI := ⟨.bool, 1, 1, .bool false, false⟩
/-- 5: uint8 -/
def ti5 : TI := ⟨.int .u8, 1, 1, .int .u8 0, false⟩
/-- 6: abi.BoundsErrorCode -/
def ti6 : TI := ⟨.int .u8, 1, 1, .int .u8 0, false⟩
/-- 7: struct ( x int64; y int; signed bool; code abi.BoundsErrorCode ) -/
def ti7 : TI := ⟨.struct [(0, 2), (1, 3), (2, 4), (3, 6)], 4, 24, .agg [.int .i64 0, .int .i64 0, .bool false, .int .u8 0], true⟩
/-- 8: runtime.boundsError -/
def ti8 : TI := ⟨.struct [(0, 2), (1, 3), (2, 4), (3, 6)], 4, 24, .agg [.int .i64 0, .int .i64 0, .bool false, .int .u8 0], true⟩
/-- 9: string -/
def ti9 : TI := ⟨.string, 1, 16, .str [], false⟩
/-- 10: runtime.errorString -/
def ti10 : TI := ⟨.string, 1, 16, .str [], false⟩
/-- 11: runtime.plainError -/
def ti11 : TI := ⟨.string, 1, 16, .str [], false⟩
/-- 12: uintptr -/
def ti12 : TI := ⟨.int .u64, 1, 8, .int .u64 0, false⟩
/-- 13: struct ( msg string; addr uintptr ) -/
def ti13 : TI := ⟨.struct [(0, 9), (1, 12)], 2, 24, .agg [.str [], .int .u64 0], false⟩
/-- 14: runtime.errorAddressString -/
def ti14 : TI := ⟨.struct [(0, 9), (1, 12)], 2, 24, .agg [.str [], .int .u64 0], false⟩
/-- 15: *runtime.TypeAssertionError -/
def ti15 : TI := ⟨.pointer 48, 1, 8, .nilp, false⟩
/-- 16: *runtime.PanicNilError -/
def ti16 : TI := ⟨.pointer 51, 1, 8, .nilp, false⟩
/-- 17: *abi.Type -/
def ti17 : TI := ⟨.pointer 61, 1, 8, .nilp, false⟩
/-- 18: struct ( typ *abi.Type ) -/
def ti18 : TI := ⟨.struct [(0, 17)], 1, 8, .agg [.nilp], false⟩
/-- 19: maps.unhashableTypeError -/
def ti19 : TI := ⟨.struct [(0, 17)], 1, 8, .agg [.nilp], false⟩
/-- 20: interface () -/
def ti20 : TI := ⟨.iface, 1, 16, .nili, false⟩
/-- 21: int32 -/
def ti21 : TI := ⟨.int .i32, 1, 4, .int .i32 0, false⟩
/-- 22: uint64 -/
def ti22 : TI := ⟨.int .u64, 1, 8, .int .u64 0, false⟩
/-- 23: [5]uint64 -/
def ti23 : TI := ⟨.array 5 22, 5, 40, .vec 1 5 (fun _ => .int .u64 0), true⟩
/-- 24: []uint8 -/
def ti24 : TI := ⟨.slice 5, 1, 24, .nils, false⟩
/-- 25: [][]uint8 -/
def ti25 : TI := ⟨.slice 24, 1, 24, .nils, false⟩
/-- 26: func() bool -/
def ti26 : TI := ⟨.func, 1, 8, .nilf, false⟩
/-- 27: func([5]uint64) [5]uint64 -/
def ti27 : TI := ⟨.func, 1, 8, .nilf, false⟩
/-- 28: [32]uint8 -/
def ti28 : TI := ⟨.array 32 5, 32, 32, .vec 1 32 (fun _ => .int .u8 0), true⟩
/-- 29: api.Hash -/
def ti29 : TI := ⟨.array 32 5, 32, 32, .vec 1 32 (fun _ => .int .u8 0), true⟩
/-- 30: func([]uint8) api.Hash -/
def ti30 : TI := ⟨.func, 1, 8, .nilf, false⟩
/-- 31: func(uint8, ...[]uint8) []uint8 -/
def ti31 : TI := ⟨.func, 1, 8, .nilf, false⟩
/-- 32: func(uint8, ...[]uint8) api.Hash -/
def ti32 : TI := ⟨.func, 1, 8, .nilf, false⟩
/-- 33: func([5]uint64, []uint8, uint8, [][]uint8) bool -/
def ti33 : TI := ⟨.func, 1, 8, .nilf, false⟩
/-- 34: func(uint8, uint8) bool -/
def ti34 : TI := ⟨.func, 1, 8, .nilf, false⟩
/-- 35: func([]uint8, []uint8, uint8, uint8) bool -/
def ti35 : TI := ⟨.func, 1, 8, .nilf, false⟩
/-- 36: func([5]uint64, [5]uint64, uint8, uint64) bool -/
def ti36 : TI := ⟨.func, 1, 8, .nilf, false⟩
/-- 37: func([]uint8, []uint8) bool -/
def ti37 : TI := ⟨.func, 1, 8, .nilf, false⟩
/-- 38: func([5]uint64, uint64) [5]uint64 -/
def ti38 : TI := ⟨.func, 1, 8, .nilf, false⟩
/-- 39: [12]uint64 -/
def ti39 : TI := ⟨.array 12 22, 12, 96, .vec 1 12 (fun _ => .int .u64 0), true⟩
/-- 40: func([]uint8) uint64 -/
def ti40 : TI := ⟨.func, 1, 8, .nilf, false⟩
/-- 41: func(uint64) []uint8 -/
def ti41 : TI := ⟨.func, 1, 8, .nilf, false⟩
/-- 42: func([]uint8) []uint8 -/
def ti42 : TI := ⟨.func, 1, 8, .nilf, false⟩
/-- 43: func(uint64, int, int) uint64 -/
def ti43 : TI := ⟨.func, 1, 8, .nilf, false⟩
/-- 44: func(uint64, int) uint64 -/
def ti44 : TI := ⟨.func, 1, 8, .nilf, false⟩
/-- 45: uint -/
def ti45 : TI := ⟨.int .u64, 1, 8, .int .u64 0, false⟩
/-- 46: func() string -/
def ti46 : TI := ⟨.func, 1, 8, .nilf, false⟩
/-- 47: struct ( _interface *abi.Type; concrete *abi.Type; asserted *abi.Type; missingMethod string ) -/
def ti47 : TI := ⟨.struct [(0, 17), (1, 17), (2, 17), (3, 9)], 4, 40, .agg [.nilp, .nilp, .nilp, .str []], false⟩
/-- 48: runtime.TypeAssertionError -/
def ti48 : TI := ⟨.struct [(0, 17), (1, 17), (2, 17), (3, 9)], 4, 40, .agg [.nilp, .nilp, .nilp, .str []], false⟩
/-- 49: [0]*runtime.PanicNilError -/
def ti49 : TI := ⟨.array 0 16, 0, 0, .vec 1 0 (fun _ => .nilp), false⟩
/-- 50: struct ( _ [0]*runtime.PanicNilError ) -/
def ti50 : TI := ⟨.struct [(0, 49)], 0, 0, .agg [.vec 1 0 (fun _ => .nilp)], false⟩
/-- 51: runtime.PanicNilError -/
def ti51 : TI := ⟨.struct [(0, 49)], 0, 0, .agg [.vec 1 0 (fun _ => .nilp)], false⟩
/-- 52: func() int -/
def ti52 : TI := ⟨.func, 1, 8, .nilf, false⟩
/-- 53: uint32 -/
def ti53 : TI := ⟨.int .u32, 1, 4, .int .u32 0, false⟩
/-- 54: abi.TFlag -/
def ti54 : TI := ⟨.int .u8, 1, 1, .int .u8 0, false⟩
/-- 55: abi.Kind -/
def ti55 : TI := ⟨.int .u8, 1, 1, .int .u8 0, false⟩
/-- 56: func(unsafe.Pointer, unsafe.Pointer) bool -/
def ti56 : TI := ⟨.func, 1, 8, .nilf, false⟩
/-- 57: *uint8 -/
def ti57 : TI := ⟨.pointer 5, 1, 8, .nilp, false⟩
/-- 58: abi.NameOff -/
def ti58 : TI := ⟨.int .i32, 1, 4, .int .i32 0, false⟩
/-- 59: abi.TypeOff -/
def ti59 : TI := ⟨.int .i32, 1, 4, .int .i32 0, false⟩
/-- 60: struct ( Size_ uintptr; PtrBytes uintptr; Hash uint32; TFlag abi.TFlag; Align_ uint8; FieldAlign_ uint8; Kind_ abi.Kind; Equal func(unsafe.Pointer, unsafe.Pointer) bool; GCData *uint8; Str abi.NameOff; PtrToThis abi.TypeOff ) -/
def ti60 : TI := ⟨.struct [(0, 12), (1, 12), (2, 53), (3, 54), (4, 5), (5, 5), (6, 55), (7, 56), (8, 57), (9, 58), (10, 59)], 11, 48, .agg [.int .u64 0, .int .u64 0, .int .u32 0, .int .u8 0, .int .u8 0, .int .u8 0, .int .u8 0, .nilf, .nilp, .int .i32 0, .int .i32 0], false⟩
/-- 61: abi.Type -/
def ti61 : TI := ⟨.struct [(0, 12), (1, 12), (2, 53), (3, 54), (4, 5), (5, 5), (6, 55), (7, 56), (8, 57), (9, 58), (10, 59)], 11, 48, .agg [.int .u64 0, .int .u64 0, .int .u32 0, .int .u8 0, .int .u8 0, .int .u8 0, .int .u8 0, .nilf, .nilp, .int .i32 0, .int .i32 0], false⟩
/-- 62: unsafe.Pointer -/
def ti62 : TI := ⟨.other, 1, 8, .any, false⟩
def tabL : List TI := [ti0, ti1, ti2, ti3, ti4, ti5, ti6, ti7, ti8, ti9, ti10, ti11, ti12, ti13, ti14, ti15, ti16, ti17, ti18, ti19, ti20, ti21, ti22, ti23, ti24, ti25, ti26, ti27, ti28, ti29, ti30, ti31, ti32, ti33, ti34, ti35, ti36, ti37, ti38, ti39, ti40, ti41, ti42, ti43, ti44, ti45, ti46, ti47, ti48, ti49, ti50, ti51, ti52, ti53, ti54, ti55, ti56, ti57, ti58, ti59, ti60, ti61, ti62]
theorem tabOK : TabOK Try.prog tabL := TabOK.of_chk (by kernel_rfl)
/-- Sums of ints: exact, where they fit. -/
def T : Tab := { l := tabL }
/-- Sums of ints: as they wrap. -/
def Tw : Tab := { l := tabL, nowrap := false }
theorem TOK : TabOK Try.prog T.l := tabOK
theorem TwOK : TabOK Try.prog Tw.l := tabOK
end Go.Proofs.Ytkcloienempifaa
