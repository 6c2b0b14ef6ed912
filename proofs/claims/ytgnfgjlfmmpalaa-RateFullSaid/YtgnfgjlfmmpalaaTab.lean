/- The table of the program's types, as 'VX' wants it; printed by a program of this session from the program's form in Lean; checked here by counting out. -/
import Derived.Test.YtgnfgjlfmmpalaaProg
import Derived.KernelRfl
import Derived.Test.YtgnfgjlfmmpalaaVxH
namespace Go.Proofs.Ytgnfgjlfmmpalaa
open VX
/-- 0: () -/
def ti0 : TI := ⟨.other, 1, 0, .any, false⟩
/-- 1: func() -/
def ti1 : TI := ⟨.func, 1, 8, .nilf, false⟩
/-- 2: int64 -/
def ti2 : TI := ⟨.int .i64, 1, 8, .int .i64 0, false⟩
/-- 3: int -/
def ti3 : TI := ⟨.int .i64, 1, 8, .int .i64 0, false⟩
/-- 4: bool -/
def ti4 : TI := ⟨.bool, 1, 1, .bool false, false⟩
/-- 5: uint8 -/
def ti5 : TI := ⟨.int .u8, 1, 1, .int .u8 0, false⟩
/-- 6: abi.BoundsErrorCode -/
def ti6 : TI := ⟨.int .u8, 1, 1, .int .u8 0, false⟩
/-- 7: struct ( x int64; y int; signed bool; code abi.BoundsErrorCode ) -/
def ti7 : TI := ⟨.struct [(0, 2), (1, 3), (2, 4), (3, 6)], 4, 24, .agg [.int .i64 0, .int .i64 0, .bool false, .int .u8 0], true⟩
/-- 8: runtime.boundsError -/
def ti8 : TI := ⟨.struct [(0, 2), (1, 3), (2, 4), (3, 6)], 4, 24, .agg [.int .i64 0, .int .i64 0, .bool false, .int .u8 0], true⟩
/-- 9: string -/
def ti9 : TI := ⟨.string, 1, 16, .str [], false⟩
/-- 10: runtime.errorString -/
def ti10 : TI := ⟨.string, 1, 16, .str [], false⟩
/-- 11: runtime.plainError -/
def ti11 : TI := ⟨.string, 1, 16, .str [], false⟩
/-- 12: uintptr -/
def ti12 : TI := ⟨.int .u64, 1, 8, .int .u64 0, false⟩
/-- 13: struct ( msg string; addr uintptr ) -/
def ti13 : TI := ⟨.struct [(0, 9), (1, 12)], 2, 24, .agg [.str [], .int .u64 0], false⟩
/-- 14: runtime.errorAddressString -/
def ti14 : TI := ⟨.struct [(0, 9), (1, 12)], 2, 24, .agg [.str [], .int .u64 0], false⟩
/-- 15: *runtime.TypeAssertionError -/
def ti15 : TI := ⟨.pointer 42, 1, 8, .nilp, false⟩
/-- 16: *runtime.PanicNilError -/
def ti16 : TI := ⟨.pointer 45, 1, 8, .nilp, false⟩
/-- 17: *abi.Type -/
def ti17 : TI := ⟨.pointer 55, 1, 8, .nilp, false⟩
/-- 18: struct ( typ *abi.Type ) -/
def ti18 : TI := ⟨.struct [(0, 17)], 1, 8, .agg [.nilp], false⟩
/-- 19: maps.unhashableTypeError -/
def ti19 : TI := ⟨.struct [(0, 17)], 1, 8, .agg [.nilp], false⟩
/-- 20: interface () -/
def ti20 : TI := ⟨.iface, 1, 16, .nili, false⟩
/-- 21: int32 -/
def ti21 : TI := ⟨.int .i32, 1, 4, .int .i32 0, false⟩
/-- 22: []uint8 -/
def ti22 : TI := ⟨.slice 5, 1, 24, .nils, false⟩
/-- 23: func() bool -/
def ti23 : TI := ⟨.func, 1, 8, .nilf, false⟩
/-- 24: *rate.Rate -/
def ti24 : TI := ⟨.pointer 34, 1, 8, .nilp, false⟩
/-- 25: func() *rate.Rate -/
def ti25 : TI := ⟨.func, 1, 8, .nilf, false⟩
/-- 26: []int64 -/
def ti26 : TI := ⟨.slice 2, 1, 24, .nils, false⟩
/-- 27: func(string, int64) bool -/
def ti27 : TI := ⟨.func, 1, 8, .nilf, false⟩
/-- 28: func([]uint8) bool -/
def ti28 : TI := ⟨.func, 1, 8, .nilf, false⟩
/-- 29: func(uint8) string -/
def ti29 : TI := ⟨.func, 1, 8, .nilf, false⟩
/-- 30: func(string, int64) int -/
def ti30 : TI := ⟨.func, 1, 8, .nilf, false⟩
/-- 31: func(uint8, uint8, uint8) bool -/
def ti31 : TI := ⟨.func, 1, 8, .nilf, false⟩
/-- 32: map[string]*rate.name -/
def ti32 : TI := ⟨.map 9 35, 1, 8, .nilm, false⟩
/-- 33: struct ( l map[string]*rate.name ) -/
def ti33 : TI := ⟨.struct [(0, 32)], 1, 8, .agg [.nilm], false⟩
/-- 34: rate.Rate -/
def ti34 : TI := ⟨.struct [(0, 32)], 1, 8, .agg [.nilm], false⟩
/-- 35: *rate.name -/
def ti35 : TI := ⟨.pointer 38, 1, 8, .nilp, false⟩
/-- 36: func(string, int64) *rate.name -/
def ti36 : TI := ⟨.func, 1, 8, .nilf, false⟩
/-- 37: struct ( have int; since int64; last int64 ) -/
def ti37 : TI := ⟨.struct [(0, 3), (1, 2), (2, 2)], 3, 24, .agg [.int .i64 0, .int .i64 0, .int .i64 0], true⟩
/-- 38: rate.name -/
def ti38 : TI := ⟨.struct [(0, 3), (1, 2), (2, 2)], 3, 24, .agg [.int .i64 0, .int .i64 0, .int .i64 0], true⟩
/-- 39: []string -/
def ti39 : TI := ⟨.slice 9, 1, 24, .nils, false⟩
/-- 40: func() string -/
def ti40 : TI := ⟨.func, 1, 8, .nilf, false⟩
/-- 41: struct ( _interface *abi.Type; concrete *abi.Type; asserted *abi.Type; missingMethod string ) -/
def ti41 : TI := ⟨.struct [(0, 17), (1, 17), (2, 17), (3, 9)], 4, 40, .agg [.nilp, .nilp, .nilp, .str []], false⟩
/-- 42: runtime.TypeAssertionError -/
def ti42 : TI := ⟨.struct [(0, 17), (1, 17), (2, 17), (3, 9)], 4, 40, .agg [.nilp, .nilp, .nilp, .str []], false⟩
/-- 43: [0]*runtime.PanicNilError -/
def ti43 : TI := ⟨.array 0 16, 0, 0, .vec 1 0 (fun _ => .nilp), false⟩
/-- 44: struct ( _ [0]*runtime.PanicNilError ) -/
def ti44 : TI := ⟨.struct [(0, 43)], 0, 0, .agg [.vec 1 0 (fun _ => .nilp)], false⟩
/-- 45: runtime.PanicNilError -/
def ti45 : TI := ⟨.struct [(0, 43)], 0, 0, .agg [.vec 1 0 (fun _ => .nilp)], false⟩
/-- 46: func() int -/
def ti46 : TI := ⟨.func, 1, 8, .nilf, false⟩
/-- 47: uint32 -/
def ti47 : TI := ⟨.int .u32, 1, 4, .int .u32 0, false⟩
/-- 48: abi.TFlag -/
def ti48 : TI := ⟨.int .u8, 1, 1, .int .u8 0, false⟩
/-- 49: abi.Kind -/
def ti49 : TI := ⟨.int .u8, 1, 1, .int .u8 0, false⟩
/-- 50: func(unsafe.Pointer, unsafe.Pointer) bool -/
def ti50 : TI := ⟨.func, 1, 8, .nilf, false⟩
/-- 51: *uint8 -/
def ti51 : TI := ⟨.pointer 5, 1, 8, .nilp, false⟩
/-- 52: abi.NameOff -/
def ti52 : TI := ⟨.int .i32, 1, 4, .int .i32 0, false⟩
/-- 53: abi.TypeOff -/
def ti53 : TI := ⟨.int .i32, 1, 4, .int .i32 0, false⟩
/-- 54: struct ( Size_ uintptr; PtrBytes uintptr; Hash uint32; TFlag abi.TFlag; Align_ uint8; FieldAlign_ uint8; Kind_ abi.Kind; Equal func(unsafe.Pointer, unsafe.Pointer) bool; GCData *uint8; Str abi.NameOff; PtrToThis abi.TypeOff ) -/
def ti54 : TI := ⟨.struct [(0, 12), (1, 12), (2, 47), (3, 48), (4, 5), (5, 5), (6, 49), (7, 50), (8, 51), (9, 52), (10, 53)], 11, 48, .agg [.int .u64 0, .int .u64 0, .int .u32 0, .int .u8 0, .int .u8 0, .int .u8 0, .int .u8 0, .nilf, .nilp, .int .i32 0, .int .i32 0], false⟩
/-- 55: abi.Type -/
def ti55 : TI := ⟨.struct [(0, 12), (1, 12), (2, 47), (3, 48), (4, 5), (5, 5), (6, 49), (7, 50), (8, 51), (9, 52), (10, 53)], 11, 48, .agg [.int .u64 0, .int .u64 0, .int .u32 0, .int .u8 0, .int .u8 0, .int .u8 0, .int .u8 0, .nilf, .nilp, .int .i32 0, .int .i32 0], false⟩
/-- 56: unsafe.Pointer -/
def ti56 : TI := ⟨.other, 1, 8, .any, false⟩
def tabL : List TI := [ti0, ti1, ti2, ti3, ti4, ti5, ti6, ti7, ti8, ti9, ti10, ti11, ti12, ti13, ti14, ti15, ti16, ti17, ti18, ti19, ti20, ti21, ti22, ti23, ti24, ti25, ti26, ti27, ti28, ti29, ti30, ti31, ti32, ti33, ti34, ti35, ti36, ti37, ti38, ti39, ti40, ti41, ti42, ti43, ti44, ti45, ti46, ti47, ti48, ti49, ti50, ti51, ti52, ti53, ti54, ti55, ti56]
theorem tabOK : TabOK Try.prog tabL := TabOK.of_chk (by kernel_rfl)
/-- Sums of ints: exact, where they fit. -/
def T : Tab := { l := tabL }
/-- Sums of ints: as they wrap. -/
def Tw : Tab := { l := tabL, nowrap := false }
theorem TOK : TabOK Try.prog T.l := tabOK
theorem TwOK : TabOK Try.prog Tw.l := tabOK
end Go.Proofs.Ytgnfgjlfmmpalaa
