/- The table of the program's types, as 'VX' wants it; printed by a program of this session from the program's form in Lean; checked here by counting out. -/
import Derived.Test.YtjcfggnmoeochaaProg
import Derived.KernelRfl
import Derived.Test.YtjcfggnmoeochaaVxI
namespace Go.Proofs.Ytjcfggnmoeochaa
open VX
/-- 0: () -/
def ti0 : TI := ⟨.other, 1, 0, .any, false⟩
/-- 1: func() -/
def ti1 : TI := ⟨.func, 1, 8, .nilf, false⟩
/-- 2: int64 -/
def ti2 : TI := ⟨.int .i64, 1, 8, .int .i64 0, false⟩
/-- 3: int -/
def ti3 : TI := ⟨.int .i64, 1, 8, .int .i64 0, false⟩
/-- 4: bool -/
def ti4 : TI := ⟨.bool, 1, 1, .bool false, false⟩
/-- 5: uint8 -/
def ti5 : TI := ⟨.int .u8, 1, 1, .int .u8 0, false⟩
/-- 6: abi.BoundsErrorCode -/
def ti6 : TI := ⟨.int .u8, 1, 1, .int .u8 0, false⟩
/-- 7: struct ( x int64; y int; signed bool; code abi.BoundsErrorCode ) -/
def ti7 : TI := ⟨.struct [(0, 2), (1, 3), (2, 4), (3, 6)], 4, 24, .agg [.int .i64 0, .int .i64 0, .bool false, .int .u8 0], true⟩
/-- 8: runtime.boundsError -/
def ti8 : TI := ⟨.struct [(0, 2), (1, 3), (2, 4), (3, 6)], 4, 24, .agg [.int .i64 0, .int .i64 0, .bool false, .int .u8 0], true⟩
/-- 9: string -/
def ti9 : TI := ⟨.string, 1, 16, .str [], false⟩
/-- 10: runtime.errorString -/
def ti10 : TI := ⟨.string, 1, 16, .str [], false⟩
/-- 11: runtime.plainError -/
def ti11 : TI := ⟨.string, 1, 16, .str [], false⟩
/-- 12: uintptr -/
def ti12 : TI := ⟨.int .u64, 1, 8, .int .u64 0, false⟩
/-- 13: struct ( msg string; addr uintptr ) -/
def ti13 : TI := ⟨.struct [(0, 9), (1, 12)], 2, 24, .agg [.str [], .int .u64 0], false⟩
/-- 14: runtime.errorAddressString -/
def ti14 : TI := ⟨.struct [(0, 9), (1, 12)], 2, 24, .agg [.str [], .int .u64 0], false⟩
/-- 15: *runtime.TypeAssertionError -/
def ti15 : TI := ⟨.pointer 53, 1, 8, .nilp, false⟩
/-- 16: *runtime.PanicNilError -/
def ti16 : TI := ⟨.pointer 56, 1, 8, .nilp, false⟩
/-- 17: *abi.Type -/
def ti17 : TI := ⟨.pointer 66, 1, 8, .nilp, false⟩
/-- 18: struct ( typ *abi.Type ) -/
def ti18 : TI := ⟨.struct [(0, 17)], 1, 8, .agg [.nilp], false⟩
/-- 19: maps.unhashableTypeError -/
def ti19 : TI := ⟨.struct [(0, 17)], 1, 8, .agg [.nilp], false⟩
/-- 20: interface () -/
def ti20 : TI := ⟨.iface, 1, 16, .nili, false⟩
/-- 21: int32 -/
def ti21 : TI := ⟨.int .i32, 1, 4, .int .i32 0, false⟩
/-- 22: []uint8 -/
def ti22 : TI := ⟨.slice 5, 1, 24, .nils, false⟩
/-- 23: []string -/
def ti23 : TI := ⟨.slice 9, 1, 24, .nils, false⟩
/-- 24: func() bool -/
def ti24 : TI := ⟨.func, 1, 8, .nilf, false⟩
/-- 25: *fair.Fair -/
def ti25 : TI := ⟨.pointer 39, 1, 8, .nilp, false⟩
/-- 26: func() *fair.Fair -/
def ti26 : TI := ⟨.func, 1, 8, .nilf, false⟩
/-- 27: *postmarkref16.Fair -/
def ti27 : TI := ⟨.pointer 29, 1, 8, .nilp, false⟩
/-- 28: struct ( L []string ) -/
def ti28 : TI := ⟨.struct [(0, 23)], 1, 24, .agg [.nils], false⟩
/-- 29: postmarkref16.Fair -/
def ti29 : TI := ⟨.struct [(0, 23)], 1, 24, .agg [.nils], false⟩
/-- 30: func(uint8) string -/
def ti30 : TI := ⟨.func, 1, 8, .nilf, false⟩
/-- 31: func(string) -/
def ti31 : TI := ⟨.func, 1, 8, .nilf, false⟩
/-- 32: func(string) int -/
def ti32 : TI := ⟨.func, 1, 8, .nilf, false⟩
/-- 33: func([]string) []string -/
def ti33 : TI := ⟨.func, 1, 8, .nilf, false⟩
/-- 34: func([]string, []string) bool -/
def ti34 : TI := ⟨.func, 1, 8, .nilf, false⟩
/-- 35: func([]uint8, []string) bool -/
def ti35 : TI := ⟨.func, 1, 8, .nilf, false⟩
/-- 36: func(uint8, uint8) bool -/
def ti36 : TI := ⟨.func, 1, 8, .nilf, false⟩
/-- 37: map[string]int -/
def ti37 : TI := ⟨.map 9 3, 1, 8, .nilm, false⟩
/-- 38: struct ( l map[string]int ) -/
def ti38 : TI := ⟨.struct [(0, 37)], 1, 8, .agg [.nilm], false⟩
/-- 39: fair.Fair -/
def ti39 : TI := ⟨.struct [(0, 37)], 1, 8, .agg [.nilm], false⟩
/-- 40: func([]string, func(string, string) int) -/
def ti40 : TI := ⟨.func, 1, 8, .nilf, false⟩
/-- 41: func(...int) int -/
def ti41 : TI := ⟨.func, 1, 8, .nilf, false⟩
/-- 42: func(int, int) int -/
def ti42 : TI := ⟨.func, 1, 8, .nilf, false⟩
/-- 43: func(string, string) int -/
def ti43 : TI := ⟨.func, 1, 8, .nilf, false⟩
/-- 44: func([]string, int, func(string, string) int) -/
def ti44 : TI := ⟨.func, 1, 8, .nilf, false⟩
/-- 45: []int -/
def ti45 : TI := ⟨.slice 3, 1, 24, .nils, false⟩
/-- 46: func(int) bool -/
def ti46 : TI := ⟨.func, 1, 8, .nilf, false⟩
/-- 47: func(string) bool -/
def ti47 : TI := ⟨.func, 1, 8, .nilf, false⟩
/-- 48: func([]string, int, int, func(string, string) int) -/
def ti48 : TI := ⟨.func, 1, 8, .nilf, false⟩
/-- 49: func([]string, int, int, int, func(string, string) int) -/
def ti49 : TI := ⟨.func, 1, 8, .nilf, false⟩
/-- 50: uint -/
def ti50 : TI := ⟨.int .u64, 1, 8, .int .u64 0, false⟩
/-- 51: func() string -/
def ti51 : TI := ⟨.func, 1, 8, .nilf, false⟩
/-- 52: struct ( _interface *abi.Type; concrete *abi.Type; asserted *abi.Type; missingMethod string ) -/
def ti52 : TI := ⟨.struct [(0, 17), (1, 17), (2, 17), (3, 9)], 4, 40, .agg [.nilp, .nilp, .nilp, .str []], false⟩
/-- 53: runtime.TypeAssertionError -/
def ti53 : TI := ⟨.struct [(0, 17), (1, 17), (2, 17), (3, 9)], 4, 40, .agg [.nilp, .nilp, .nilp, .str []], false⟩
/-- 54: [0]*runtime.PanicNilError -/
def ti54 : TI := ⟨.array 0 16, 0, 0, .vec 1 0 (fun _ => .nilp), false⟩
/-- 55: struct ( _ [0]*runtime.PanicNilError ) -/
def ti55 : TI := ⟨.struct [(0, 54)], 0, 0, .agg [.vec 1 0 (fun _ => .nilp)], false⟩
/-- 56: runtime.PanicNilError -/
def ti56 : TI := ⟨.struct [(0, 54)], 0, 0, .agg [.vec 1 0 (fun _ => .nilp)], false⟩
/-- 57: func() int -/
def ti57 : TI := ⟨.func, 1, 8, .nilf, false⟩
/-- 58: uint32 -/
def ti58 : TI := ⟨.int .u32, 1, 4, .int .u32 0, false⟩
/-- 59: abi.TFlag -/
def ti59 : TI := ⟨.int .u8, 1, 1, .int .u8 0, false⟩
/-- 60: abi.Kind -/
def ti60 : TI := ⟨.int .u8, 1, 1, .int .u8 0, false⟩
/-- 61: func(unsafe.Pointer, unsafe.Pointer) bool -/
def ti61 : TI := ⟨.func, 1, 8, .nilf, false⟩
/-- 62: *uint8 -/
def ti62 : TI := ⟨.pointer 5, 1, 8, .nilp, false⟩
/-- 63: abi.NameOff -/
def ti63 : TI := ⟨.int .i32, 1, 4, .int .i32 0, false⟩
/-- 64: abi.TypeOff -/
def ti64 : TI := ⟨.int .i32, 1, 4, .int .i32 0, false⟩
/-- 65: struct ( Size_ uintptr; PtrBytes uintptr; Hash uint32; TFlag abi.TFlag; Align_ uint8; FieldAlign_ uint8; Kind_ abi.Kind; Equal func(unsafe.Pointer, unsafe.Pointer) bool; GCData *uint8; Str abi.NameOff; PtrToThis abi.TypeOff ) -/
def ti65 : TI := ⟨.struct [(0, 12), (1, 12), (2, 58), (3, 59), (4, 5), (5, 5), (6, 60), (7, 61), (8, 62), (9, 63), (10, 64)], 11, 48, .agg [.int .u64 0, .int .u64 0, .int .u32 0, .int .u8 0, .int .u8 0, .int .u8 0, .int .u8 0, .nilf, .nilp, .int .i32 0, .int .i32 0], false⟩
/-- 66: abi.Type -/
def ti66 : TI := ⟨.struct [(0, 12), (1, 12), (2, 58), (3, 59), (4, 5), (5, 5), (6, 60), (7, 61), (8, 62), (9, 63), (10, 64)], 11, 48, .agg [.int .u64 0, .int .u64 0, .int .u32 0, .int .u8 0, .int .u8 0, .int .u8 0, .int .u8 0, .nilf, .nilp, .int .i32 0, .int .i32 0], false⟩
/-- 67: unsafe.Pointer -/
def ti67 : TI := ⟨.other, 1, 8, .any, false⟩
def tabL : List TI := [ti0, ti1, ti2, ti3, ti4, ti5, ti6, ti7, ti8, ti9, ti10, ti11, ti12, ti13, ti14, ti15, ti16, ti17, ti18, ti19, ti20, ti21, ti22, ti23, ti24, ti25, ti26, ti27, ti28, ti29, ti30, ti31, ti32, ti33, ti34, ti35, ti36, ti37, ti38, ti39, ti40, ti41, ti42, ti43, ti44, ti45, ti46, ti47, ti48, ti49, ti50, ti51, ti52, ti53, ti54, ti55, ti56, ti57, ti58, ti59, ti60, ti61, ti62, ti63, ti64, ti65, ti66, ti67]
theorem tabOK : TabOK Try.prog tabL := TabOK.of_chk (by kernel_rfl)
/-- Sums of ints: exact, where they fit. -/
def T : Tab := { l := tabL }
/-- Sums of ints: as they wrap. -/
def Tw : Tab := { l := tabL, nowrap := false }
theorem TOK : TabOK Try.prog T.l := tabOK
theorem TwOK : TabOK Try.prog Tw.l := tabOK
end Go.Proofs.Ytjcfggnmoeochaa
