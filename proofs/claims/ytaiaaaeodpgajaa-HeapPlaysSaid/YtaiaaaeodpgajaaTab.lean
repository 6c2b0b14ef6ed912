/- The table of the program's types, as 'VX' wants it; printed by a program of this session from the program's form in Lean; checked here by counting out. -/
import Derived.Test.YtaiaaaeodpgajaaProg
import Derived.KernelRfl
import Derived.Test.YtaiaaaeodpgajaaVxI
namespace Go.Proofs.Ytaiaaaeodpgajaa
open VX
/-- 0: () -/
def ti0 : TI := ⟨.other, 1, 0, .any, false⟩
/-- 1: func() -/
def ti1 : TI := ⟨.func, 1, 8, .nilf, false⟩
/-- 2: int64 -/
def ti2 : TI := ⟨.int .i64, 1, 8, .int .i64 0, false⟩
/-- 3: int -/
def ti3 : TI := ⟨.int .i64, 1, 8, .int .i64 0, false⟩
/-- 4: bool -/
def ti4 : TI := ⟨.bool, 1, 1, .bool false, false⟩
/-- 5: uint8 -/
def ti5 : TI := ⟨.int .u8, 1, 1, .int .u8 0, false⟩
/-- 6: abi.BoundsErrorCode -/
def ti6 : TI := ⟨.int .u8, 1, 1, .int .u8 0, false⟩
/-- 7: struct ( x int64; y int; signed bool; code abi.BoundsErrorCode ) -/
def ti7 : TI := ⟨.struct [(0, 2), (1, 3), (2, 4), (3, 6)], 4, 24, .agg [.int .i64 0, .int .i64 0, .bool false, .int .u8 0], true⟩
/-- 8: runtime.boundsError -/
def ti8 : TI := ⟨.struct [(0, 2), (1, 3), (2, 4), (3, 6)], 4, 24, .agg [.int .i64 0, .int .i64 0, .bool false, .int .u8 0], true⟩
/-- 9: string -/
def ti9 : TI := ⟨.string, 1, 16, .str [], false⟩
/-- 10: runtime.errorString -/
def ti10 : TI := ⟨.string, 1, 16, .str [], false⟩
/-- 11: runtime.plainError -/
def ti11 : TI := ⟨.string, 1, 16, .str [], false⟩
/-- 12: uintptr -/
def ti12 : TI := ⟨.int .u64, 1, 8, .int .u64 0, false⟩
/-- 13: struct ( msg string; addr uintptr ) -/
def ti13 : TI := ⟨.struct [(0, 9), (1, 12)], 2, 24, .agg [.str [], .int .u64 0], false⟩
/-- 14: runtime.errorAddressString -/
def ti14 : TI := ⟨.struct [(0, 9), (1, 12)], 2, 24, .agg [.str [], .int .u64 0], false⟩
/-- 15: *runtime.TypeAssertionError -/
def ti15 : TI := ⟨.pointer 83, 1, 8, .nilp, false⟩
/-- 16: *runtime.PanicNilError -/
def ti16 : TI := ⟨.pointer 86, 1, 8, .nilp, false⟩
/-- 17: *abi.Type -/
def ti17 : TI := ⟨.pointer 95, 1, 8, .nilp, false⟩
/-- 18: struct ( typ *abi.Type ) -/
def ti18 : TI := ⟨.struct [(0, 17)], 1, 8, .agg [.nilp], false⟩
/-- 19: maps.unhashableTypeError -/
def ti19 : TI := ⟨.struct [(0, 17)], 1, 8, .agg [.nilp], false⟩
/-- 20: interface () -/
def ti20 : TI := ⟨.iface, 1, 16, .nili, false⟩
/-- 21: int32 -/
def ti21 : TI := ⟨.int .i32, 1, 4, .int .i32 0, false⟩
/-- 22: []postmarklaw20.Act -/
def ti22 : TI := ⟨.slice 30, 1, 24, .nils, false⟩
/-- 23: func() bool -/
def ti23 : TI := ⟨.func, 1, 8, .nilf, false⟩
/-- 24: *heap.Heap -/
def ti24 : TI := ⟨.pointer 51, 1, 8, .nilp, false⟩
/-- 25: func() *heap.Heap -/
def ti25 : TI := ⟨.func, 1, 8, .nilf, false⟩
/-- 26: []postmarkref16.Due -/
def ti26 : TI := ⟨.slice 35, 1, 24, .nils, false⟩
/-- 27: struct ( At int64; Class int; Rank int; Name string ) -/
def ti27 : TI := ⟨.struct [(0, 2), (1, 3), (2, 3), (3, 9)], 4, 40, .agg [.int .i64 0, .int .i64 0, .int .i64 0, .str []], true⟩
/-- 28: heap.Due -/
def ti28 : TI := ⟨.struct [(0, 2), (1, 3), (2, 3), (3, 9)], 4, 40, .agg [.int .i64 0, .int .i64 0, .int .i64 0, .str []], true⟩
/-- 29: struct ( What uint8; D heap.Due ) -/
def ti29 : TI := ⟨.struct [(0, 5), (1, 28)], 5, 48, .agg [.int .u8 0, .agg [.int .i64 0, .int .i64 0, .int .i64 0, .str []]], true⟩
/-- 30: postmarklaw20.Act -/
def ti30 : TI := ⟨.struct [(0, 5), (1, 28)], 5, 48, .agg [.int .u8 0, .agg [.int .i64 0, .int .i64 0, .int .i64 0, .str []]], true⟩
/-- 31: []string -/
def ti31 : TI := ⟨.slice 9, 1, 24, .nils, false⟩
/-- 32: func(int, int) int -/
def ti32 : TI := ⟨.func, 1, 8, .nilf, false⟩
/-- 33: func(heap.Due) -/
def ti33 : TI := ⟨.func, 1, 8, .nilf, false⟩
/-- 34: func([]postmarkref16.Due) []postmarkref16.Due -/
def ti34 : TI := ⟨.func, 1, 8, .nilf, false⟩
/-- 35: postmarkref16.Due -/
def ti35 : TI := ⟨.struct [(0, 2), (1, 3), (2, 3), (3, 9)], 4, 40, .agg [.int .i64 0, .int .i64 0, .int .i64 0, .str []], true⟩
/-- 36: func(heap.Due) postmarkref16.Due -/
def ti36 : TI := ⟨.func, 1, 8, .nilf, false⟩
/-- 37: (heap.Due, bool) -/
def ti37 : TI := ⟨.other, 1, 0, .any, false⟩
/-- 38: func() (heap.Due, bool) -/
def ti38 : TI := ⟨.func, 1, 8, .nilf, false⟩
/-- 39: func(string) int -/
def ti39 : TI := ⟨.func, 1, 8, .nilf, false⟩
/-- 40: func() int -/
def ti40 : TI := ⟨.func, 1, 8, .nilf, false⟩
/-- 41: func([]postmarklaw20.Act) bool -/
def ti41 : TI := ⟨.func, 1, 8, .nilf, false⟩
/-- 42: []heap.Due -/
def ti42 : TI := ⟨.slice 28, 1, 24, .nils, false⟩
/-- 43: func(heap.Due, heap.Due) bool -/
def ti43 : TI := ⟨.func, 1, 8, .nilf, false⟩
/-- 44: func(postmarkref16.Due, postmarkref16.Due) bool -/
def ti44 : TI := ⟨.func, 1, 8, .nilf, false⟩
/-- 45: func([]heap.Due) []heap.Due -/
def ti45 : TI := ⟨.func, 1, 8, .nilf, false⟩
/-- 46: func(heap.Due, heap.Due, heap.Due, []heap.Due) bool -/
def ti46 : TI := ⟨.func, 1, 8, .nilf, false⟩
/-- 47: func([]heap.Due) bool -/
def ti47 : TI := ⟨.func, 1, 8, .nilf, false⟩
/-- 48: func([]heap.Due, string) bool -/
def ti48 : TI := ⟨.func, 1, 8, .nilf, false⟩
/-- 49: heap.items -/
def ti49 : TI := ⟨.slice 28, 1, 24, .nils, false⟩
/-- 50: struct ( l heap.items ) -/
def ti50 : TI := ⟨.struct [(0, 49)], 1, 24, .agg [.nils], false⟩
/-- 51: heap.Heap -/
def ti51 : TI := ⟨.struct [(0, 49)], 1, 24, .agg [.nils], false⟩
/-- 52: func(heap.Interface, interface ()) -/
def ti52 : TI := ⟨.func, 1, 8, .nilf, false⟩
/-- 53: *heap.items -/
def ti53 : TI := ⟨.pointer 49, 1, 8, .nilp, false⟩
/-- 54: func(heap.Interface) interface () -/
def ti54 : TI := ⟨.func, 1, 8, .nilf, false⟩
/-- 55: func(heap.items, func(heap.Due) bool) heap.items -/
def ti55 : TI := ⟨.func, 1, 8, .nilf, false⟩
/-- 56: func(heap.Due) bool -/
def ti56 : TI := ⟨.func, 1, 8, .nilf, false⟩
/-- 57: func(heap.Interface) -/
def ti57 : TI := ⟨.func, 1, 8, .nilf, false⟩
/-- 58: func(heap.Due) int -/
def ti58 : TI := ⟨.func, 1, 8, .nilf, false⟩
/-- 59: func([]heap.Due, func(heap.Due, heap.Due) int) -/
def ti59 : TI := ⟨.func, 1, 8, .nilf, false⟩
/-- 60: func(heap.Due, heap.Due) int -/
def ti60 : TI := ⟨.func, 1, 8, .nilf, false⟩
/-- 61: interface ( Len() int; Less(int, int) bool; Pop() interface (); Push(interface ()); Swap(int, int) ) -/
def ti61 : TI := ⟨.iface, 1, 16, .nili, false⟩
/-- 62: heap.Interface -/
def ti62 : TI := ⟨.iface, 1, 16, .nili, false⟩
/-- 63: func(interface ()) -/
def ti63 : TI := ⟨.func, 1, 8, .nilf, false⟩
/-- 64: func(heap.Interface, int) -/
def ti64 : TI := ⟨.func, 1, 8, .nilf, false⟩
/-- 65: func(int, int) -/
def ti65 : TI := ⟨.func, 1, 8, .nilf, false⟩
/-- 66: func(heap.Interface, int, int) bool -/
def ti66 : TI := ⟨.func, 1, 8, .nilf, false⟩
/-- 67: func() interface () -/
def ti67 : TI := ⟨.func, 1, 8, .nilf, false⟩
/-- 68: func(heap.items, func(heap.Due) bool) int -/
def ti68 : TI := ⟨.func, 1, 8, .nilf, false⟩
/-- 69: func(...int) int -/
def ti69 : TI := ⟨.func, 1, 8, .nilf, false⟩
/-- 70: func(int64, int64) int -/
def ti70 : TI := ⟨.func, 1, 8, .nilf, false⟩
/-- 71: func(string, string) int -/
def ti71 : TI := ⟨.func, 1, 8, .nilf, false⟩
/-- 72: func([]heap.Due, int, func(heap.Due, heap.Due) int) -/
def ti72 : TI := ⟨.func, 1, 8, .nilf, false⟩
/-- 73: func(int, int) bool -/
def ti73 : TI := ⟨.func, 1, 8, .nilf, false⟩
/-- 74: []int -/
def ti74 : TI := ⟨.slice 3, 1, 24, .nils, false⟩
/-- 75: func(int64) bool -/
def ti75 : TI := ⟨.func, 1, 8, .nilf, false⟩
/-- 76: func(int) bool -/
def ti76 : TI := ⟨.func, 1, 8, .nilf, false⟩
/-- 77: func(string) bool -/
def ti77 : TI := ⟨.func, 1, 8, .nilf, false⟩
/-- 78: func([]heap.Due, int, int, func(heap.Due, heap.Due) int) -/
def ti78 : TI := ⟨.func, 1, 8, .nilf, false⟩
/-- 79: func([]heap.Due, int, int, int, func(heap.Due, heap.Due) int) -/
def ti79 : TI := ⟨.func, 1, 8, .nilf, false⟩
/-- 80: uint -/
def ti80 : TI := ⟨.int .u64, 1, 8, .int .u64 0, false⟩
/-- 81: func() string -/
def ti81 : TI := ⟨.func, 1, 8, .nilf, false⟩
/-- 82: struct ( _interface *abi.Type; concrete *abi.Type; asserted *abi.Type; missingMethod string ) -/
def ti82 : TI := ⟨.struct [(0, 17), (1, 17), (2, 17), (3, 9)], 4, 40, .agg [.nilp, .nilp, .nilp, .str []], false⟩
/-- 83: runtime.TypeAssertionError -/
def ti83 : TI := ⟨.struct [(0, 17), (1, 17), (2, 17), (3, 9)], 4, 40, .agg [.nilp, .nilp, .nilp, .str []], false⟩
/-- 84: [0]*runtime.PanicNilError -/
def ti84 : TI := ⟨.array 0 16, 0, 0, .vec 1 0 (fun _ => .nilp), false⟩
/-- 85: struct ( _ [0]*runtime.PanicNilError ) -/
def ti85 : TI := ⟨.struct [(0, 84)], 0, 0, .agg [.vec 1 0 (fun _ => .nilp)], false⟩
/-- 86: runtime.PanicNilError -/
def ti86 : TI := ⟨.struct [(0, 84)], 0, 0, .agg [.vec 1 0 (fun _ => .nilp)], false⟩
/-- 87: uint32 -/
def ti87 : TI := ⟨.int .u32, 1, 4, .int .u32 0, false⟩
/-- 88: abi.TFlag -/
def ti88 : TI := ⟨.int .u8, 1, 1, .int .u8 0, false⟩
/-- 89: abi.Kind -/
def ti89 : TI := ⟨.int .u8, 1, 1, .int .u8 0, false⟩
/-- 90: func(unsafe.Pointer, unsafe.Pointer) bool -/
def ti90 : TI := ⟨.func, 1, 8, .nilf, false⟩
/-- 91: *uint8 -/
def ti91 : TI := ⟨.pointer 5, 1, 8, .nilp, false⟩
/-- 92: abi.NameOff -/
def ti92 : TI := ⟨.int .i32, 1, 4, .int .i32 0, false⟩
/-- 93: abi.TypeOff -/
def ti93 : TI := ⟨.int .i32, 1, 4, .int .i32 0, false⟩
/-- 94: struct ( Size_ uintptr; PtrBytes uintptr; Hash uint32; TFlag abi.TFlag; Align_ uint8; FieldAlign_ uint8; Kind_ abi.Kind; Equal func(unsafe.Pointer, unsafe.Pointer) bool; GCData *uint8; Str abi.NameOff; PtrToThis abi.TypeOff ) -/
def ti94 : TI := ⟨.struct [(0, 12), (1, 12), (2, 87), (3, 88), (4, 5), (5, 5), (6, 89), (7, 90), (8, 91), (9, 92), (10, 93)], 11, 48, .agg [.int .u64 0, .int .u64 0, .int .u32 0, .int .u8 0, .int .u8 0, .int .u8 0, .int .u8 0, .nilf, .nilp, .int .i32 0, .int .i32 0], false⟩
/-- 95: abi.Type -/
def ti95 : TI := ⟨.struct [(0, 12), (1, 12), (2, 87), (3, 88), (4, 5), (5, 5), (6, 89), (7, 90), (8, 91), (9, 92), (10, 93)], 11, 48, .agg [.int .u64 0, .int .u64 0, .int .u32 0, .int .u8 0, .int .u8 0, .int .u8 0, .int .u8 0, .nilf, .nilp, .int .i32 0, .int .i32 0], false⟩
/-- 96: unsafe.Pointer -/
def ti96 : TI := ⟨.other, 1, 8, .any, false⟩
def tabL : List TI := [ti0, ti1, ti2, ti3, ti4, ti5, ti6, ti7, ti8, ti9, ti10, ti11, ti12, ti13, ti14, ti15, ti16, ti17, ti18, ti19, ti20, ti21, ti22, ti23, ti24, ti25, ti26, ti27, ti28, ti29, ti30, ti31, ti32, ti33, ti34, ti35, ti36, ti37, ti38, ti39, ti40, ti41, ti42, ti43, ti44, ti45, ti46, ti47, ti48, ti49, ti50, ti51, ti52, ti53, ti54, ti55, ti56, ti57, ti58, ti59, ti60, ti61, ti62, ti63, ti64, ti65, ti66, ti67, ti68, ti69, ti70, ti71, ti72, ti73, ti74, ti75, ti76, ti77, ti78, ti79, ti80, ti81, ti82, ti83, ti84, ti85, ti86, ti87, ti88, ti89, ti90, ti91, ti92, ti93, ti94, ti95, ti96]
theorem tabOK : TabOK Try.prog tabL := TabOK.of_chk (by kernel_rfl)
/-- Sums of ints: exact, where they fit. -/
def T : Tab := { l := tabL }
/-- Sums of ints: as they wrap. -/
def Tw : Tab := { l := tabL, nowrap := false }
theorem TOK : TabOK Try.prog T.l := tabOK
theorem TwOK : TabOK Try.prog Tw.l := tabOK
end Go.Proofs.Ytaiaaaeodpgajaa
