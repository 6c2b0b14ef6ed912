/- The table of the program's types, as 'VX' wants it; printed by a program of this session from the program's form in Lean; checked here by counting out. -/
import Derived.Test.YthnmbpcdcjamoaaProg
import Derived.KernelRfl
import Derived.Test.YthnmbpcdcjamoaaVxI
namespace Go.Proofs.Ythnmbpcdcjamoaa
open VX
/-- 0: () -/
def ti0 : TI := ⟨.other, 1, 0, .any, false⟩
/-- 1: func() -/
def ti1 : TI := ⟨.func, 1, 8, .nilf, false⟩
/-- 2: int64 -/
def ti2 : TI := ⟨.int .i64, 1, 8, .int .i64 0, false⟩
/-- 3: int -/
def ti3 : TI := ⟨.int .i64, 1, 8, .int .i64 0, false⟩
/-- 4: bool -/
def ti4 : TI := ⟨.bool, 1, 1, .bool false, false⟩
/-- 5: uint8 -/
def ti5 : TI := ⟨.int .u8, 1, 1, .int .u8 0, false⟩
/-- 6: abi.BoundsErrorCode -/
def ti6 : TI := ⟨.int .u8, 1, 1, .int .u8 0, false⟩
/-- 7: struct ( x int64; y int; signed bool; code abi.BoundsErrorCode ) -/
def ti7 : TI := ⟨.struct [(0, 2), (1, 3), (2, 4), (3, 6)], 4, 24, .agg [.int .i64 0, .int .i64 0, .bool false, .int .u8 0], true⟩
/-- 8: runtime.boundsError -/
def ti8 : TI := ⟨.struct [(0, 2), (1, 3), (2, 4), (3, 6)], 4, 24, .agg [.int .i64 0, .int .i64 0, .bool false, .int .u8 0], true⟩
/-- 9: string -/
def ti9 : TI := ⟨.string, 1, 16, .str [], false⟩
/-- 10: runtime.errorString -/
def ti10 : TI := ⟨.string, 1, 16, .str [], false⟩
/-- 11: runtime.plainError -/
def ti11 : TI := ⟨.string, 1, 16, .str [], false⟩
/-- 12: uintptr -/
def ti12 : TI := ⟨.int .u64, 1, 8, .int .u64 0, false⟩
/-- 13: struct ( msg string; addr uintptr ) -/
def ti13 : TI := ⟨.struct [(0, 9), (1, 12)], 2, 24, .agg [.str [], .int .u64 0], false⟩
/-- 14: runtime.errorAddressString -/
def ti14 : TI := ⟨.struct [(0, 9), (1, 12)], 2, 24, .agg [.str [], .int .u64 0], false⟩
/-- 15: *runtime.TypeAssertionError -/
def ti15 : TI := ⟨.pointer 118, 1, 8, .nilp, false⟩
/-- 16: *runtime.PanicNilError -/
def ti16 : TI := ⟨.pointer 121, 1, 8, .nilp, false⟩
/-- 17: *abi.Type -/
def ti17 : TI := ⟨.pointer 130, 1, 8, .nilp, false⟩
/-- 18: struct ( typ *abi.Type ) -/
def ti18 : TI := ⟨.struct [(0, 17)], 1, 8, .agg [.nilp], false⟩
/-- 19: maps.unhashableTypeError -/
def ti19 : TI := ⟨.struct [(0, 17)], 1, 8, .agg [.nilp], false⟩
/-- 20: interface () -/
def ti20 : TI := ⟨.iface, 1, 16, .nili, false⟩
/-- 21: int32 -/
def ti21 : TI := ⟨.int .i32, 1, 4, .int .i32 0, false⟩
/-- 22: []uint8 -/
def ti22 : TI := ⟨.slice 5, 1, 24, .nils, false⟩
/-- 23: func() bool -/
def ti23 : TI := ⟨.func, 1, 8, .nilf, false⟩
/-- 24: *pool.Pool -/
def ti24 : TI := ⟨.pointer 71, 1, 8, .nilp, false⟩
/-- 25: func() *pool.Pool -/
def ti25 : TI := ⟨.func, 1, 8, .nilf, false⟩
/-- 26: []string -/
def ti26 : TI := ⟨.slice 9, 1, 24, .nils, false⟩
/-- 27: api.Errno -/
def ti27 : TI := ⟨.int .i64, 1, 8, .int .i64 0, false⟩
/-- 28: func(api.Update, int64, int64) api.Errno -/
def ti28 : TI := ⟨.func, 1, 8, .nilf, false⟩
/-- 29: uint64 -/
def ti29 : TI := ⟨.int .u64, 1, 8, .int .u64 0, false⟩
/-- 30: struct ( R uint64; S uint64 ) -/
def ti30 : TI := ⟨.struct [(0, 29), (1, 29)], 2, 16, .agg [.int .u64 0, .int .u64 0], true⟩
/-- 31: api.Sig -/
def ti31 : TI := ⟨.struct [(0, 29), (1, 29)], 2, 16, .agg [.int .u64 0, .int .u64 0], true⟩
/-- 32: struct ( Name string; Version int; Key uint64; Class int; Sig api.Sig ) -/
def ti32 : TI := ⟨.struct [(0, 9), (1, 3), (2, 29), (3, 3), (4, 31)], 6, 56, .agg [.str [], .int .i64 0, .int .u64 0, .int .i64 0, .agg [.int .u64 0, .int .u64 0]], true⟩
/-- 33: api.Update -/
def ti33 : TI := ⟨.struct [(0, 9), (1, 3), (2, 29), (3, 3), (4, 31)], 6, 56, .agg [.str [], .int .i64 0, .int .u64 0, .int .i64 0, .agg [.int .u64 0, .int .u64 0]], true⟩
/-- 34: []api.Pending -/
def ti34 : TI := ⟨.slice 39, 1, 24, .nils, false⟩
/-- 35: func() []api.Pending -/
def ti35 : TI := ⟨.func, 1, 8, .nilf, false⟩
/-- 36: func(*fair.Fair, int) []api.Pending -/
def ti36 : TI := ⟨.func, 1, 8, .nilf, false⟩
/-- 37: func() int -/
def ti37 : TI := ⟨.func, 1, 8, .nilf, false⟩
/-- 38: struct ( Update api.Update; Tick int64; Seq int64; Synced bool ) -/
def ti38 : TI := ⟨.struct [(0, 33), (6, 2), (7, 2), (8, 4)], 9, 80, .agg [.agg [.str [], .int .i64 0, .int .u64 0, .int .i64 0, .agg [.int .u64 0, .int .u64 0]], .int .i64 0, .int .i64 0, .bool false], true⟩
/-- 39: api.Pending -/
def ti39 : TI := ⟨.struct [(0, 33), (6, 2), (7, 2), (8, 4)], 9, 80, .agg [.agg [.str [], .int .i64 0, .int .u64 0, .int .i64 0, .agg [.int .u64 0, .int .u64 0]], .int .i64 0, .int .i64 0, .bool false], true⟩
/-- 40: (int64, bool) -/
def ti40 : TI := ⟨.other, 1, 0, .any, false⟩
/-- 41: func() (int64, bool) -/
def ti41 : TI := ⟨.func, 1, 8, .nilf, false⟩
/-- 42: func([]uint8, uint8) bool -/
def ti42 : TI := ⟨.func, 1, 8, .nilf, false⟩
/-- 43: func(string, int) bool -/
def ti43 : TI := ⟨.func, 1, 8, .nilf, false⟩
/-- 44: func([]uint8, []uint8) bool -/
def ti44 : TI := ⟨.func, 1, 8, .nilf, false⟩
/-- 45: func(uint8, uint8, uint8) bool -/
def ti45 : TI := ⟨.func, 1, 8, .nilf, false⟩
/-- 46: func([]api.Pending) -/
def ti46 : TI := ⟨.func, 1, 8, .nilf, false⟩
/-- 47: func([]uint8) []api.Pending -/
def ti47 : TI := ⟨.func, 1, 8, .nilf, false⟩
/-- 48: *fair.Fair -/
def ti48 : TI := ⟨.pointer 88, 1, 8, .nilp, false⟩
/-- 49: func() *fair.Fair -/
def ti49 : TI := ⟨.func, 1, 8, .nilf, false⟩
/-- 50: func(string) -/
def ti50 : TI := ⟨.func, 1, 8, .nilf, false⟩
/-- 51: func(string) int -/
def ti51 : TI := ⟨.func, 1, 8, .nilf, false⟩
/-- 52: []postmarklaw21.Act -/
def ti52 : TI := ⟨.slice 60, 1, 24, .nils, false⟩
/-- 53: *postmarkref16.Pool -/
def ti53 : TI := ⟨.pointer 55, 1, 8, .nilp, false⟩
/-- 54: struct ( L []api.Pending; Shut bool ) -/
def ti54 : TI := ⟨.struct [(0, 34), (1, 4)], 2, 32, .agg [.nils, .bool false], false⟩
/-- 55: postmarkref16.Pool -/
def ti55 : TI := ⟨.struct [(0, 34), (1, 4)], 2, 32, .agg [.nils, .bool false], false⟩
/-- 56: *postmarkref16.Fair -/
def ti56 : TI := ⟨.pointer 58, 1, 8, .nilp, false⟩
/-- 57: struct ( L []string ) -/
def ti57 : TI := ⟨.struct [(0, 26)], 1, 24, .agg [.nils], false⟩
/-- 58: postmarkref16.Fair -/
def ti58 : TI := ⟨.struct [(0, 26)], 1, 24, .agg [.nils], false⟩
/-- 59: struct ( What uint8; K uint8; C uint8; N uint8; Tick int64 ) -/
def ti59 : TI := ⟨.struct [(0, 5), (1, 5), (2, 5), (3, 5), (4, 2)], 5, 16, .agg [.int .u8 0, .int .u8 0, .int .u8 0, .int .u8 0, .int .i64 0], true⟩
/-- 60: postmarklaw21.Act -/
def ti60 : TI := ⟨.struct [(0, 5), (1, 5), (2, 5), (3, 5), (4, 2)], 5, 16, .agg [.int .u8 0, .int .u8 0, .int .u8 0, .int .u8 0, .int .i64 0], true⟩
/-- 61: func(uint8) string -/
def ti61 : TI := ⟨.func, 1, 8, .nilf, false⟩
/-- 62: (int, uint64) -/
def ti62 : TI := ⟨.other, 1, 0, .any, false⟩
/-- 63: func([]api.Known, []api.Pending, string) (int, uint64) -/
def ti63 : TI := ⟨.func, 1, 8, .nilf, false⟩
/-- 64: func(api.Update) api.Errno -/
def ti64 : TI := ⟨.func, 1, 8, .nilf, false⟩
/-- 65: func(api.Update) int -/
def ti65 : TI := ⟨.func, 1, 8, .nilf, false⟩
/-- 66: func(api.Update, int64, int64) int -/
def ti66 : TI := ⟨.func, 1, 8, .nilf, false⟩
/-- 67: func([]api.Pending, []api.Pending) bool -/
def ti67 : TI := ⟨.func, 1, 8, .nilf, false⟩
/-- 68: func(*postmarkref16.Fair, int) []api.Pending -/
def ti68 : TI := ⟨.func, 1, 8, .nilf, false⟩
/-- 69: func([]postmarklaw21.Act, []uint8) bool -/
def ti69 : TI := ⟨.func, 1, 8, .nilf, false⟩
/-- 70: struct ( l []api.Pending; shut bool ) -/
def ti70 : TI := ⟨.struct [(0, 34), (1, 4)], 2, 32, .agg [.nils, .bool false], false⟩
/-- 71: pool.Pool -/
def ti71 : TI := ⟨.struct [(0, 34), (1, 4)], 2, 32, .agg [.nils, .bool false], false⟩
/-- 72: *api.Pending -/
def ti72 : TI := ⟨.pointer 39, 1, 8, .nilp, false⟩
/-- 73: map[string]api.Pending -/
def ti73 : TI := ⟨.map 9 39, 1, 8, .nilm, false⟩
/-- 74: *heap.Heap -/
def ti74 : TI := ⟨.pointer 102, 1, 8, .nilp, false⟩
/-- 75: func() *heap.Heap -/
def ti75 : TI := ⟨.func, 1, 8, .nilf, false⟩
/-- 76: (api.Pending, bool) -/
def ti76 : TI := ⟨.other, 1, 0, .any, false⟩
/-- 77: func(heap.Due) -/
def ti77 : TI := ⟨.func, 1, 8, .nilf, false⟩
/-- 78: struct ( At int64; Class int; Rank int; Name string ) -/
def ti78 : TI := ⟨.struct [(0, 2), (1, 3), (2, 3), (3, 9)], 4, 40, .agg [.int .i64 0, .int .i64 0, .int .i64 0, .str []], true⟩
/-- 79: heap.Due -/
def ti79 : TI := ⟨.struct [(0, 2), (1, 3), (2, 3), (3, 9)], 4, 40, .agg [.int .i64 0, .int .i64 0, .int .i64 0, .str []], true⟩
/-- 80: (heap.Due, bool) -/
def ti80 : TI := ⟨.other, 1, 0, .any, false⟩
/-- 81: func() (heap.Due, bool) -/
def ti81 : TI := ⟨.func, 1, 8, .nilf, false⟩
/-- 82: func([]api.Pending, func(api.Pending) bool) int -/
def ti82 : TI := ⟨.func, 1, 8, .nilf, false⟩
/-- 83: func(api.Pending) bool -/
def ti83 : TI := ⟨.func, 1, 8, .nilf, false⟩
/-- 84: func([]api.Pending, int, int) []api.Pending -/
def ti84 : TI := ⟨.func, 1, 8, .nilf, false⟩
/-- 85: func([]api.Pending) []api.Pending -/
def ti85 : TI := ⟨.func, 1, 8, .nilf, false⟩
/-- 86: map[string]int -/
def ti86 : TI := ⟨.map 9 3, 1, 8, .nilm, false⟩
/-- 87: struct ( l map[string]int ) -/
def ti87 : TI := ⟨.struct [(0, 86)], 1, 8, .agg [.nilm], false⟩
/-- 88: fair.Fair -/
def ti88 : TI := ⟨.struct [(0, 86)], 1, 8, .agg [.nilm], false⟩
/-- 89: []api.Known -/
def ti89 : TI := ⟨.slice 93, 1, 24, .nils, false⟩
/-- 90: struct ( Name string; Version int; Key uint64 ) -/
def ti90 : TI := ⟨.struct [(0, 9), (1, 3), (2, 29)], 3, 32, .agg [.str [], .int .i64 0, .int .u64 0], true⟩
/-- 91: api.Entry -/
def ti91 : TI := ⟨.struct [(0, 9), (1, 3), (2, 29)], 3, 32, .agg [.str [], .int .i64 0, .int .u64 0], true⟩
/-- 92: struct ( Entry api.Entry; Epoch int ) -/
def ti92 : TI := ⟨.struct [(0, 91), (3, 3)], 4, 40, .agg [.agg [.str [], .int .i64 0, .int .u64 0], .int .i64 0], true⟩
/-- 93: api.Known -/
def ti93 : TI := ⟨.struct [(0, 91), (3, 3)], 4, 40, .agg [.agg [.str [], .int .i64 0, .int .u64 0], .int .i64 0], true⟩
/-- 94: (api.Known, bool) -/
def ti94 : TI := ⟨.other, 1, 0, .any, false⟩
/-- 95: func([]api.Known, string) (api.Known, bool) -/
def ti95 : TI := ⟨.func, 1, 8, .nilf, false⟩
/-- 96: []postmarkref16.Due -/
def ti96 : TI := ⟨.slice 97, 1, 24, .nils, false⟩
/-- 97: postmarkref16.Due -/
def ti97 : TI := ⟨.struct [(0, 2), (1, 3), (2, 3), (3, 9)], 4, 40, .agg [.int .i64 0, .int .i64 0, .int .i64 0, .str []], true⟩
/-- 98: func([]postmarkref16.Due) []postmarkref16.Due -/
def ti98 : TI := ⟨.func, 1, 8, .nilf, false⟩
/-- 99: []heap.Due -/
def ti99 : TI := ⟨.slice 79, 1, 24, .nils, false⟩
/-- 100: heap.items -/
def ti100 : TI := ⟨.slice 79, 1, 24, .nils, false⟩
/-- 101: struct ( l heap.items ) -/
def ti101 : TI := ⟨.struct [(0, 100)], 1, 24, .agg [.nils], false⟩
/-- 102: heap.Heap -/
def ti102 : TI := ⟨.struct [(0, 100)], 1, 24, .agg [.nils], false⟩
/-- 103: func(heap.Interface, interface ()) -/
def ti103 : TI := ⟨.func, 1, 8, .nilf, false⟩
/-- 104: *heap.items -/
def ti104 : TI := ⟨.pointer 100, 1, 8, .nilp, false⟩
/-- 105: func(heap.Interface) interface () -/
def ti105 : TI := ⟨.func, 1, 8, .nilf, false⟩
/-- 106: func([]api.Pending, func(api.Pending) bool) []api.Pending -/
def ti106 : TI := ⟨.func, 1, 8, .nilf, false⟩
/-- 107: func(postmarkref16.Due, postmarkref16.Due) bool -/
def ti107 : TI := ⟨.func, 1, 8, .nilf, false⟩
/-- 108: interface ( Len() int; Less(int, int) bool; Pop() interface (); Push(interface ()); Swap(int, int) ) -/
def ti108 : TI := ⟨.iface, 1, 16, .nili, false⟩
/-- 109: heap.Interface -/
def ti109 : TI := ⟨.iface, 1, 16, .nili, false⟩
/-- 110: func(interface ()) -/
def ti110 : TI := ⟨.func, 1, 8, .nilf, false⟩
/-- 111: func(heap.Interface, int) -/
def ti111 : TI := ⟨.func, 1, 8, .nilf, false⟩
/-- 112: func(int, int) -/
def ti112 : TI := ⟨.func, 1, 8, .nilf, false⟩
/-- 113: func(heap.Interface, int, int) bool -/
def ti113 : TI := ⟨.func, 1, 8, .nilf, false⟩
/-- 114: func() interface () -/
def ti114 : TI := ⟨.func, 1, 8, .nilf, false⟩
/-- 115: func(int, int) bool -/
def ti115 : TI := ⟨.func, 1, 8, .nilf, false⟩
/-- 116: func() string -/
def ti116 : TI := ⟨.func, 1, 8, .nilf, false⟩
/-- 117: struct ( _interface *abi.Type; concrete *abi.Type; asserted *abi.Type; missingMethod string ) -/
def ti117 : TI := ⟨.struct [(0, 17), (1, 17), (2, 17), (3, 9)], 4, 40, .agg [.nilp, .nilp, .nilp, .str []], false⟩
/-- 118: runtime.TypeAssertionError -/
def ti118 : TI := ⟨.struct [(0, 17), (1, 17), (2, 17), (3, 9)], 4, 40, .agg [.nilp, .nilp, .nilp, .str []], false⟩
/-- 119: [0]*runtime.PanicNilError -/
def ti119 : TI := ⟨.array 0 16, 0, 0, .vec 1 0 (fun _ => .nilp), false⟩
/-- 120: struct ( _ [0]*runtime.PanicNilError ) -/
def ti120 : TI := ⟨.struct [(0, 119)], 0, 0, .agg [.vec 1 0 (fun _ => .nilp)], false⟩
/-- 121: runtime.PanicNilError -/
def ti121 : TI := ⟨.struct [(0, 119)], 0, 0, .agg [.vec 1 0 (fun _ => .nilp)], false⟩
/-- 122: uint32 -/
def ti122 : TI := ⟨.int .u32, 1, 4, .int .u32 0, false⟩
/-- 123: abi.TFlag -/
def ti123 : TI := ⟨.int .u8, 1, 1, .int .u8 0, false⟩
/-- 124: abi.Kind -/
def ti124 : TI := ⟨.int .u8, 1, 1, .int .u8 0, false⟩
/-- 125: func(unsafe.Pointer, unsafe.Pointer) bool -/
def ti125 : TI := ⟨.func, 1, 8, .nilf, false⟩
/-- 126: *uint8 -/
def ti126 : TI := ⟨.pointer 5, 1, 8, .nilp, false⟩
/-- 127: abi.NameOff -/
def ti127 : TI := ⟨.int .i32, 1, 4, .int .i32 0, false⟩
/-- 128: abi.TypeOff -/
def ti128 : TI := ⟨.int .i32, 1, 4, .int .i32 0, false⟩
/-- 129: struct ( Size_ uintptr; PtrBytes uintptr; Hash uint32; TFlag abi.TFlag; Align_ uint8; FieldAlign_ uint8; Kind_ abi.Kind; Equal func(unsafe.Pointer, unsafe.Pointer) bool; GCData *uint8; Str abi.NameOff; PtrToThis abi.TypeOff ) -/
def ti129 : TI := ⟨.struct [(0, 12), (1, 12), (2, 122), (3, 123), (4, 5), (5, 5), (6, 124), (7, 125), (8, 126), (9, 127), (10, 128)], 11, 48, .agg [.int .u64 0, .int .u64 0, .int .u32 0, .int .u8 0, .int .u8 0, .int .u8 0, .int .u8 0, .nilf, .nilp, .int .i32 0, .int .i32 0], false⟩
/-- 130: abi.Type -/
def ti130 : TI := ⟨.struct [(0, 12), (1, 12), (2, 122), (3, 123), (4, 5), (5, 5), (6, 124), (7, 125), (8, 126), (9, 127), (10, 128)], 11, 48, .agg [.int .u64 0, .int .u64 0, .int .u32 0, .int .u8 0, .int .u8 0, .int .u8 0, .int .u8 0, .nilf, .nilp, .int .i32 0, .int .i32 0], false⟩
/-- 131: func(heap.Due) int -/
def ti131 : TI := ⟨.func, 1, 8, .nilf, false⟩
/-- 132: func(heap.Due, heap.Due) bool -/
def ti132 : TI := ⟨.func, 1, 8, .nilf, false⟩
/-- 133: func(...int) int -/
def ti133 : TI := ⟨.func, 1, 8, .nilf, false⟩
/-- 134: func(int64, int64) int -/
def ti134 : TI := ⟨.func, 1, 8, .nilf, false⟩
/-- 135: func(int, int) int -/
def ti135 : TI := ⟨.func, 1, 8, .nilf, false⟩
/-- 136: func(string, string) int -/
def ti136 : TI := ⟨.func, 1, 8, .nilf, false⟩
/-- 137: []int -/
def ti137 : TI := ⟨.slice 3, 1, 24, .nils, false⟩
/-- 138: func(int64) bool -/
def ti138 : TI := ⟨.func, 1, 8, .nilf, false⟩
/-- 139: func(int) bool -/
def ti139 : TI := ⟨.func, 1, 8, .nilf, false⟩
/-- 140: func(string) bool -/
def ti140 : TI := ⟨.func, 1, 8, .nilf, false⟩
/-- 141: unsafe.Pointer -/
def ti141 : TI := ⟨.other, 1, 8, .any, false⟩
def tabL : List TI := [ti0, ti1, ti2, ti3, ti4, ti5, ti6, ti7, ti8, ti9, ti10, ti11, ti12, ti13, ti14, ti15, ti16, ti17, ti18, ti19, ti20, ti21, ti22, ti23, ti24, ti25, ti26, ti27, ti28, ti29, ti30, ti31, ti32, ti33, ti34, ti35, ti36, ti37, ti38, ti39, ti40, ti41, ti42, ti43, ti44, ti45, ti46, ti47, ti48, ti49, ti50, ti51, ti52, ti53, ti54, ti55, ti56, ti57, ti58, ti59, ti60, ti61, ti62, ti63, ti64, ti65, ti66, ti67, ti68, ti69, ti70, ti71, ti72, ti73, ti74, ti75, ti76, ti77, ti78, ti79, ti80, ti81, ti82, ti83, ti84, ti85, ti86, ti87, ti88, ti89, ti90, ti91, ti92, ti93, ti94, ti95, ti96, ti97, ti98, ti99, ti100, ti101, ti102, ti103, ti104, ti105, ti106, ti107, ti108, ti109, ti110, ti111, ti112, ti113, ti114, ti115, ti116, ti117, ti118, ti119, ti120, ti121, ti122, ti123, ti124, ti125, ti126, ti127, ti128, ti129, ti130, ti131, ti132, ti133, ti134, ti135, ti136, ti137, ti138, ti139, ti140, ti141]
theorem tabOK : TabOK Try.prog tabL := TabOK.of_chk (by kernel_rfl)
/-- Sums of ints: exact, where they fit. -/
def T : Tab := { l := tabL }
/-- Sums of ints: as they wrap. -/
def Tw : Tab := { l := tabL, nowrap := false }
theorem TOK : TabOK Try.prog T.l := tabOK
theorem TwOK : TabOK Try.prog Tw.l := tabOK
end Go.Proofs.Ythnmbpcdcjamoaa
