/- The table of the program's types, as 'VX' wants it; printed by a program of this session from the program's form in Lean; checked here by counting out. -/
import Derived.Test.YtpgjheokcdpgjaaProg
import Derived.KernelRfl
import Derived.Test.YtpgjheokcdpgjaaVxI
namespace Go.Proofs.Ytpgjheokcdpgjaa
open VX
/-- 0: () -/
def ti0 : TI := ⟨.other, 1, 0, .any, false⟩
/-- 1: func() -/
def ti1 : TI := ⟨.func, 1, 8, .nilf, false⟩
/-- 2: int64 -/
def ti2 : TI := ⟨.int .i64, 1, 8, .int .i64 0, false⟩
/-- 3: int -/
def ti3 : TI := ⟨.int .i64, 1, 8, .int .i64 0, false⟩
/-- 4: bool -/
def ti4 : TI := ⟨.bool, 1, 1, .bool false, false⟩
/-- 5: uint8 -/
def ti5 : TI := ⟨.int .u8, 1, 1, .int .u8 0, false⟩
/-- 6: abi.BoundsErrorCode -/
def ti6 : TI := ⟨.int .u8, 1, 1, .int .u8 0, false⟩
/-- 7: struct ( x int64; y int; signed bool; code abi.BoundsErrorCode ) -/
def ti7 : TI := ⟨.struct [(0, 2), (1, 3), (2, 4), (3, 6)], 4, 24, .agg [.int .i64 0, .int .i64 0, .bool false, .int .u8 0], true⟩
/-- 8: runtime.boundsError -/
def ti8 : TI := ⟨.struct [(0, 2), (1, 3), (2, 4), (3, 6)], 4, 24, .agg [.int .i64 0, .int .i64 0, .bool false, .int .u8 0], true⟩
/-- 9: string -/
def ti9 : TI := ⟨.string, 1, 16, .str [], false⟩
/-- 10: runtime.errorString -/
def ti10 : TI := ⟨.string, 1, 16, .str [], false⟩
/-- 11: runtime.plainError -/
def ti11 : TI := ⟨.string, 1, 16, .str [], false⟩
/-- 12: uintptr -/
def ti12 : TI := ⟨.int .u64, 1, 8, .int .u64 0, false⟩
/-- 13: struct ( msg string; addr uintptr ) -/
def ti13 : TI := ⟨.struct [(0, 9), (1, 12)], 2, 24, .agg [.str [], .int .u64 0], false⟩
/-- 14: runtime.errorAddressString -/
def ti14 : TI := ⟨.struct [(0, 9), (1, 12)], 2, 24, .agg [.str [], .int .u64 0], false⟩
/-- 15: *runtime.TypeAssertionError -/
def ti15 : TI := ⟨.pointer 131, 1, 8, .nilp, false⟩
/-- 16: *runtime.PanicNilError -/
def ti16 : TI := ⟨.pointer 134, 1, 8, .nilp, false⟩
/-- 17: *abi.Type -/
def ti17 : TI := ⟨.pointer 143, 1, 8, .nilp, false⟩
/-- 18: struct ( typ *abi.Type ) -/
def ti18 : TI := ⟨.struct [(0, 17)], 1, 8, .agg [.nilp], false⟩
/-- 19: maps.unhashableTypeError -/
def ti19 : TI := ⟨.struct [(0, 17)], 1, 8, .agg [.nilp], false⟩
/-- 20: interface () -/
def ti20 : TI := ⟨.iface, 1, 16, .nili, false⟩
/-- 21: int32 -/
def ti21 : TI := ⟨.int .i32, 1, 4, .int .i32 0, false⟩
/-- 22: uint64 -/
def ti22 : TI := ⟨.int .u64, 1, 8, .int .u64 0, false⟩
/-- 23: struct ( R uint64; S uint64 ) -/
def ti23 : TI := ⟨.struct [(0, 22), (1, 22)], 2, 16, .agg [.int .u64 0, .int .u64 0], true⟩
/-- 24: api.Sig -/
def ti24 : TI := ⟨.struct [(0, 22), (1, 22)], 2, 16, .agg [.int .u64 0, .int .u64 0], true⟩
/-- 25: struct ( Name string; Version int; Key uint64; Class int; Sig api.Sig ) -/
def ti25 : TI := ⟨.struct [(0, 9), (1, 3), (2, 22), (3, 3), (4, 24)], 6, 56, .agg [.str [], .int .i64 0, .int .u64 0, .int .i64 0, .agg [.int .u64 0, .int .u64 0]], true⟩
/-- 26: api.Update -/
def ti26 : TI := ⟨.struct [(0, 9), (1, 3), (2, 22), (3, 3), (4, 24)], 6, 56, .agg [.str [], .int .i64 0, .int .u64 0, .int .i64 0, .agg [.int .u64 0, .int .u64 0]], true⟩
/-- 27: struct ( Kind int; Seq int64; Gen int64; Count int; Update api.Update; Tick int64; Epoch int ) -/
def ti27 : TI := ⟨.struct [(0, 3), (1, 2), (2, 2), (3, 3), (4, 26), (10, 2), (11, 3)], 12, 104, .agg [.int .i64 0, .int .i64 0, .int .i64 0, .int .i64 0, .agg [.str [], .int .i64 0, .int .u64 0, .int .i64 0, .agg [.int .u64 0, .int .u64 0]], .int .i64 0, .int .i64 0], true⟩
/-- 28: api.Record -/
def ti28 : TI := ⟨.struct [(0, 3), (1, 2), (2, 2), (3, 3), (4, 26), (10, 2), (11, 3)], 12, 104, .agg [.int .i64 0, .int .i64 0, .int .i64 0, .int .i64 0, .agg [.str [], .int .i64 0, .int .u64 0, .int .i64 0, .agg [.int .u64 0, .int .u64 0]], .int .i64 0, .int .i64 0], true⟩
/-- 29: []uint8 -/
def ti29 : TI := ⟨.slice 5, 1, 24, .nils, false⟩
/-- 30: func() bool -/
def ti30 : TI := ⟨.func, 1, 8, .nilf, false⟩
/-- 31: func(uint8, uint8, int64, api.Update) api.Record -/
def ti31 : TI := ⟨.func, 1, 8, .nilf, false⟩
/-- 32: func(string, int, uint8, uint8) api.Update -/
def ti32 : TI := ⟨.func, 1, 8, .nilf, false⟩
/-- 33: func(uint8) string -/
def ti33 : TI := ⟨.func, 1, 8, .nilf, false⟩
/-- 34: func(api.Record, uint8, int64) api.Record -/
def ti34 : TI := ⟨.func, 1, 8, .nilf, false⟩
/-- 35: []api.Record -/
def ti35 : TI := ⟨.slice 28, 1, 24, .nils, false⟩
/-- 36: api.Errno -/
def ti36 : TI := ⟨.int .i64, 1, 8, .int .i64 0, false⟩
/-- 37: ([]uint8, api.Errno) -/
def ti37 : TI := ⟨.other, 1, 0, .any, false⟩
/-- 38: func(api.Record) ([]uint8, api.Errno) -/
def ti38 : TI := ⟨.func, 1, 8, .nilf, false⟩
/-- 39: ([]uint8, int) -/
def ti39 : TI := ⟨.other, 1, 0, .any, false⟩
/-- 40: func(api.Record) ([]uint8, int) -/
def ti40 : TI := ⟨.func, 1, 8, .nilf, false⟩
/-- 41: func(api.Record) bool -/
def ti41 : TI := ⟨.func, 1, 8, .nilf, false⟩
/-- 42: (api.Record, int, api.Errno) -/
def ti42 : TI := ⟨.other, 1, 0, .any, false⟩
/-- 43: func([]uint8) (api.Record, int, api.Errno) -/
def ti43 : TI := ⟨.func, 1, 8, .nilf, false⟩
/-- 44: []api.Pending -/
def ti44 : TI := ⟨.slice 47, 1, 24, .nils, false⟩
/-- 45: func([]uint8) []api.Pending -/
def ti45 : TI := ⟨.func, 1, 8, .nilf, false⟩
/-- 46: struct ( Update api.Update; Tick int64; Seq int64; Synced bool ) -/
def ti46 : TI := ⟨.struct [(0, 26), (6, 2), (7, 2), (8, 4)], 9, 80, .agg [.agg [.str [], .int .i64 0, .int .u64 0, .int .i64 0, .agg [.int .u64 0, .int .u64 0]], .int .i64 0, .int .i64 0, .bool false], true⟩
/-- 47: api.Pending -/
def ti47 : TI := ⟨.struct [(0, 26), (6, 2), (7, 2), (8, 4)], 9, 80, .agg [.agg [.str [], .int .i64 0, .int .u64 0, .int .i64 0, .agg [.int .u64 0, .int .u64 0]], .int .i64 0, .int .i64 0, .bool false], true⟩
/-- 48: func(int64, int64, []api.Pending) []uint8 -/
def ti48 : TI := ⟨.func, 1, 8, .nilf, false⟩
/-- 49: func(api.Record, uint8, uint8, int64, int64, uint8, []uint8, int64) bool -/
def ti49 : TI := ⟨.func, 1, 8, .nilf, false⟩
/-- 50: uint16 -/
def ti50 : TI := ⟨.int .u16, 1, 2, .int .u16 0, false⟩
/-- 51: func(int, int64, []uint8) ([]uint8, int) -/
def ti51 : TI := ⟨.func, 1, 8, .nilf, false⟩
/-- 52: [][]uint8 -/
def ti52 : TI := ⟨.slice 29, 1, 24, .nils, false⟩
/-- 53: (api.Record, int, int) -/
def ti53 : TI := ⟨.other, 1, 0, .any, false⟩
/-- 54: func([]uint8) (api.Record, int, int) -/
def ti54 : TI := ⟨.func, 1, 8, .nilf, false⟩
/-- 55: func([]api.Record, []api.Record) bool -/
def ti55 : TI := ⟨.func, 1, 8, .nilf, false⟩
/-- 56: func([]uint8, int, int64, uint8, uint8, uint16, uint8) bool -/
def ti56 : TI := ⟨.func, 1, 8, .nilf, false⟩
/-- 57: func([]uint8, uint16, uint16) bool -/
def ti57 : TI := ⟨.func, 1, 8, .nilf, false⟩
/-- 58: func(string, int, bool) uint64 -/
def ti58 : TI := ⟨.func, 1, 8, .nilf, false⟩
/-- 59: func(uint64, api.Update) api.Update -/
def ti59 : TI := ⟨.func, 1, 8, .nilf, false⟩
/-- 60: []string -/
def ti60 : TI := ⟨.slice 9, 1, 24, .nils, false⟩
/-- 61: func(int, int64, []uint8) ([]uint8, api.Errno) -/
def ti61 : TI := ⟨.func, 1, 8, .nilf, false⟩
/-- 62: func(api.Record) []uint8 -/
def ti62 : TI := ⟨.func, 1, 8, .nilf, false⟩
/-- 63: func(uint64) []uint8 -/
def ti63 : TI := ⟨.func, 1, 8, .nilf, false⟩
/-- 64: func(api.Update) ([]uint8, int) -/
def ti64 : TI := ⟨.func, 1, 8, .nilf, false⟩
/-- 65: func(int64) bool -/
def ti65 : TI := ⟨.func, 1, 8, .nilf, false⟩
/-- 66: func(api.Update) bool -/
def ti66 : TI := ⟨.func, 1, 8, .nilf, false⟩
/-- 67: (int, int64, []uint8, int, api.Errno) -/
def ti67 : TI := ⟨.other, 1, 0, .any, false⟩
/-- 68: func([]uint8) (int, int64, []uint8, int, api.Errno) -/
def ti68 : TI := ⟨.func, 1, 8, .nilf, false⟩
/-- 69: *bin.Reader -/
def ti69 : TI := ⟨.pointer 102, 1, 8, .nilp, false⟩
/-- 70: func([]uint8) *bin.Reader -/
def ti70 : TI := ⟨.func, 1, 8, .nilf, false⟩
/-- 71: func(uint64) int64 -/
def ti71 : TI := ⟨.func, 1, 8, .nilf, false⟩
/-- 72: func() uint64 -/
def ti72 : TI := ⟨.func, 1, 8, .nilf, false⟩
/-- 73: (api.Update, api.Errno) -/
def ti73 : TI := ⟨.other, 1, 0, .any, false⟩
/-- 74: func([]uint8) (api.Update, api.Errno) -/
def ti74 : TI := ⟨.func, 1, 8, .nilf, false⟩
/-- 75: func(int) []uint8 -/
def ti75 : TI := ⟨.func, 1, 8, .nilf, false⟩
/-- 76: func() int -/
def ti76 : TI := ⟨.func, 1, 8, .nilf, false⟩
/-- 77: func([]uint8, []uint8) bool -/
def ti77 : TI := ⟨.func, 1, 8, .nilf, false⟩
/-- 78: (int, uint64) -/
def ti78 : TI := ⟨.other, 1, 0, .any, false⟩
/-- 79: func([]api.Known, []api.Pending, string) (int, uint64) -/
def ti79 : TI := ⟨.func, 1, 8, .nilf, false⟩
/-- 80: uint -/
def ti80 : TI := ⟨.int .u64, 1, 8, .int .u64 0, false⟩
/-- 81: func(int, int64, []uint8) []uint8 -/
def ti81 : TI := ⟨.func, 1, 8, .nilf, false⟩
/-- 82: (int, int64, []uint8, int, int) -/
def ti82 : TI := ⟨.other, 1, 0, .any, false⟩
/-- 83: func([]uint8) (int, int64, []uint8, int, int) -/
def ti83 : TI := ⟨.func, 1, 8, .nilf, false⟩
/-- 84: *postmarkref1.Reader -/
def ti84 : TI := ⟨.pointer 86, 1, 8, .nilp, false⟩
/-- 85: struct ( B []uint8; E int ) -/
def ti85 : TI := ⟨.struct [(0, 29), (1, 3)], 2, 32, .agg [.nils, .int .i64 0], false⟩
/-- 86: postmarkref1.Reader -/
def ti86 : TI := ⟨.struct [(0, 29), (1, 3)], 2, 32, .agg [.nils, .int .i64 0], false⟩
/-- 87: (api.Update, int) -/
def ti87 : TI := ⟨.other, 1, 0, .any, false⟩
/-- 88: func([]uint8) (api.Update, int) -/
def ti88 : TI := ⟨.func, 1, 8, .nilf, false⟩
/-- 89: func(uint64) uint64 -/
def ti89 : TI := ⟨.func, 1, 8, .nilf, false⟩
/-- 90: func(uint64, []uint8) api.Sig -/
def ti90 : TI := ⟨.func, 1, 8, .nilf, false⟩
/-- 91: func(api.Entry) []uint8 -/
def ti91 : TI := ⟨.func, 1, 8, .nilf, false⟩
/-- 92: struct ( Name string; Version int; Key uint64 ) -/
def ti92 : TI := ⟨.struct [(0, 9), (1, 3), (2, 22)], 3, 32, .agg [.str [], .int .i64 0, .int .u64 0], true⟩
/-- 93: api.Entry -/
def ti93 : TI := ⟨.struct [(0, 9), (1, 3), (2, 22)], 3, 32, .agg [.str [], .int .i64 0, .int .u64 0], true⟩
/-- 94: func(api.Update) api.Entry -/
def ti94 : TI := ⟨.func, 1, 8, .nilf, false⟩
/-- 95: func(...[]uint8) []uint8 -/
def ti95 : TI := ⟨.func, 1, 8, .nilf, false⟩
/-- 96: func(uint8, int64, []uint8) []uint8 -/
def ti96 : TI := ⟨.func, 1, 8, .nilf, false⟩
/-- 97: func(api.Update) ([]uint8, api.Errno) -/
def ti97 : TI := ⟨.func, 1, 8, .nilf, false⟩
/-- 98: func(api.Sig) []uint8 -/
def ti98 : TI := ⟨.func, 1, 8, .nilf, false⟩
/-- 99: func(api.Entry) bool -/
def ti99 : TI := ⟨.func, 1, 8, .nilf, false⟩
/-- 100: func([]uint8) []uint8 -/
def ti100 : TI := ⟨.func, 1, 8, .nilf, false⟩
/-- 101: struct ( b []uint8; e api.Errno ) -/
def ti101 : TI := ⟨.struct [(0, 29), (1, 36)], 2, 32, .agg [.nils, .int .i64 0], false⟩
/-- 102: bin.Reader -/
def ti102 : TI := ⟨.struct [(0, 29), (1, 36)], 2, 32, .agg [.nils, .int .i64 0], false⟩
/-- 103: func(uint64) int -/
def ti103 : TI := ⟨.func, 1, 8, .nilf, false⟩
/-- 104: func() api.Errno -/
def ti104 : TI := ⟨.func, 1, 8, .nilf, false⟩
/-- 105: func(api.Errno) -/
def ti105 : TI := ⟨.func, 1, 8, .nilf, false⟩
/-- 106: []api.Known -/
def ti106 : TI := ⟨.slice 108, 1, 24, .nils, false⟩
/-- 107: struct ( Entry api.Entry; Epoch int ) -/
def ti107 : TI := ⟨.struct [(0, 93), (3, 3)], 4, 40, .agg [.agg [.str [], .int .i64 0, .int .u64 0], .int .i64 0], true⟩
/-- 108: api.Known -/
def ti108 : TI := ⟨.struct [(0, 93), (3, 3)], 4, 40, .agg [.agg [.str [], .int .i64 0, .int .u64 0], .int .i64 0], true⟩
/-- 109: (api.Known, bool) -/
def ti109 : TI := ⟨.other, 1, 0, .any, false⟩
/-- 110: func([]api.Known, string) (api.Known, bool) -/
def ti110 : TI := ⟨.func, 1, 8, .nilf, false⟩
/-- 111: [32]uint8 -/
def ti111 : TI := ⟨.array 32 5, 32, 32, .vec 1 32 (fun _ => .int .u8 0), true⟩
/-- 112: api.Hash -/
def ti112 : TI := ⟨.array 32 5, 32, 32, .vec 1 32 (fun _ => .int .u8 0), true⟩
/-- 113: func(uint8, ...[]uint8) api.Hash -/
def ti113 : TI := ⟨.func, 1, 8, .nilf, false⟩
/-- 114: func([]uint8) uint64 -/
def ti114 : TI := ⟨.func, 1, 8, .nilf, false⟩
/-- 115: func(*postmarkref1.Reader) api.Entry -/
def ti115 : TI := ⟨.func, 1, 8, .nilf, false⟩
/-- 116: func(uint64, uint64, uint64) uint64 -/
def ti116 : TI := ⟨.func, 1, 8, .nilf, false⟩
/-- 117: func(api.Hash) uint64 -/
def ti117 : TI := ⟨.func, 1, 8, .nilf, false⟩
/-- 118: func(uint64, uint64, []uint8) uint64 -/
def ti118 : TI := ⟨.func, 1, 8, .nilf, false⟩
/-- 119: func([]uint8) api.Hash -/
def ti119 : TI := ⟨.func, 1, 8, .nilf, false⟩
/-- 120: func(uint8, ...[]uint8) []uint8 -/
def ti120 : TI := ⟨.func, 1, 8, .nilf, false⟩
/-- 121: func([]uint8, int) []uint8 -/
def ti121 : TI := ⟨.func, 1, 8, .nilf, false⟩
/-- 122: [5]uint64 -/
def ti122 : TI := ⟨.array 5 22, 5, 40, .vec 1 5 (fun _ => .int .u64 0), true⟩
/-- 123: func([5]uint64) [5]uint64 -/
def ti123 : TI := ⟨.func, 1, 8, .nilf, false⟩
/-- 124: func(int) -/
def ti124 : TI := ⟨.func, 1, 8, .nilf, false⟩
/-- 125: [12]uint64 -/
def ti125 : TI := ⟨.array 12 22, 12, 96, .vec 1 12 (fun _ => .int .u64 0), true⟩
/-- 126: func([5]uint64, uint64) [5]uint64 -/
def ti126 : TI := ⟨.func, 1, 8, .nilf, false⟩
/-- 127: func(uint64, int) uint64 -/
def ti127 : TI := ⟨.func, 1, 8, .nilf, false⟩
/-- 128: func(uint64, int, int) uint64 -/
def ti128 : TI := ⟨.func, 1, 8, .nilf, false⟩
/-- 129: func() string -/
def ti129 : TI := ⟨.func, 1, 8, .nilf, false⟩
/-- 130: struct ( _interface *abi.Type; concrete *abi.Type; asserted *abi.Type; missingMethod string ) -/
def ti130 : TI := ⟨.struct [(0, 17), (1, 17), (2, 17), (3, 9)], 4, 40, .agg [.nilp, .nilp, .nilp, .str []], false⟩
/-- 131: runtime.TypeAssertionError -/
def ti131 : TI := ⟨.struct [(0, 17), (1, 17), (2, 17), (3, 9)], 4, 40, .agg [.nilp, .nilp, .nilp, .str []], false⟩
/-- 132: [0]*runtime.PanicNilError -/
def ti132 : TI := ⟨.array 0 16, 0, 0, .vec 1 0 (fun _ => .nilp), false⟩
/-- 133: struct ( _ [0]*runtime.PanicNilError ) -/
def ti133 : TI := ⟨.struct [(0, 132)], 0, 0, .agg [.vec 1 0 (fun _ => .nilp)], false⟩
/-- 134: runtime.PanicNilError -/
def ti134 : TI := ⟨.struct [(0, 132)], 0, 0, .agg [.vec 1 0 (fun _ => .nilp)], false⟩
/-- 135: uint32 -/
def ti135 : TI := ⟨.int .u32, 1, 4, .int .u32 0, false⟩
/-- 136: abi.TFlag -/
def ti136 : TI := ⟨.int .u8, 1, 1, .int .u8 0, false⟩
/-- 137: abi.Kind -/
def ti137 : TI := ⟨.int .u8, 1, 1, .int .u8 0, false⟩
/-- 138: func(unsafe.Pointer, unsafe.Pointer) bool -/
def ti138 : TI := ⟨.func, 1, 8, .nilf, false⟩
/-- 139: *uint8 -/
def ti139 : TI := ⟨.pointer 5, 1, 8, .nilp, false⟩
/-- 140: abi.NameOff -/
def ti140 : TI := ⟨.int .i32, 1, 4, .int .i32 0, false⟩
/-- 141: abi.TypeOff -/
def ti141 : TI := ⟨.int .i32, 1, 4, .int .i32 0, false⟩
/-- 142: struct ( Size_ uintptr; PtrBytes uintptr; Hash uint32; TFlag abi.TFlag; Align_ uint8; FieldAlign_ uint8; Kind_ abi.Kind; Equal func(unsafe.Pointer, unsafe.Pointer) bool; GCData *uint8; Str abi.NameOff; PtrToThis abi.TypeOff ) -/
def ti142 : TI := ⟨.struct [(0, 12), (1, 12), (2, 135), (3, 136), (4, 5), (5, 5), (6, 137), (7, 138), (8, 139), (9, 140), (10, 141)], 11, 48, .agg [.int .u64 0, .int .u64 0, .int .u32 0, .int .u8 0, .int .u8 0, .int .u8 0, .int .u8 0, .nilf, .nilp, .int .i32 0, .int .i32 0], false⟩
/-- 143: abi.Type -/
def ti143 : TI := ⟨.struct [(0, 12), (1, 12), (2, 135), (3, 136), (4, 5), (5, 5), (6, 137), (7, 138), (8, 139), (9, 140), (10, 141)], 11, 48, .agg [.int .u64 0, .int .u64 0, .int .u32 0, .int .u8 0, .int .u8 0, .int .u8 0, .int .u8 0, .nilf, .nilp, .int .i32 0, .int .i32 0], false⟩
/-- 144: unsafe.Pointer -/
def ti144 : TI := ⟨.other, 1, 8, .any, false⟩
def tabL : List TI := [ti0, ti1, ti2, ti3, ti4, ti5, ti6, ti7, ti8, ti9, ti10, ti11, ti12, ti13, ti14, ti15, ti16, ti17, ti18, ti19, ti20, ti21, ti22, ti23, ti24, ti25, ti26, ti27, ti28, ti29, ti30, ti31, ti32, ti33, ti34, ti35, ti36, ti37, ti38, ti39, ti40, ti41, ti42, ti43, ti44, ti45, ti46, ti47, ti48, ti49, ti50, ti51, ti52, ti53, ti54, ti55, ti56, ti57, ti58, ti59, ti60, ti61, ti62, ti63, ti64, ti65, ti66, ti67, ti68, ti69, ti70, ti71, ti72, ti73, ti74, ti75, ti76, ti77, ti78, ti79, ti80, ti81, ti82, ti83, ti84, ti85, ti86, ti87, ti88, ti89, ti90, ti91, ti92, ti93, ti94, ti95, ti96, ti97, ti98, ti99, ti100, ti101, ti102, ti103, ti104, ti105, ti106, ti107, ti108, ti109, ti110, ti111, ti112, ti113, ti114, ti115, ti116, ti117, ti118, ti119, ti120, ti121, ti122, ti123, ti124, ti125, ti126, ti127, ti128, ti129, ti130, ti131, ti132, ti133, ti134, ti135, ti136, ti137, ti138, ti139, ti140, ti141, ti142, ti143, ti144]
theorem tabOK : TabOK Try.prog tabL := TabOK.of_chk (by kernel_rfl)
/-- Sums of ints: exact, where they fit. -/
def T : Tab := { l := tabL }
/-- Sums of ints: as they wrap. -/
def Tw : Tab := { l := tabL, nowrap := false }
theorem TOK : TabOK Try.prog T.l := tabOK
theorem TwOK : TabOK Try.prog Tw.l := tabOK
end Go.Proofs.Ytpgjheokcdpgjaa
