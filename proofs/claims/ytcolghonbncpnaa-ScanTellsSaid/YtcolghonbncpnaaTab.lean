/- The table of the program's types, as 'VX' wants it; printed by a program of this session from the program's form in Lean; checked here by counting out. -/
import Derived.Test.YtcolghonbncpnaaProg
import Derived.KernelRfl
import Derived.Test.YtcolghonbncpnaaVxI
namespace Go.Proofs.Ytcolghonbncpnaa
open VX
/-- 0: () -/
def ti0 : TI := ⟨.other, 1, 0, .any, false⟩
/-- 1: func() -/
def ti1 : TI := ⟨.func, 1, 8, .nilf, false⟩
/-- 2: int64 -/
def ti2 : TI := ⟨.int .i64, 1, 8, .int .i64 0, false⟩
/-- 3: int -/
def ti3 : TI := ⟨.int .i64, 1, 8, .int .i64 0, false⟩
/-- 4: bool -/
def ti4 : TI := ⟨.bool, 1, 1, .bool false, false⟩
/-- 5: uint8 -/
def ti5 : TI := ⟨.int .u8, 1, 1, .int .u8 0, false⟩
/-- 6: abi.BoundsErrorCode -/
def ti6 : TI := ⟨.int .u8, 1, 1, .int .u8 0, false⟩
/-- 7: struct ( x int64; y int; signed bool; code abi.BoundsErrorCode ) -/
def ti7 : TI := ⟨.struct [(0, 2), (1, 3), (2, 4), (3, 6)], 4, 24, .agg [.int .i64 0, .int .i64 0, .bool false, .int .u8 0], true⟩
/-- 8: runtime.boundsError -/
def ti8 : TI := ⟨.struct [(0, 2), (1, 3), (2, 4), (3, 6)], 4, 24, .agg [.int .i64 0, .int .i64 0, .bool false, .int .u8 0], true⟩
/-- 9: string -/
def ti9 : TI := ⟨.string, 1, 16, .str [], false⟩
/-- 10: runtime.errorString -/
def ti10 : TI := ⟨.string, 1, 16, .str [], false⟩
/-- 11: runtime.plainError -/
def ti11 : TI := ⟨.string, 1, 16, .str [], false⟩
/-- 12: uintptr -/
def ti12 : TI := ⟨.int .u64, 1, 8, .int .u64 0, false⟩
/-- 13: struct ( msg string; addr uintptr ) -/
def ti13 : TI := ⟨.struct [(0, 9), (1, 12)], 2, 24, .agg [.str [], .int .u64 0], false⟩
/-- 14: runtime.errorAddressString -/
def ti14 : TI := ⟨.struct [(0, 9), (1, 12)], 2, 24, .agg [.str [], .int .u64 0], false⟩
/-- 15: *runtime.TypeAssertionError -/
def ti15 : TI := ⟨.pointer 140, 1, 8, .nilp, false⟩
/-- 16: *runtime.PanicNilError -/
def ti16 : TI := ⟨.pointer 143, 1, 8, .nilp, false⟩
/-- 17: *abi.Type -/
def ti17 : TI := ⟨.pointer 152, 1, 8, .nilp, false⟩
/-- 18: struct ( typ *abi.Type ) -/
def ti18 : TI := ⟨.struct [(0, 17)], 1, 8, .agg [.nilp], false⟩
/-- 19: maps.unhashableTypeError -/
def ti19 : TI := ⟨.struct [(0, 17)], 1, 8, .agg [.nilp], false⟩
/-- 20: interface () -/
def ti20 : TI := ⟨.iface, 1, 16, .nili, false⟩
/-- 21: int32 -/
def ti21 : TI := ⟨.int .i32, 1, 4, .int .i32 0, false⟩
/-- 22: []uint8 -/
def ti22 : TI := ⟨.slice 5, 1, 24, .nils, false⟩
/-- 23: uint16 -/
def ti23 : TI := ⟨.int .u16, 1, 2, .int .u16 0, false⟩
/-- 24: func() bool -/
def ti24 : TI := ⟨.func, 1, 8, .nilf, false⟩
/-- 25: func(int64, []uint8, []uint8, int64) []uint8 -/
def ti25 : TI := ⟨.func, 1, 8, .nilf, false⟩
/-- 26: [][]uint8 -/
def ti26 : TI := ⟨.slice 22, 1, 24, .nils, false⟩
/-- 27: []api.Record -/
def ti27 : TI := ⟨.slice 45, 1, 24, .nils, false⟩
/-- 28: ([]api.Record, int) -/
def ti28 : TI := ⟨.other, 1, 0, .any, false⟩
/-- 29: func([]uint8) ([]api.Record, int) -/
def ti29 : TI := ⟨.func, 1, 8, .nilf, false⟩
/-- 30: func([]api.Record, []api.Record) bool -/
def ti30 : TI := ⟨.func, 1, 8, .nilf, false⟩
/-- 31: []api.Pending -/
def ti31 : TI := ⟨.slice 62, 1, 24, .nils, false⟩
/-- 32: (int64, []api.Pending, bool) -/
def ti32 : TI := ⟨.other, 1, 0, .any, false⟩
/-- 33: func([]api.Record) (int64, []api.Pending, bool) -/
def ti33 : TI := ⟨.func, 1, 8, .nilf, false⟩
/-- 34: func([]api.Pending, []api.Pending) bool -/
def ti34 : TI := ⟨.func, 1, 8, .nilf, false⟩
/-- 35: (int, bool) -/
def ti35 : TI := ⟨.other, 1, 0, .any, false⟩
/-- 36: func([]uint8, []uint8) (int, bool) -/
def ti36 : TI := ⟨.func, 1, 8, .nilf, false⟩
/-- 37: func(int64, int64, []uint8, []uint8, []uint8, int64, []uint8, uint16, uint8, uint8) bool -/
def ti37 : TI := ⟨.func, 1, 8, .nilf, false⟩
/-- 38: func(int64, []uint8, []uint8, uint16) bool -/
def ti38 : TI := ⟨.func, 1, 8, .nilf, false⟩
/-- 39: uint64 -/
def ti39 : TI := ⟨.int .u64, 1, 8, .int .u64 0, false⟩
/-- 40: struct ( R uint64; S uint64 ) -/
def ti40 : TI := ⟨.struct [(0, 39), (1, 39)], 2, 16, .agg [.int .u64 0, .int .u64 0], true⟩
/-- 41: api.Sig -/
def ti41 : TI := ⟨.struct [(0, 39), (1, 39)], 2, 16, .agg [.int .u64 0, .int .u64 0], true⟩
/-- 42: struct ( Name string; Version int; Key uint64; Class int; Sig api.Sig ) -/
def ti42 : TI := ⟨.struct [(0, 9), (1, 3), (2, 39), (3, 3), (4, 41)], 6, 56, .agg [.str [], .int .i64 0, .int .u64 0, .int .i64 0, .agg [.int .u64 0, .int .u64 0]], true⟩
/-- 43: api.Update -/
def ti43 : TI := ⟨.struct [(0, 9), (1, 3), (2, 39), (3, 3), (4, 41)], 6, 56, .agg [.str [], .int .i64 0, .int .u64 0, .int .i64 0, .agg [.int .u64 0, .int .u64 0]], true⟩
/-- 44: struct ( Kind int; Seq int64; Gen int64; Count int; Update api.Update; Tick int64; Epoch int ) -/
def ti44 : TI := ⟨.struct [(0, 3), (1, 2), (2, 2), (3, 3), (4, 43), (10, 2), (11, 3)], 12, 104, .agg [.int .i64 0, .int .i64 0, .int .i64 0, .int .i64 0, .agg [.str [], .int .i64 0, .int .u64 0, .int .i64 0, .agg [.int .u64 0, .int .u64 0]], .int .i64 0, .int .i64 0], true⟩
/-- 45: api.Record -/
def ti45 : TI := ⟨.struct [(0, 3), (1, 2), (2, 2), (3, 3), (4, 43), (10, 2), (11, 3)], 12, 104, .agg [.int .i64 0, .int .i64 0, .int .i64 0, .int .i64 0, .agg [.str [], .int .i64 0, .int .u64 0, .int .i64 0, .agg [.int .u64 0, .int .u64 0]], .int .i64 0, .int .i64 0], true⟩
/-- 46: [][]api.Record -/
def ti46 : TI := ⟨.slice 27, 1, 24, .nils, false⟩
/-- 47: func([]api.Record, uint8, uint8) bool -/
def ti47 : TI := ⟨.func, 1, 8, .nilf, false⟩
/-- 48: (api.Record, int, int) -/
def ti48 : TI := ⟨.other, 1, 0, .any, false⟩
/-- 49: func([]uint8) (api.Record, int, int) -/
def ti49 : TI := ⟨.func, 1, 8, .nilf, false⟩
/-- 50: func([]uint8, []uint8, uint8) bool -/
def ti50 : TI := ⟨.func, 1, 8, .nilf, false⟩
/-- 51: func([]uint8, []uint8, uint8, uint8, uint16, uint8) bool -/
def ti51 : TI := ⟨.func, 1, 8, .nilf, false⟩
/-- 52: func(int64, int64, []api.Pending) []uint8 -/
def ti52 : TI := ⟨.func, 1, 8, .nilf, false⟩
/-- 53: func([]uint8) []api.Pending -/
def ti53 : TI := ⟨.func, 1, 8, .nilf, false⟩
/-- 54: func(string, int, uint8, uint8) api.Update -/
def ti54 : TI := ⟨.func, 1, 8, .nilf, false⟩
/-- 55: func(uint8) string -/
def ti55 : TI := ⟨.func, 1, 8, .nilf, false⟩
/-- 56: ([]uint8, int) -/
def ti56 : TI := ⟨.other, 1, 0, .any, false⟩
/-- 57: func(api.Record) ([]uint8, int) -/
def ti57 : TI := ⟨.func, 1, 8, .nilf, false⟩
/-- 58: api.Errno -/
def ti58 : TI := ⟨.int .i64, 1, 8, .int .i64 0, false⟩
/-- 59: (api.Record, int, api.Errno) -/
def ti59 : TI := ⟨.other, 1, 0, .any, false⟩
/-- 60: func([]uint8) (api.Record, int, api.Errno) -/
def ti60 : TI := ⟨.func, 1, 8, .nilf, false⟩
/-- 61: struct ( Update api.Update; Tick int64; Seq int64; Synced bool ) -/
def ti61 : TI := ⟨.struct [(0, 43), (6, 2), (7, 2), (8, 4)], 9, 80, .agg [.agg [.str [], .int .i64 0, .int .u64 0, .int .i64 0, .agg [.int .u64 0, .int .u64 0]], .int .i64 0, .int .i64 0, .bool false], true⟩
/-- 62: api.Pending -/
def ti62 : TI := ⟨.struct [(0, 43), (6, 2), (7, 2), (8, 4)], 9, 80, .agg [.agg [.str [], .int .i64 0, .int .u64 0, .int .i64 0, .agg [.int .u64 0, .int .u64 0]], .int .i64 0, .int .i64 0, .bool false], true⟩
/-- 63: (int, int64, []uint8, int, int) -/
def ti63 : TI := ⟨.other, 1, 0, .any, false⟩
/-- 64: func([]uint8) (int, int64, []uint8, int, int) -/
def ti64 : TI := ⟨.func, 1, 8, .nilf, false⟩
/-- 65: *postmarkref1.Reader -/
def ti65 : TI := ⟨.pointer 67, 1, 8, .nilp, false⟩
/-- 66: struct ( B []uint8; E int ) -/
def ti66 : TI := ⟨.struct [(0, 22), (1, 3)], 2, 32, .agg [.nils, .int .i64 0], false⟩
/-- 67: postmarkref1.Reader -/
def ti67 : TI := ⟨.struct [(0, 22), (1, 3)], 2, 32, .agg [.nils, .int .i64 0], false⟩
/-- 68: func() int -/
def ti68 : TI := ⟨.func, 1, 8, .nilf, false⟩
/-- 69: (api.Update, int) -/
def ti69 : TI := ⟨.other, 1, 0, .any, false⟩
/-- 70: func([]uint8) (api.Update, int) -/
def ti70 : TI := ⟨.func, 1, 8, .nilf, false⟩
/-- 71: (int, uint64) -/
def ti71 : TI := ⟨.other, 1, 0, .any, false⟩
/-- 72: func([]api.Known, []api.Pending, string) (int, uint64) -/
def ti72 : TI := ⟨.func, 1, 8, .nilf, false⟩
/-- 73: func(string, int, bool) uint64 -/
def ti73 : TI := ⟨.func, 1, 8, .nilf, false⟩
/-- 74: func(uint64, api.Update) api.Update -/
def ti74 : TI := ⟨.func, 1, 8, .nilf, false⟩
/-- 75: []string -/
def ti75 : TI := ⟨.slice 9, 1, 24, .nils, false⟩
/-- 76: func(api.Record) bool -/
def ti76 : TI := ⟨.func, 1, 8, .nilf, false⟩
/-- 77: func(uint64) []uint8 -/
def ti77 : TI := ⟨.func, 1, 8, .nilf, false⟩
/-- 78: func(api.Update) ([]uint8, int) -/
def ti78 : TI := ⟨.func, 1, 8, .nilf, false⟩
/-- 79: func(int, int64, []uint8) ([]uint8, int) -/
def ti79 : TI := ⟨.func, 1, 8, .nilf, false⟩
/-- 80: (int, int64, []uint8, int, api.Errno) -/
def ti80 : TI := ⟨.other, 1, 0, .any, false⟩
/-- 81: func([]uint8) (int, int64, []uint8, int, api.Errno) -/
def ti81 : TI := ⟨.func, 1, 8, .nilf, false⟩
/-- 82: *bin.Reader -/
def ti82 : TI := ⟨.pointer 112, 1, 8, .nilp, false⟩
/-- 83: func([]uint8) *bin.Reader -/
def ti83 : TI := ⟨.func, 1, 8, .nilf, false⟩
/-- 84: func(uint64) int64 -/
def ti84 : TI := ⟨.func, 1, 8, .nilf, false⟩
/-- 85: func() uint64 -/
def ti85 : TI := ⟨.func, 1, 8, .nilf, false⟩
/-- 86: (api.Update, api.Errno) -/
def ti86 : TI := ⟨.other, 1, 0, .any, false⟩
/-- 87: func([]uint8) (api.Update, api.Errno) -/
def ti87 : TI := ⟨.func, 1, 8, .nilf, false⟩
/-- 88: func(int) []uint8 -/
def ti88 : TI := ⟨.func, 1, 8, .nilf, false⟩
/-- 89: ([]uint8, api.Errno) -/
def ti89 : TI := ⟨.other, 1, 0, .any, false⟩
/-- 90: func(api.Record) ([]uint8, api.Errno) -/
def ti90 : TI := ⟨.func, 1, 8, .nilf, false⟩
/-- 91: func([]uint8, []uint8) bool -/
def ti91 : TI := ⟨.func, 1, 8, .nilf, false⟩
/-- 92: uint -/
def ti92 : TI := ⟨.int .u64, 1, 8, .int .u64 0, false⟩
/-- 93: func([]uint8) uint64 -/
def ti93 : TI := ⟨.func, 1, 8, .nilf, false⟩
/-- 94: func(int, int64, []uint8) []uint8 -/
def ti94 : TI := ⟨.func, 1, 8, .nilf, false⟩
/-- 95: struct ( Name string; Version int; Key uint64 ) -/
def ti95 : TI := ⟨.struct [(0, 9), (1, 3), (2, 39)], 3, 32, .agg [.str [], .int .i64 0, .int .u64 0], true⟩
/-- 96: api.Entry -/
def ti96 : TI := ⟨.struct [(0, 9), (1, 3), (2, 39)], 3, 32, .agg [.str [], .int .i64 0, .int .u64 0], true⟩
/-- 97: func(*postmarkref1.Reader) api.Entry -/
def ti97 : TI := ⟨.func, 1, 8, .nilf, false⟩
/-- 98: func(api.Update) bool -/
def ti98 : TI := ⟨.func, 1, 8, .nilf, false⟩
/-- 99: []api.Known -/
def ti99 : TI := ⟨.slice 101, 1, 24, .nils, false⟩
/-- 100: struct ( Entry api.Entry; Epoch int ) -/
def ti100 : TI := ⟨.struct [(0, 96), (3, 3)], 4, 40, .agg [.agg [.str [], .int .i64 0, .int .u64 0], .int .i64 0], true⟩
/-- 101: api.Known -/
def ti101 : TI := ⟨.struct [(0, 96), (3, 3)], 4, 40, .agg [.agg [.str [], .int .i64 0, .int .u64 0], .int .i64 0], true⟩
/-- 102: (api.Known, bool) -/
def ti102 : TI := ⟨.other, 1, 0, .any, false⟩
/-- 103: func([]api.Known, string) (api.Known, bool) -/
def ti103 : TI := ⟨.func, 1, 8, .nilf, false⟩
/-- 104: func(uint64) uint64 -/
def ti104 : TI := ⟨.func, 1, 8, .nilf, false⟩
/-- 105: func(uint64, []uint8) api.Sig -/
def ti105 : TI := ⟨.func, 1, 8, .nilf, false⟩
/-- 106: func(api.Entry) []uint8 -/
def ti106 : TI := ⟨.func, 1, 8, .nilf, false⟩
/-- 107: func(api.Update) api.Entry -/
def ti107 : TI := ⟨.func, 1, 8, .nilf, false⟩
/-- 108: func(api.Sig) []uint8 -/
def ti108 : TI := ⟨.func, 1, 8, .nilf, false⟩
/-- 109: func([]uint8) []uint8 -/
def ti109 : TI := ⟨.func, 1, 8, .nilf, false⟩
/-- 110: func(uint8, int64, []uint8) []uint8 -/
def ti110 : TI := ⟨.func, 1, 8, .nilf, false⟩
/-- 111: struct ( b []uint8; e api.Errno ) -/
def ti111 : TI := ⟨.struct [(0, 22), (1, 58)], 2, 32, .agg [.nils, .int .i64 0], false⟩
/-- 112: bin.Reader -/
def ti112 : TI := ⟨.struct [(0, 22), (1, 58)], 2, 32, .agg [.nils, .int .i64 0], false⟩
/-- 113: func(uint64) int -/
def ti113 : TI := ⟨.func, 1, 8, .nilf, false⟩
/-- 114: func() api.Errno -/
def ti114 : TI := ⟨.func, 1, 8, .nilf, false⟩
/-- 115: func(api.Errno) -/
def ti115 : TI := ⟨.func, 1, 8, .nilf, false⟩
/-- 116: func(int, int64, []uint8) ([]uint8, api.Errno) -/
def ti116 : TI := ⟨.func, 1, 8, .nilf, false⟩
/-- 117: func(api.Record) []uint8 -/
def ti117 : TI := ⟨.func, 1, 8, .nilf, false⟩
/-- 118: [32]uint8 -/
def ti118 : TI := ⟨.array 32 5, 32, 32, .vec 1 32 (fun _ => .int .u8 0), true⟩
/-- 119: api.Hash -/
def ti119 : TI := ⟨.array 32 5, 32, 32, .vec 1 32 (fun _ => .int .u8 0), true⟩
/-- 120: func(uint8, ...[]uint8) api.Hash -/
def ti120 : TI := ⟨.func, 1, 8, .nilf, false⟩
/-- 121: func(api.Entry) bool -/
def ti121 : TI := ⟨.func, 1, 8, .nilf, false⟩
/-- 122: func(uint64, uint64, uint64) uint64 -/
def ti122 : TI := ⟨.func, 1, 8, .nilf, false⟩
/-- 123: func(api.Hash) uint64 -/
def ti123 : TI := ⟨.func, 1, 8, .nilf, false⟩
/-- 124: func(uint64, uint64, []uint8) uint64 -/
def ti124 : TI := ⟨.func, 1, 8, .nilf, false⟩
/-- 125: func(int64) bool -/
def ti125 : TI := ⟨.func, 1, 8, .nilf, false⟩
/-- 126: func(...[]uint8) []uint8 -/
def ti126 : TI := ⟨.func, 1, 8, .nilf, false⟩
/-- 127: func(api.Update) ([]uint8, api.Errno) -/
def ti127 : TI := ⟨.func, 1, 8, .nilf, false⟩
/-- 128: func([]uint8) api.Hash -/
def ti128 : TI := ⟨.func, 1, 8, .nilf, false⟩
/-- 129: func(uint8, ...[]uint8) []uint8 -/
def ti129 : TI := ⟨.func, 1, 8, .nilf, false⟩
/-- 130: func(int) -/
def ti130 : TI := ⟨.func, 1, 8, .nilf, false⟩
/-- 131: [5]uint64 -/
def ti131 : TI := ⟨.array 5 39, 5, 40, .vec 1 5 (fun _ => .int .u64 0), true⟩
/-- 132: func([5]uint64) [5]uint64 -/
def ti132 : TI := ⟨.func, 1, 8, .nilf, false⟩
/-- 133: func([]uint8, int) []uint8 -/
def ti133 : TI := ⟨.func, 1, 8, .nilf, false⟩
/-- 134: [12]uint64 -/
def ti134 : TI := ⟨.array 12 39, 12, 96, .vec 1 12 (fun _ => .int .u64 0), true⟩
/-- 135: func([5]uint64, uint64) [5]uint64 -/
def ti135 : TI := ⟨.func, 1, 8, .nilf, false⟩
/-- 136: func(uint64, int) uint64 -/
def ti136 : TI := ⟨.func, 1, 8, .nilf, false⟩
/-- 137: func(uint64, int, int) uint64 -/
def ti137 : TI := ⟨.func, 1, 8, .nilf, false⟩
/-- 138: func() string -/
def ti138 : TI := ⟨.func, 1, 8, .nilf, false⟩
/-- 139: struct ( _interface *abi.Type; concrete *abi.Type; asserted *abi.Type; missingMethod string ) -/
def ti139 : TI := ⟨.struct [(0, 17), (1, 17), (2, 17), (3, 9)], 4, 40, .agg [.nilp, .nilp, .nilp, .str []], false⟩
/-- 140: runtime.TypeAssertionError -/
def ti140 : TI := ⟨.struct [(0, 17), (1, 17), (2, 17), (3, 9)], 4, 40, .agg [.nilp, .nilp, .nilp, .str []], false⟩
/-- 141: [0]*runtime.PanicNilError -/
def ti141 : TI := ⟨.array 0 16, 0, 0, .vec 1 0 (fun _ => .nilp), false⟩
/-- 142: struct ( _ [0]*runtime.PanicNilError ) -/
def ti142 : TI := ⟨.struct [(0, 141)], 0, 0, .agg [.vec 1 0 (fun _ => .nilp)], false⟩
/-- 143: runtime.PanicNilError -/
def ti143 : TI := ⟨.struct [(0, 141)], 0, 0, .agg [.vec 1 0 (fun _ => .nilp)], false⟩
/-- 144: uint32 -/
def ti144 : TI := ⟨.int .u32, 1, 4, .int .u32 0, false⟩
/-- 145: abi.TFlag -/
def ti145 : TI := ⟨.int .u8, 1, 1, .int .u8 0, false⟩
/-- 146: abi.Kind -/
def ti146 : TI := ⟨.int .u8, 1, 1, .int .u8 0, false⟩
/-- 147: func(unsafe.Pointer, unsafe.Pointer) bool -/
def ti147 : TI := ⟨.func, 1, 8, .nilf, false⟩
/-- 148: *uint8 -/
def ti148 : TI := ⟨.pointer 5, 1, 8, .nilp, false⟩
/-- 149: abi.NameOff -/
def ti149 : TI := ⟨.int .i32, 1, 4, .int .i32 0, false⟩
/-- 150: abi.TypeOff -/
def ti150 : TI := ⟨.int .i32, 1, 4, .int .i32 0, false⟩
/-- 151: struct ( Size_ uintptr; PtrBytes uintptr; Hash uint32; TFlag abi.TFlag; Align_ uint8; FieldAlign_ uint8; Kind_ abi.Kind; Equal func(unsafe.Pointer, unsafe.Pointer) bool; GCData *uint8; Str abi.NameOff; PtrToThis abi.TypeOff ) -/
def ti151 : TI := ⟨.struct [(0, 12), (1, 12), (2, 144), (3, 145), (4, 5), (5, 5), (6, 146), (7, 147), (8, 148), (9, 149), (10, 150)], 11, 48, .agg [.int .u64 0, .int .u64 0, .int .u32 0, .int .u8 0, .int .u8 0, .int .u8 0, .int .u8 0, .nilf, .nilp, .int .i32 0, .int .i32 0], false⟩
/-- 152: abi.Type -/
def ti152 : TI := ⟨.struct [(0, 12), (1, 12), (2, 144), (3, 145), (4, 5), (5, 5), (6, 146), (7, 147), (8, 148), (9, 149), (10, 150)], 11, 48, .agg [.int .u64 0, .int .u64 0, .int .u32 0, .int .u8 0, .int .u8 0, .int .u8 0, .int .u8 0, .nilf, .nilp, .int .i32 0, .int .i32 0], false⟩
/-- 153: unsafe.Pointer -/
def ti153 : TI := ⟨.other, 1, 8, .any, false⟩
def tabL : List TI := [ti0, ti1, ti2, ti3, ti4, ti5, ti6, ti7, ti8, ti9, ti10, ti11, ti12, ti13, ti14, ti15, ti16, ti17, ti18, ti19, ti20, ti21, ti22, ti23, ti24, ti25, ti26, ti27, ti28, ti29, ti30, ti31, ti32, ti33, ti34, ti35, ti36, ti37, ti38, ti39, ti40, ti41, ti42, ti43, ti44, ti45, ti46, ti47, ti48, ti49, ti50, ti51, ti52, ti53, ti54, ti55, ti56, ti57, ti58, ti59, ti60, ti61, ti62, ti63, ti64, ti65, ti66, ti67, ti68, ti69, ti70, ti71, ti72, ti73, ti74, ti75, ti76, ti77, ti78, ti79, ti80, ti81, ti82, ti83, ti84, ti85, ti86, ti87, ti88, ti89, ti90, ti91, ti92, ti93, ti94, ti95, ti96, ti97, ti98, ti99, ti100, ti101, ti102, ti103, ti104, ti105, ti106, ti107, ti108, ti109, ti110, ti111, ti112, ti113, ti114, ti115, ti116, ti117, ti118, ti119, ti120, ti121, ti122, ti123, ti124, ti125, ti126, ti127, ti128, ti129, ti130, ti131, ti132, ti133, ti134, ti135, ti136, ti137, ti138, ti139, ti140, ti141, ti142, ti143, ti144, ti145, ti146, ti147, ti148, ti149, ti150, ti151, ti152, ti153]
theorem tabOK : TabOK Try.prog tabL := TabOK.of_chk (by kernel_rfl)
/-- Sums of ints: exact, where they fit. -/
def T : Tab := { l := tabL }
/-- Sums of ints: as they wrap. -/
def Tw : Tab := { l := tabL, nowrap := false }
theorem TOK : TabOK Try.prog T.l := tabOK
theorem TwOK : TabOK Try.prog Tw.l := tabOK
end Go.Proofs.Ytcolghonbncpnaa
