/- What is used of each type of the program. Printed by a program. -/
import Derived.Test.YtdodgbhodkcckaaPv3
import Derived.Test.YtdodgbhodkcckaaProg
set_option maxRecDepth 100000
namespace Go.Proofs.Ytdodgbhodkcckaa.Pv
open Go
theorem T1 : tiOf Try.prog 1 = some ⟨.func, 1, 8, .nilFunc⟩ := by kernel_rfl
theorem T2 : tiOf Try.prog 2 = some ⟨.int .i64, 1, 8, .int .i64 0⟩ := by kernel_rfl
theorem T3 : tiOf Try.prog 3 = some ⟨.int .i64, 1, 8, .int .i64 0⟩ := by kernel_rfl
theorem T4 : tiOf Try.prog 4 = some ⟨.bool, 1, 1, .bool false⟩ := by kernel_rfl
theorem T5 : tiOf Try.prog 5 = some ⟨.int .u8, 1, 1, .int .u8 0⟩ := by kernel_rfl
theorem T6 : tiOf Try.prog 6 = some ⟨.int .u8, 1, 1, .int .u8 0⟩ := by kernel_rfl
theorem T7 : tiOf Try.prog 7 = some ⟨.struct [(0, 1, false), (1, 1, false), (2, 1, false), (3, 1, false)], 4, 24, .agg #[(.int .i64 0), (.int .i64 0), (.bool false), (.int .u8 0)]⟩ := by kernel_rfl
theorem T8 : tiOf Try.prog 8 = some ⟨.struct [(0, 1, false), (1, 1, false), (2, 1, false), (3, 1, false)], 4, 24, .agg #[(.int .i64 0), (.int .i64 0), (.bool false), (.int .u8 0)]⟩ := by kernel_rfl
theorem T9 : tiOf Try.prog 9 = some ⟨.string, 1, 16, .string ⟨#[]⟩⟩ := by kernel_rfl
theorem T10 : tiOf Try.prog 10 = some ⟨.string, 1, 16, .string ⟨#[]⟩⟩ := by kernel_rfl
theorem T11 : tiOf Try.prog 11 = some ⟨.string, 1, 16, .string ⟨#[]⟩⟩ := by kernel_rfl
theorem T12 : tiOf Try.prog 12 = some ⟨.int .u64, 1, 8, .int .u64 0⟩ := by kernel_rfl
theorem T13 : tiOf Try.prog 13 = some ⟨.struct [(0, 1, false), (1, 1, false)], 2, 24, .agg #[(.string ⟨#[]⟩), (.int .u64 0)]⟩ := by kernel_rfl
theorem T14 : tiOf Try.prog 14 = some ⟨.struct [(0, 1, false), (1, 1, false)], 2, 24, .agg #[(.string ⟨#[]⟩), (.int .u64 0)]⟩ := by kernel_rfl
theorem T15 : tiOf Try.prog 15 = some ⟨.ptr 351, 1, 8, .pointer none⟩ := by kernel_rfl
theorem T16 : tiOf Try.prog 16 = some ⟨.ptr 354, 1, 8, .pointer none⟩ := by kernel_rfl
theorem T17 : tiOf Try.prog 17 = some ⟨.ptr 363, 1, 8, .pointer none⟩ := by kernel_rfl
theorem T18 : tiOf Try.prog 18 = some ⟨.struct [(0, 1, false)], 1, 8, .agg #[(.pointer none)]⟩ := by kernel_rfl
theorem T19 : tiOf Try.prog 19 = some ⟨.struct [(0, 1, false)], 1, 8, .agg #[(.pointer none)]⟩ := by kernel_rfl
theorem T20 : tiOf Try.prog 20 = some ⟨.iface, 1, 16, .nilIface⟩ := by kernel_rfl
theorem T21 : tiOf Try.prog 21 = some ⟨.int .i32, 1, 4, .int .i32 0⟩ := by kernel_rfl
theorem T22 : tiOf Try.prog 22 = some ⟨.slice 36, 1, 24, .slice none 0 0⟩ := by kernel_rfl
theorem T23 : tiOf Try.prog 23 = some ⟨.array 2 3, 2, 16, .agg #[(.int .i64 0), (.int .i64 0)]⟩ := by kernel_rfl
theorem T24 : tiOf Try.prog 24 = some ⟨.func, 1, 8, .nilFunc⟩ := by kernel_rfl
theorem T25 : tiOf Try.prog 25 = some ⟨.slice 42, 1, 24, .slice none 0 0⟩ := by kernel_rfl
theorem T26 : tiOf Try.prog 26 = some ⟨.struct [(0, 1, false)], 1, 24, .agg #[(.slice none 0 0)]⟩ := by kernel_rfl
theorem T27 : tiOf Try.prog 27 = some ⟨.struct [(0, 1, false)], 1, 24, .agg #[(.slice none 0 0)]⟩ := by kernel_rfl
theorem T28 : tiOf Try.prog 28 = some ⟨.array 8 2, 8, 64, .agg #[(.int .i64 0), (.int .i64 0), (.int .i64 0), (.int .i64 0), (.int .i64 0), (.int .i64 0), (.int .i64 0), (.int .i64 0)]⟩ := by kernel_rfl
theorem T29 : tiOf Try.prog 29 = some ⟨.array 8 28, 64, 512, .agg #[(.int .i64 0), (.int .i64 0), (.int .i64 0), (.int .i64 0), (.int .i64 0), (.int .i64 0), (.int .i64 0), (.int .i64 0), (.int .i64 0), (.int .i64 0), (.int .i64 0), (.int .i64 0), (.int .i64 0), (.int .i64 0), (.int .i64 0), (.int .i64 0), (.int .i64 0), (.int .i64 0), (.int .i64 0), (.int .i64 0), (.int .i64 0), (.int .i64 0), (.int .i64 0), (.int .i64 0), (.int .i64 0), (.int .i64 0), (.int .i64 0), (.int .i64 0), (.int .i64 0), (.int .i64 0), (.int .i64 0), (.int .i64 0), (.int .i64 0), (.int .i64 0), (.int .i64 0), (.int .i64 0), (.int .i64 0), (.int .i64 0), (.int .i64 0), (.int .i64 0), (.int .i64 0), (.int .i64 0), (.int .i64 0), (.int .i64 0), (.int .i64 0), (.int .i64 0), (.int .i64 0), (.int .i64 0), (.int .i64 0), (.int .i64 0), (.int .i64 0), (.int .i64 0), (.int .i64 0), (.int .i64 0), (.int .i64 0), (.int .i64 0), (.int .i64 0), (.int .i64 0), (.int .i64 0), (.int .i64 0), (.int .i64 0), (.int .i64 0), (.int .i64 0), (.int .i64 0)]⟩ := by kernel_rfl
theorem T30 : tiOf Try.prog 30 = some ⟨.array 8 28, 64, 512, .agg #[(.int .i64 0), (.int .i64 0), (.int .i64 0), (.int .i64 0), (.int .i64 0), (.int .i64 0), (.int .i64 0), (.int .i64 0), (.int .i64 0), (.int .i64 0), (.int .i64 0), (.int .i64 0), (.int .i64 0), (.int .i64 0), (.int .i64 0), (.int .i64 0), (.int .i64 0), (.int .i64 0), (.int .i64 0), (.int .i64 0), (.int .i64 0), (.int .i64 0), (.int .i64 0), (.int .i64 0), (.int .i64 0), (.int .i64 0), (.int .i64 0), (.int .i64 0), (.int .i64 0), (.int .i64 0), (.int .i64 0), (.int .i64 0), (.int .i64 0), (.int .i64 0), (.int .i64 0), (.int .i64 0), (.int .i64 0), (.int .i64 0), (.int .i64 0), (.int .i64 0), (.int .i64 0), (.int .i64 0), (.int .i64 0), (.int .i64 0), (.int .i64 0), (.int .i64 0), (.int .i64 0), (.int .i64 0), (.int .i64 0), (.int .i64 0), (.int .i64 0), (.int .i64 0), (.int .i64 0), (.int .i64 0), (.int .i64 0), (.int .i64 0), (.int .i64 0), (.int .i64 0), (.int .i64 0), (.int .i64 0), (.int .i64 0), (.int .i64 0), (.int .i64 0), (.int .i64 0)]⟩ := by kernel_rfl
theorem T32 : tiOf Try.prog 32 = some ⟨.func, 1, 8, .nilFunc⟩ := by kernel_rfl
theorem T33 : tiOf Try.prog 33 = some ⟨.func, 1, 8, .nilFunc⟩ := by kernel_rfl
theorem T34 : tiOf Try.prog 34 = some ⟨.func, 1, 8, .nilFunc⟩ := by kernel_rfl
theorem T35 : tiOf Try.prog 35 = some ⟨.struct [(0, 1, false), (1, 1, false), (2, 1, false)], 3, 24, .agg #[(.int .i64 0), (.int .i64 0), (.int .i64 0)]⟩ := by kernel_rfl
theorem T36 : tiOf Try.prog 36 = some ⟨.struct [(0, 1, false), (1, 1, false), (2, 1, false)], 3, 24, .agg #[(.int .i64 0), (.int .i64 0), (.int .i64 0)]⟩ := by kernel_rfl
theorem T37 : tiOf Try.prog 37 = some ⟨.int .i64, 1, 8, .int .i64 0⟩ := by kernel_rfl
theorem T39 : tiOf Try.prog 39 = some ⟨.func, 1, 8, .nilFunc⟩ := by kernel_rfl
theorem T40 : tiOf Try.prog 40 = some ⟨.func, 1, 8, .nilFunc⟩ := by kernel_rfl
theorem T41 : tiOf Try.prog 41 = some ⟨.func, 1, 8, .nilFunc⟩ := by kernel_rfl
theorem T42 : tiOf Try.prog 42 = some ⟨.struct [(0, 1, false), (1, 1, false), (2, 1, false)], 3, 24, .agg #[(.int .i64 0), (.int .i64 0), (.int .i64 0)]⟩ := by kernel_rfl
theorem T43 : tiOf Try.prog 43 = some ⟨.func, 1, 8, .nilFunc⟩ := by kernel_rfl
theorem T44 : tiOf Try.prog 44 = some ⟨.func, 1, 8, .nilFunc⟩ := by kernel_rfl
theorem T45 : tiOf Try.prog 45 = some ⟨.func, 1, 8, .nilFunc⟩ := by kernel_rfl
theorem T46 : tiOf Try.prog 46 = some ⟨.func, 1, 8, .nilFunc⟩ := by kernel_rfl
theorem T47 : tiOf Try.prog 47 = some ⟨.slice 2, 1, 24, .slice none 0 0⟩ := by kernel_rfl
theorem T49 : tiOf Try.prog 49 = some ⟨.func, 1, 8, .nilFunc⟩ := by kernel_rfl
theorem T51 : tiOf Try.prog 51 = some ⟨.func, 1, 8, .nilFunc⟩ := by kernel_rfl
theorem T52 : tiOf Try.prog 52 = some ⟨.func, 1, 8, .nilFunc⟩ := by kernel_rfl
theorem T53 : tiOf Try.prog 53 = some ⟨.struct [(0, 1, false), (1, 1, false)], 2, 16, .agg #[(.int .i64 0), (.int .i64 0)]⟩ := by kernel_rfl
theorem T54 : tiOf Try.prog 54 = some ⟨.struct [(0, 1, false), (1, 1, false)], 2, 16, .agg #[(.int .i64 0), (.int .i64 0)]⟩ := by kernel_rfl
theorem T55 : tiOf Try.prog 55 = some ⟨.func, 1, 8, .nilFunc⟩ := by kernel_rfl
theorem T56 : tiOf Try.prog 56 = some ⟨.func, 1, 8, .nilFunc⟩ := by kernel_rfl
theorem T57 : tiOf Try.prog 57 = some ⟨.func, 1, 8, .nilFunc⟩ := by kernel_rfl
theorem T58 : tiOf Try.prog 58 = some ⟨.slice 70, 1, 24, .slice none 0 0⟩ := by kernel_rfl
theorem T59 : tiOf Try.prog 59 = some ⟨.slice 277, 1, 24, .slice none 0 0⟩ := by kernel_rfl
theorem T60 : tiOf Try.prog 60 = some ⟨.struct [(0, 1, false), (1, 1, false), (2, 1, false)], 3, 56, .agg #[(.int .i64 0), (.slice none 0 0), (.slice none 0 0)]⟩ := by kernel_rfl
theorem T61 : tiOf Try.prog 61 = some ⟨.struct [(0, 1, false), (1, 1, false), (2, 1, false)], 3, 56, .agg #[(.int .i64 0), (.slice none 0 0), (.slice none 0 0)]⟩ := by kernel_rfl
theorem T63 : tiOf Try.prog 63 = some ⟨.func, 1, 8, .nilFunc⟩ := by kernel_rfl
theorem T64 : tiOf Try.prog 64 = some ⟨.struct [(0, 1, false), (1, 1, false), (2, 1, false), (3, 1, false), (4, 1, false)], 5, 40, .agg #[(.int .i64 0), (.int .i64 0), (.int .i64 0), (.int .i64 0), (.bool false)]⟩ := by kernel_rfl
theorem T65 : tiOf Try.prog 65 = some ⟨.struct [(0, 1, false), (1, 1, false), (2, 1, false), (3, 1, false), (4, 1, false)], 5, 40, .agg #[(.int .i64 0), (.int .i64 0), (.int .i64 0), (.int .i64 0), (.bool false)]⟩ := by kernel_rfl
theorem T67 : tiOf Try.prog 67 = some ⟨.func, 1, 8, .nilFunc⟩ := by kernel_rfl
theorem T68 : tiOf Try.prog 68 = some ⟨.map 54 70, 1, 8, .map none⟩ := by kernel_rfl
theorem T69 : tiOf Try.prog 69 = some ⟨.struct [(0, 2, true), (2, 1, false), (3, 1, false), (4, 1, false), (5, 1, false), (6, 1, false), (7, 1, false)], 8, 64, .agg #[(.int .i64 0), (.int .i64 0), (.int .i64 0), (.int .i64 0), (.int .i64 0), (.int .i64 0), (.int .i64 0), (.int .i64 0)]⟩ := by kernel_rfl
theorem T70 : tiOf Try.prog 70 = some ⟨.struct [(0, 2, true), (2, 1, false), (3, 1, false), (4, 1, false), (5, 1, false), (6, 1, false), (7, 1, false)], 8, 64, .agg #[(.int .i64 0), (.int .i64 0), (.int .i64 0), (.int .i64 0), (.int .i64 0), (.int .i64 0), (.int .i64 0), (.int .i64 0)]⟩ := by kernel_rfl
theorem T71 : tiOf Try.prog 71 = some ⟨.func, 1, 8, .nilFunc⟩ := by kernel_rfl
theorem T72 : tiOf Try.prog 72 = some ⟨.array 3 61, 9, 168, .agg #[(.int .i64 0), (.slice none 0 0), (.slice none 0 0), (.int .i64 0), (.slice none 0 0), (.slice none 0 0), (.int .i64 0), (.slice none 0 0), (.slice none 0 0)]⟩ := by kernel_rfl
theorem T74 : tiOf Try.prog 74 = some ⟨.func, 1, 8, .nilFunc⟩ := by kernel_rfl
theorem T75 : tiOf Try.prog 75 = some ⟨.func, 1, 8, .nilFunc⟩ := by kernel_rfl
theorem T76 : tiOf Try.prog 76 = some ⟨.func, 1, 8, .nilFunc⟩ := by kernel_rfl
theorem T77 : tiOf Try.prog 77 = some ⟨.func, 1, 8, .nilFunc⟩ := by kernel_rfl
theorem T78 : tiOf Try.prog 78 = some ⟨.func, 1, 8, .nilFunc⟩ := by kernel_rfl
theorem T79 : tiOf Try.prog 79 = some ⟨.func, 1, 8, .nilFunc⟩ := by kernel_rfl
theorem T80 : tiOf Try.prog 80 = some ⟨.map 54 4, 1, 8, .map none⟩ := by kernel_rfl
theorem T81 : tiOf Try.prog 81 = some ⟨.func, 1, 8, .nilFunc⟩ := by kernel_rfl
theorem T82 : tiOf Try.prog 82 = some ⟨.func, 1, 8, .nilFunc⟩ := by kernel_rfl
theorem T83 : tiOf Try.prog 83 = some ⟨.slice 96, 1, 24, .slice none 0 0⟩ := by kernel_rfl
theorem T84 : tiOf Try.prog 84 = some ⟨.slice 110, 1, 24, .slice none 0 0⟩ := by kernel_rfl
theorem T85 : tiOf Try.prog 85 = some ⟨.struct [(0, 3, true), (3, 1, false), (4, 1, false)], 5, 88, .agg #[(.int .i64 0), (.slice none 0 0), (.slice none 0 0), (.int .i64 0), (.slice none 0 0)]⟩ := by kernel_rfl
theorem T86 : tiOf Try.prog 86 = some ⟨.struct [(0, 3, true), (3, 1, false), (4, 1, false)], 5, 88, .agg #[(.int .i64 0), (.slice none 0 0), (.slice none 0 0), (.int .i64 0), (.slice none 0 0)]⟩ := by kernel_rfl
theorem T88 : tiOf Try.prog 88 = some ⟨.func, 1, 8, .nilFunc⟩ := by kernel_rfl
theorem T89 : tiOf Try.prog 89 = some ⟨.slice 229, 1, 24, .slice none 0 0⟩ := by kernel_rfl
theorem T90 : tiOf Try.prog 90 = some ⟨.struct [(0, 1, false), (1, 1, false), (2, 1, false), (3, 1, false)], 4, 64, .agg #[(.int .i64 0), (.int .i64 0), (.slice none 0 0), (.slice none 0 0)]⟩ := by kernel_rfl
theorem T91 : tiOf Try.prog 91 = some ⟨.struct [(0, 1, false), (1, 1, false), (2, 1, false), (3, 1, false)], 4, 64, .agg #[(.int .i64 0), (.int .i64 0), (.slice none 0 0), (.slice none 0 0)]⟩ := by kernel_rfl
theorem T92 : tiOf Try.prog 92 = some ⟨.slice 142, 1, 24, .slice none 0 0⟩ := by kernel_rfl
theorem T93 : tiOf Try.prog 93 = some ⟨.struct [(0, 1, false), (1, 2, true), (3, 1, false), (4, 1, false), (5, 1, false), (6, 1, false), (7, 1, false), (8, 1, false), (9, 1, false), (10, 1, false)], 11, 120, .agg #[(.int .i64 0), (.int .i64 0), (.int .i64 0), (.int .i64 0), (.int .i64 0), (.int .i64 0), (.int .i64 0), (.int .i64 0), (.bool false), (.slice none 0 0), (.slice none 0 0)]⟩ := by kernel_rfl
theorem T94 : tiOf Try.prog 94 = some ⟨.struct [(0, 1, false), (1, 2, true), (3, 1, false), (4, 1, false), (5, 1, false), (6, 1, false), (7, 1, false), (8, 1, false), (9, 1, false), (10, 1, false)], 11, 120, .agg #[(.int .i64 0), (.int .i64 0), (.int .i64 0), (.int .i64 0), (.int .i64 0), (.int .i64 0), (.int .i64 0), (.int .i64 0), (.bool false), (.slice none 0 0), (.slice none 0 0)]⟩ := by kernel_rfl
theorem T95 : tiOf Try.prog 95 = some ⟨.struct [(0, 1, false), (1, 11, true)], 12, 128, .agg #[(.int .i64 0), (.int .i64 0), (.int .i64 0), (.int .i64 0), (.int .i64 0), (.int .i64 0), (.int .i64 0), (.int .i64 0), (.int .i64 0), (.bool false), (.slice none 0 0), (.slice none 0 0)]⟩ := by kernel_rfl
theorem T96 : tiOf Try.prog 96 = some ⟨.struct [(0, 1, false), (1, 11, true)], 12, 128, .agg #[(.int .i64 0), (.int .i64 0), (.int .i64 0), (.int .i64 0), (.int .i64 0), (.int .i64 0), (.int .i64 0), (.int .i64 0), (.int .i64 0), (.bool false), (.slice none 0 0), (.slice none 0 0)]⟩ := by kernel_rfl
theorem T98 : tiOf Try.prog 98 = some ⟨.func, 1, 8, .nilFunc⟩ := by kernel_rfl
theorem T99 : tiOf Try.prog 99 = some ⟨.slice 137, 1, 24, .slice none 0 0⟩ := by kernel_rfl
theorem T101 : tiOf Try.prog 101 = some ⟨.func, 1, 8, .nilFunc⟩ := by kernel_rfl
theorem T102 : tiOf Try.prog 102 = some ⟨.func, 1, 8, .nilFunc⟩ := by kernel_rfl
theorem T103 : tiOf Try.prog 103 = some ⟨.func, 1, 8, .nilFunc⟩ := by kernel_rfl
theorem T104 : tiOf Try.prog 104 = some ⟨.func, 1, 8, .nilFunc⟩ := by kernel_rfl
theorem T105 : tiOf Try.prog 105 = some ⟨.slice 4, 1, 24, .slice none 0 0⟩ := by kernel_rfl
theorem T106 : tiOf Try.prog 106 = some ⟨.array 2 86, 10, 176, .agg #[(.int .i64 0), (.slice none 0 0), (.slice none 0 0), (.int .i64 0), (.slice none 0 0), (.int .i64 0), (.slice none 0 0), (.slice none 0 0), (.int .i64 0), (.slice none 0 0)]⟩ := by kernel_rfl
theorem T107 : tiOf Try.prog 107 = some ⟨.slice 94, 1, 24, .slice none 0 0⟩ := by kernel_rfl
theorem T108 : tiOf Try.prog 108 = some ⟨.array 2 107, 2, 48, .agg #[(.slice none 0 0), (.slice none 0 0)]⟩ := by kernel_rfl
theorem T109 : tiOf Try.prog 109 = some ⟨.struct [(0, 1, false), (1, 11, true)], 12, 128, .agg #[(.int .i64 0), (.int .i64 0), (.int .i64 0), (.int .i64 0), (.int .i64 0), (.int .i64 0), (.int .i64 0), (.int .i64 0), (.int .i64 0), (.bool false), (.slice none 0 0), (.slice none 0 0)]⟩ := by kernel_rfl
theorem T110 : tiOf Try.prog 110 = some ⟨.struct [(0, 1, false), (1, 11, true)], 12, 128, .agg #[(.int .i64 0), (.int .i64 0), (.int .i64 0), (.int .i64 0), (.int .i64 0), (.int .i64 0), (.int .i64 0), (.int .i64 0), (.int .i64 0), (.bool false), (.slice none 0 0), (.slice none 0 0)]⟩ := by kernel_rfl
theorem T111 : tiOf Try.prog 111 = some ⟨.func, 1, 8, .nilFunc⟩ := by kernel_rfl
theorem T112 : tiOf Try.prog 112 = some ⟨.func, 1, 8, .nilFunc⟩ := by kernel_rfl
theorem T113 : tiOf Try.prog 113 = some ⟨.func, 1, 8, .nilFunc⟩ := by kernel_rfl
theorem T114 : tiOf Try.prog 114 = some ⟨.func, 1, 8, .nilFunc⟩ := by kernel_rfl
theorem T115 : tiOf Try.prog 115 = some ⟨.func, 1, 8, .nilFunc⟩ := by kernel_rfl
theorem T117 : tiOf Try.prog 117 = some ⟨.func, 1, 8, .nilFunc⟩ := by kernel_rfl
theorem T118 : tiOf Try.prog 118 = some ⟨.func, 1, 8, .nilFunc⟩ := by kernel_rfl
theorem T119 : tiOf Try.prog 119 = some ⟨.func, 1, 8, .nilFunc⟩ := by kernel_rfl
theorem T120 : tiOf Try.prog 120 = some ⟨.func, 1, 8, .nilFunc⟩ := by kernel_rfl
theorem T121 : tiOf Try.prog 121 = some ⟨.func, 1, 8, .nilFunc⟩ := by kernel_rfl
theorem T122 : tiOf Try.prog 122 = some ⟨.slice 132, 1, 24, .slice none 0 0⟩ := by kernel_rfl
theorem T123 : tiOf Try.prog 123 = some ⟨.func, 1, 8, .nilFunc⟩ := by kernel_rfl
theorem T125 : tiOf Try.prog 125 = some ⟨.func, 1, 8, .nilFunc⟩ := by kernel_rfl
theorem T126 : tiOf Try.prog 126 = some ⟨.slice 144, 1, 24, .slice none 0 0⟩ := by kernel_rfl
theorem T127 : tiOf Try.prog 127 = some ⟨.struct [(0, 1, false), (1, 1, false), (2, 1, false)], 3, 40, .agg #[(.int .i64 0), (.int .i64 0), (.slice none 0 0)]⟩ := by kernel_rfl
theorem T128 : tiOf Try.prog 128 = some ⟨.struct [(0, 1, false), (1, 1, false), (2, 1, false)], 3, 40, .agg #[(.int .i64 0), (.int .i64 0), (.slice none 0 0)]⟩ := by kernel_rfl
theorem T129 : tiOf Try.prog 129 = some ⟨.slice 234, 1, 24, .slice none 0 0⟩ := by kernel_rfl
theorem T130 : tiOf Try.prog 130 = some ⟨.struct [(0, 1, false), (1, 1, false), (2, 1, false)], 3, 40, .agg #[(.int .i64 0), (.int .i64 0), (.slice none 0 0)]⟩ := by kernel_rfl
theorem T131 : tiOf Try.prog 131 = some ⟨.struct [(0, 1, false), (1, 1, false), (2, 1, false)], 3, 40, .agg #[(.int .i64 0), (.int .i64 0), (.slice none 0 0)]⟩ := by kernel_rfl
theorem T132 : tiOf Try.prog 132 = some ⟨.struct [(0, 1, false), (1, 11, true)], 12, 128, .agg #[(.int .i64 0), (.int .i64 0), (.int .i64 0), (.int .i64 0), (.int .i64 0), (.int .i64 0), (.int .i64 0), (.int .i64 0), (.int .i64 0), (.bool false), (.slice none 0 0), (.slice none 0 0)]⟩ := by kernel_rfl
theorem T134 : tiOf Try.prog 134 = some ⟨.func, 1, 8, .nilFunc⟩ := by kernel_rfl
theorem T136 : tiOf Try.prog 136 = some ⟨.func, 1, 8, .nilFunc⟩ := by kernel_rfl
theorem T137 : tiOf Try.prog 137 = some ⟨.struct [(0, 1, false), (1, 11, true)], 12, 128, .agg #[(.int .i64 0), (.int .i64 0), (.int .i64 0), (.int .i64 0), (.int .i64 0), (.int .i64 0), (.int .i64 0), (.int .i64 0), (.int .i64 0), (.bool false), (.slice none 0 0), (.slice none 0 0)]⟩ := by kernel_rfl
theorem T138 : tiOf Try.prog 138 = some ⟨.func, 1, 8, .nilFunc⟩ := by kernel_rfl
theorem T139 : tiOf Try.prog 139 = some ⟨.func, 1, 8, .nilFunc⟩ := by kernel_rfl
theorem T140 : tiOf Try.prog 140 = some ⟨.func, 1, 8, .nilFunc⟩ := by kernel_rfl
theorem T141 : tiOf Try.prog 141 = some ⟨.struct [(0, 2, true), (2, 1, false), (3, 1, false)], 4, 32, .agg #[(.int .i64 0), (.int .i64 0), (.int .i64 0), (.int .i64 0)]⟩ := by kernel_rfl
theorem T142 : tiOf Try.prog 142 = some ⟨.struct [(0, 2, true), (2, 1, false), (3, 1, false)], 4, 32, .agg #[(.int .i64 0), (.int .i64 0), (.int .i64 0), (.int .i64 0)]⟩ := by kernel_rfl
theorem T143 : tiOf Try.prog 143 = some ⟨.struct [(0, 1, false), (1, 1, false), (2, 1, false), (3, 1, false)], 4, 48, .agg #[(.int .i64 0), (.int .i64 0), (.int .i64 0), (.slice none 0 0)]⟩ := by kernel_rfl
theorem T144 : tiOf Try.prog 144 = some ⟨.struct [(0, 1, false), (1, 1, false), (2, 1, false), (3, 1, false)], 4, 48, .agg #[(.int .i64 0), (.int .i64 0), (.int .i64 0), (.slice none 0 0)]⟩ := by kernel_rfl
theorem T146 : tiOf Try.prog 146 = some ⟨.func, 1, 8, .nilFunc⟩ := by kernel_rfl
theorem T147 : tiOf Try.prog 147 = some ⟨.func, 1, 8, .nilFunc⟩ := by kernel_rfl
theorem T148 : tiOf Try.prog 148 = some ⟨.func, 1, 8, .nilFunc⟩ := by kernel_rfl
theorem T149 : tiOf Try.prog 149 = some ⟨.slice 3, 1, 24, .slice none 0 0⟩ := by kernel_rfl
theorem T150 : tiOf Try.prog 150 = some ⟨.func, 1, 8, .nilFunc⟩ := by kernel_rfl
theorem T151 : tiOf Try.prog 151 = some ⟨.func, 1, 8, .nilFunc⟩ := by kernel_rfl
theorem T153 : tiOf Try.prog 153 = some ⟨.func, 1, 8, .nilFunc⟩ := by kernel_rfl
theorem T155 : tiOf Try.prog 155 = some ⟨.func, 1, 8, .nilFunc⟩ := by kernel_rfl
theorem T156 : tiOf Try.prog 156 = some ⟨.func, 1, 8, .nilFunc⟩ := by kernel_rfl
theorem T157 : tiOf Try.prog 157 = some ⟨.func, 1, 8, .nilFunc⟩ := by kernel_rfl
theorem T158 : tiOf Try.prog 158 = some ⟨.func, 1, 8, .nilFunc⟩ := by kernel_rfl
theorem T159 : tiOf Try.prog 159 = some ⟨.array 2 2, 2, 16, .agg #[(.int .i64 0), (.int .i64 0)]⟩ := by kernel_rfl
theorem T160 : tiOf Try.prog 160 = some ⟨.func, 1, 8, .nilFunc⟩ := by kernel_rfl
theorem T161 : tiOf Try.prog 161 = some ⟨.func, 1, 8, .nilFunc⟩ := by kernel_rfl
theorem T162 : tiOf Try.prog 162 = some ⟨.slice 92, 1, 24, .slice none 0 0⟩ := by kernel_rfl
theorem T163 : tiOf Try.prog 163 = some ⟨.func, 1, 8, .nilFunc⟩ := by kernel_rfl
theorem T164 : tiOf Try.prog 164 = some ⟨.func, 1, 8, .nilFunc⟩ := by kernel_rfl
theorem T165 : tiOf Try.prog 165 = some ⟨.func, 1, 8, .nilFunc⟩ := by kernel_rfl
theorem T166 : tiOf Try.prog 166 = some ⟨.func, 1, 8, .nilFunc⟩ := by kernel_rfl
theorem T167 : tiOf Try.prog 167 = some ⟨.func, 1, 8, .nilFunc⟩ := by kernel_rfl
theorem T168 : tiOf Try.prog 168 = some ⟨.slice 176, 1, 24, .slice none 0 0⟩ := by kernel_rfl
theorem T169 : tiOf Try.prog 169 = some ⟨.func, 1, 8, .nilFunc⟩ := by kernel_rfl
theorem T170 : tiOf Try.prog 170 = some ⟨.slice 187, 1, 24, .slice none 0 0⟩ := by kernel_rfl
theorem T171 : tiOf Try.prog 171 = some ⟨.struct [(0, 1, false), (1, 1, false)], 2, 32, .agg #[(.int .i64 0), (.slice none 0 0)]⟩ := by kernel_rfl
theorem T172 : tiOf Try.prog 172 = some ⟨.struct [(0, 1, false), (1, 1, false)], 2, 32, .agg #[(.int .i64 0), (.slice none 0 0)]⟩ := by kernel_rfl
theorem T173 : tiOf Try.prog 173 = some ⟨.slice 261, 1, 24, .slice none 0 0⟩ := by kernel_rfl
theorem T174 : tiOf Try.prog 174 = some ⟨.struct [(0, 1, false), (1, 1, false)], 2, 32, .agg #[(.int .i64 0), (.slice none 0 0)]⟩ := by kernel_rfl
theorem T175 : tiOf Try.prog 175 = some ⟨.struct [(0, 1, false), (1, 1, false)], 2, 32, .agg #[(.int .i64 0), (.slice none 0 0)]⟩ := by kernel_rfl
theorem T176 : tiOf Try.prog 176 = some ⟨.struct [(0, 1, false), (1, 11, true)], 12, 128, .agg #[(.int .i64 0), (.int .i64 0), (.int .i64 0), (.int .i64 0), (.int .i64 0), (.int .i64 0), (.int .i64 0), (.int .i64 0), (.int .i64 0), (.bool false), (.slice none 0 0), (.slice none 0 0)]⟩ := by kernel_rfl
theorem T178 : tiOf Try.prog 178 = some ⟨.func, 1, 8, .nilFunc⟩ := by kernel_rfl
theorem T180 : tiOf Try.prog 180 = some ⟨.func, 1, 8, .nilFunc⟩ := by kernel_rfl
theorem T181 : tiOf Try.prog 181 = some ⟨.func, 1, 8, .nilFunc⟩ := by kernel_rfl
theorem T182 : tiOf Try.prog 182 = some ⟨.func, 1, 8, .nilFunc⟩ := by kernel_rfl
theorem T183 : tiOf Try.prog 183 = some ⟨.map 3 4, 1, 8, .map none⟩ := by kernel_rfl
theorem T184 : tiOf Try.prog 184 = some ⟨.map 3 190, 1, 8, .map none⟩ := by kernel_rfl
theorem T185 : tiOf Try.prog 185 = some ⟨.slice 193, 1, 24, .slice none 0 0⟩ := by kernel_rfl
theorem T186 : tiOf Try.prog 186 = some ⟨.struct [(0, 1, false), (1, 1, false), (2, 1, false), (3, 1, false), (4, 1, false)], 5, 88, .agg #[(.int .i64 0), (.int .i64 0), (.slice none 0 0), (.slice none 0 0), (.slice none 0 0)]⟩ := by kernel_rfl
theorem T187 : tiOf Try.prog 187 = some ⟨.struct [(0, 1, false), (1, 1, false), (2, 1, false), (3, 1, false), (4, 1, false)], 5, 88, .agg #[(.int .i64 0), (.int .i64 0), (.slice none 0 0), (.slice none 0 0), (.slice none 0 0)]⟩ := by kernel_rfl
theorem T189 : tiOf Try.prog 189 = some ⟨.func, 1, 8, .nilFunc⟩ := by kernel_rfl
theorem T190 : tiOf Try.prog 190 = some ⟨.array 3 4, 3, 3, .agg #[(.bool false), (.bool false), (.bool false)]⟩ := by kernel_rfl
theorem T192 : tiOf Try.prog 192 = some ⟨.struct [(0, 1, false), (1, 1, false), (2, 1, false)], 3, 32, .agg #[(.bool false), (.bool false), (.slice none 0 0)]⟩ := by kernel_rfl
theorem T193 : tiOf Try.prog 193 = some ⟨.struct [(0, 1, false), (1, 1, false), (2, 1, false)], 3, 32, .agg #[(.bool false), (.bool false), (.slice none 0 0)]⟩ := by kernel_rfl
theorem T194 : tiOf Try.prog 194 = some ⟨.func, 1, 8, .nilFunc⟩ := by kernel_rfl
theorem T195 : tiOf Try.prog 195 = some ⟨.func, 1, 8, .nilFunc⟩ := by kernel_rfl
theorem T196 : tiOf Try.prog 196 = some ⟨.map 3 3, 1, 8, .map none⟩ := by kernel_rfl
theorem T198 : tiOf Try.prog 198 = some ⟨.func, 1, 8, .nilFunc⟩ := by kernel_rfl
theorem T199 : tiOf Try.prog 199 = some ⟨.func, 1, 8, .nilFunc⟩ := by kernel_rfl
theorem T200 : tiOf Try.prog 200 = some ⟨.func, 1, 8, .nilFunc⟩ := by kernel_rfl
theorem T201 : tiOf Try.prog 201 = some ⟨.func, 1, 8, .nilFunc⟩ := by kernel_rfl
theorem T202 : tiOf Try.prog 202 = some ⟨.func, 1, 8, .nilFunc⟩ := by kernel_rfl
theorem T203 : tiOf Try.prog 203 = some ⟨.func, 1, 8, .nilFunc⟩ := by kernel_rfl
theorem T204 : tiOf Try.prog 204 = some ⟨.struct [(0, 1, false), (1, 1, false)], 2, 32, .agg #[(.bool false), (.slice none 0 0)]⟩ := by kernel_rfl
theorem T205 : tiOf Try.prog 205 = some ⟨.struct [(0, 1, false), (1, 1, false)], 2, 32, .agg #[(.bool false), (.slice none 0 0)]⟩ := by kernel_rfl
theorem T206 : tiOf Try.prog 206 = some ⟨.func, 1, 8, .nilFunc⟩ := by kernel_rfl
theorem T207 : tiOf Try.prog 207 = some ⟨.func, 1, 8, .nilFunc⟩ := by kernel_rfl
theorem T209 : tiOf Try.prog 209 = some ⟨.func, 1, 8, .nilFunc⟩ := by kernel_rfl
theorem T210 : tiOf Try.prog 210 = some ⟨.func, 1, 8, .nilFunc⟩ := by kernel_rfl
theorem T211 : tiOf Try.prog 211 = some ⟨.func, 1, 8, .nilFunc⟩ := by kernel_rfl
theorem T212 : tiOf Try.prog 212 = some ⟨.func, 1, 8, .nilFunc⟩ := by kernel_rfl
theorem T213 : tiOf Try.prog 213 = some ⟨.func, 1, 8, .nilFunc⟩ := by kernel_rfl
theorem T214 : tiOf Try.prog 214 = some ⟨.func, 1, 8, .nilFunc⟩ := by kernel_rfl
theorem T215 : tiOf Try.prog 215 = some ⟨.func, 1, 8, .nilFunc⟩ := by kernel_rfl
theorem T216 : tiOf Try.prog 216 = some ⟨.func, 1, 8, .nilFunc⟩ := by kernel_rfl
theorem T217 : tiOf Try.prog 217 = some ⟨.func, 1, 8, .nilFunc⟩ := by kernel_rfl
theorem T218 : tiOf Try.prog 218 = some ⟨.func, 1, 8, .nilFunc⟩ := by kernel_rfl
theorem T219 : tiOf Try.prog 219 = some ⟨.func, 1, 8, .nilFunc⟩ := by kernel_rfl
theorem T220 : tiOf Try.prog 220 = some ⟨.func, 1, 8, .nilFunc⟩ := by kernel_rfl
theorem T221 : tiOf Try.prog 221 = some ⟨.slice 61, 1, 24, .slice none 0 0⟩ := by kernel_rfl
theorem T222 : tiOf Try.prog 222 = some ⟨.func, 1, 8, .nilFunc⟩ := by kernel_rfl
theorem T223 : tiOf Try.prog 223 = some ⟨.func, 1, 8, .nilFunc⟩ := by kernel_rfl
theorem T225 : tiOf Try.prog 225 = some ⟨.func, 1, 8, .nilFunc⟩ := by kernel_rfl
theorem T226 : tiOf Try.prog 226 = some ⟨.ptr 86, 1, 8, .pointer none⟩ := by kernel_rfl
theorem T227 : tiOf Try.prog 227 = some ⟨.func, 1, 8, .nilFunc⟩ := by kernel_rfl
theorem T228 : tiOf Try.prog 228 = some ⟨.struct [(0, 2, true), (2, 1, false)], 3, 24, .agg #[(.int .i64 0), (.int .i64 0), (.int .i64 0)]⟩ := by kernel_rfl
theorem T229 : tiOf Try.prog 229 = some ⟨.struct [(0, 2, true), (2, 1, false)], 3, 24, .agg #[(.int .i64 0), (.int .i64 0), (.int .i64 0)]⟩ := by kernel_rfl
theorem T230 : tiOf Try.prog 230 = some ⟨.func, 1, 8, .nilFunc⟩ := by kernel_rfl
theorem T231 : tiOf Try.prog 231 = some ⟨.func, 1, 8, .nilFunc⟩ := by kernel_rfl
theorem T232 : tiOf Try.prog 232 = some ⟨.func, 1, 8, .nilFunc⟩ := by kernel_rfl
theorem T233 : tiOf Try.prog 233 = some ⟨.func, 1, 8, .nilFunc⟩ := by kernel_rfl
theorem T234 : tiOf Try.prog 234 = some ⟨.struct [(0, 1, false), (1, 1, false), (2, 1, false), (3, 1, false)], 4, 48, .agg #[(.int .i64 0), (.int .i64 0), (.int .i64 0), (.slice none 0 0)]⟩ := by kernel_rfl
theorem T235 : tiOf Try.prog 235 = some ⟨.func, 1, 8, .nilFunc⟩ := by kernel_rfl
theorem T236 : tiOf Try.prog 236 = some ⟨.func, 1, 8, .nilFunc⟩ := by kernel_rfl
theorem T238 : tiOf Try.prog 238 = some ⟨.func, 1, 8, .nilFunc⟩ := by kernel_rfl
theorem T239 : tiOf Try.prog 239 = some ⟨.func, 1, 8, .nilFunc⟩ := by kernel_rfl
theorem T240 : tiOf Try.prog 240 = some ⟨.func, 1, 8, .nilFunc⟩ := by kernel_rfl
theorem T241 : tiOf Try.prog 241 = some ⟨.func, 1, 8, .nilFunc⟩ := by kernel_rfl
theorem T242 : tiOf Try.prog 242 = some ⟨.func, 1, 8, .nilFunc⟩ := by kernel_rfl
theorem T243 : tiOf Try.prog 243 = some ⟨.func, 1, 8, .nilFunc⟩ := by kernel_rfl
theorem T244 : tiOf Try.prog 244 = some ⟨.func, 1, 8, .nilFunc⟩ := by kernel_rfl
theorem T245 : tiOf Try.prog 245 = some ⟨.func, 1, 8, .nilFunc⟩ := by kernel_rfl
theorem T246 : tiOf Try.prog 246 = some ⟨.slice 47, 1, 24, .slice none 0 0⟩ := by kernel_rfl
theorem T247 : tiOf Try.prog 247 = some ⟨.func, 1, 8, .nilFunc⟩ := by kernel_rfl
theorem T248 : tiOf Try.prog 248 = some ⟨.func, 1, 8, .nilFunc⟩ := by kernel_rfl
theorem T249 : tiOf Try.prog 249 = some ⟨.func, 1, 8, .nilFunc⟩ := by kernel_rfl
theorem T250 : tiOf Try.prog 250 = some ⟨.func, 1, 8, .nilFunc⟩ := by kernel_rfl
theorem T251 : tiOf Try.prog 251 = some ⟨.func, 1, 8, .nilFunc⟩ := by kernel_rfl
theorem T252 : tiOf Try.prog 252 = some ⟨.func, 1, 8, .nilFunc⟩ := by kernel_rfl
theorem T253 : tiOf Try.prog 253 = some ⟨.func, 1, 8, .nilFunc⟩ := by kernel_rfl
theorem T254 : tiOf Try.prog 254 = some ⟨.func, 1, 8, .nilFunc⟩ := by kernel_rfl
theorem T255 : tiOf Try.prog 255 = some ⟨.func, 1, 8, .nilFunc⟩ := by kernel_rfl
theorem T256 : tiOf Try.prog 256 = some ⟨.func, 1, 8, .nilFunc⟩ := by kernel_rfl
theorem T257 : tiOf Try.prog 257 = some ⟨.func, 1, 8, .nilFunc⟩ := by kernel_rfl
theorem T258 : tiOf Try.prog 258 = some ⟨.array 8 4, 8, 8, .agg #[(.bool false), (.bool false), (.bool false), (.bool false), (.bool false), (.bool false), (.bool false), (.bool false)]⟩ := by kernel_rfl
theorem T259 : tiOf Try.prog 259 = some ⟨.array 8 92, 8, 192, .agg #[(.slice none 0 0), (.slice none 0 0), (.slice none 0 0), (.slice none 0 0), (.slice none 0 0), (.slice none 0 0), (.slice none 0 0), (.slice none 0 0)]⟩ := by kernel_rfl
theorem T260 : tiOf Try.prog 260 = some ⟨.struct [(0, 1, false), (1, 1, false), (2, 8, true), (10, 8, true), (18, 8, true), (26, 1, false), (27, 1, false)], 28, 272, .agg #[(.int .i64 0), (.int .i64 0), (.bool false), (.bool false), (.bool false), (.bool false), (.bool false), (.bool false), (.bool false), (.bool false), (.bool false), (.bool false), (.bool false), (.bool false), (.bool false), (.bool false), (.bool false), (.bool false), (.slice none 0 0), (.slice none 0 0), (.slice none 0 0), (.slice none 0 0), (.slice none 0 0), (.slice none 0 0), (.slice none 0 0), (.slice none 0 0), (.slice none 0 0), (.slice none 0 0)]⟩ := by kernel_rfl
theorem T261 : tiOf Try.prog 261 = some ⟨.struct [(0, 1, false), (1, 1, false), (2, 8, true), (10, 8, true), (18, 8, true), (26, 1, false), (27, 1, false)], 28, 272, .agg #[(.int .i64 0), (.int .i64 0), (.bool false), (.bool false), (.bool false), (.bool false), (.bool false), (.bool false), (.bool false), (.bool false), (.bool false), (.bool false), (.bool false), (.bool false), (.bool false), (.bool false), (.bool false), (.bool false), (.slice none 0 0), (.slice none 0 0), (.slice none 0 0), (.slice none 0 0), (.slice none 0 0), (.slice none 0 0), (.slice none 0 0), (.slice none 0 0), (.slice none 0 0), (.slice none 0 0)]⟩ := by kernel_rfl
theorem T262 : tiOf Try.prog 262 = some ⟨.func, 1, 8, .nilFunc⟩ := by kernel_rfl
theorem T263 : tiOf Try.prog 263 = some ⟨.func, 1, 8, .nilFunc⟩ := by kernel_rfl
theorem T264 : tiOf Try.prog 264 = some ⟨.func, 1, 8, .nilFunc⟩ := by kernel_rfl
theorem T265 : tiOf Try.prog 265 = some ⟨.int .u64, 1, 8, .int .u64 0⟩ := by kernel_rfl
theorem T266 : tiOf Try.prog 266 = some ⟨.func, 1, 8, .nilFunc⟩ := by kernel_rfl
theorem T267 : tiOf Try.prog 267 = some ⟨.func, 1, 8, .nilFunc⟩ := by kernel_rfl
theorem T268 : tiOf Try.prog 268 = some ⟨.func, 1, 8, .nilFunc⟩ := by kernel_rfl
theorem T269 : tiOf Try.prog 269 = some ⟨.func, 1, 8, .nilFunc⟩ := by kernel_rfl
theorem T270 : tiOf Try.prog 270 = some ⟨.func, 1, 8, .nilFunc⟩ := by kernel_rfl
theorem T271 : tiOf Try.prog 271 = some ⟨.int .u64, 1, 8, .int .u64 0⟩ := by kernel_rfl
theorem T272 : tiOf Try.prog 272 = some ⟨.struct [(0, 1, false), (1, 1, false)], 2, 16, .agg #[(.int .i64 0), (.int .u64 0)]⟩ := by kernel_rfl
theorem T273 : tiOf Try.prog 273 = some ⟨.struct [(0, 1, false), (1, 1, false)], 2, 16, .agg #[(.int .i64 0), (.int .u64 0)]⟩ := by kernel_rfl
theorem T274 : tiOf Try.prog 274 = some ⟨.func, 1, 8, .nilFunc⟩ := by kernel_rfl
theorem T275 : tiOf Try.prog 275 = some ⟨.func, 1, 8, .nilFunc⟩ := by kernel_rfl
theorem T276 : tiOf Try.prog 276 = some ⟨.struct [(0, 2, true), (2, 1, false)], 3, 24, .agg #[(.int .i64 0), (.int .i64 0), (.int .i64 0)]⟩ := by kernel_rfl
theorem T277 : tiOf Try.prog 277 = some ⟨.struct [(0, 2, true), (2, 1, false)], 3, 24, .agg #[(.int .i64 0), (.int .i64 0), (.int .i64 0)]⟩ := by kernel_rfl
theorem T278 : tiOf Try.prog 278 = some ⟨.func, 1, 8, .nilFunc⟩ := by kernel_rfl
theorem T279 : tiOf Try.prog 279 = some ⟨.func, 1, 8, .nilFunc⟩ := by kernel_rfl
theorem T280 : tiOf Try.prog 280 = some ⟨.func, 1, 8, .nilFunc⟩ := by kernel_rfl
theorem T281 : tiOf Try.prog 281 = some ⟨.func, 1, 8, .nilFunc⟩ := by kernel_rfl
theorem T282 : tiOf Try.prog 282 = some ⟨.func, 1, 8, .nilFunc⟩ := by kernel_rfl
theorem T283 : tiOf Try.prog 283 = some ⟨.func, 1, 8, .nilFunc⟩ := by kernel_rfl
theorem T284 : tiOf Try.prog 284 = some ⟨.func, 1, 8, .nilFunc⟩ := by kernel_rfl
theorem T285 : tiOf Try.prog 285 = some ⟨.func, 1, 8, .nilFunc⟩ := by kernel_rfl
theorem T287 : tiOf Try.prog 287 = some ⟨.func, 1, 8, .nilFunc⟩ := by kernel_rfl
theorem T288 : tiOf Try.prog 288 = some ⟨.func, 1, 8, .nilFunc⟩ := by kernel_rfl
theorem T290 : tiOf Try.prog 290 = some ⟨.func, 1, 8, .nilFunc⟩ := by kernel_rfl
theorem T291 : tiOf Try.prog 291 = some ⟨.func, 1, 8, .nilFunc⟩ := by kernel_rfl
theorem T292 : tiOf Try.prog 292 = some ⟨.func, 1, 8, .nilFunc⟩ := by kernel_rfl
theorem T293 : tiOf Try.prog 293 = some ⟨.func, 1, 8, .nilFunc⟩ := by kernel_rfl
theorem T294 : tiOf Try.prog 294 = some ⟨.func, 1, 8, .nilFunc⟩ := by kernel_rfl
theorem T295 : tiOf Try.prog 295 = some ⟨.func, 1, 8, .nilFunc⟩ := by kernel_rfl
theorem T296 : tiOf Try.prog 296 = some ⟨.func, 1, 8, .nilFunc⟩ := by kernel_rfl
theorem T297 : tiOf Try.prog 297 = some ⟨.func, 1, 8, .nilFunc⟩ := by kernel_rfl
theorem T298 : tiOf Try.prog 298 = some ⟨.func, 1, 8, .nilFunc⟩ := by kernel_rfl
theorem T299 : tiOf Try.prog 299 = some ⟨.func, 1, 8, .nilFunc⟩ := by kernel_rfl
theorem T300 : tiOf Try.prog 300 = some ⟨.func, 1, 8, .nilFunc⟩ := by kernel_rfl
theorem T301 : tiOf Try.prog 301 = some ⟨.func, 1, 8, .nilFunc⟩ := by kernel_rfl
theorem T302 : tiOf Try.prog 302 = some ⟨.func, 1, 8, .nilFunc⟩ := by kernel_rfl
theorem T303 : tiOf Try.prog 303 = some ⟨.func, 1, 8, .nilFunc⟩ := by kernel_rfl
theorem T304 : tiOf Try.prog 304 = some ⟨.func, 1, 8, .nilFunc⟩ := by kernel_rfl
theorem T305 : tiOf Try.prog 305 = some ⟨.func, 1, 8, .nilFunc⟩ := by kernel_rfl
theorem T306 : tiOf Try.prog 306 = some ⟨.func, 1, 8, .nilFunc⟩ := by kernel_rfl
theorem T307 : tiOf Try.prog 307 = some ⟨.func, 1, 8, .nilFunc⟩ := by kernel_rfl
theorem T308 : tiOf Try.prog 308 = some ⟨.func, 1, 8, .nilFunc⟩ := by kernel_rfl
theorem T309 : tiOf Try.prog 309 = some ⟨.func, 1, 8, .nilFunc⟩ := by kernel_rfl
theorem T310 : tiOf Try.prog 310 = some ⟨.func, 1, 8, .nilFunc⟩ := by kernel_rfl
theorem T311 : tiOf Try.prog 311 = some ⟨.func, 1, 8, .nilFunc⟩ := by kernel_rfl
theorem T312 : tiOf Try.prog 312 = some ⟨.func, 1, 8, .nilFunc⟩ := by kernel_rfl
theorem T313 : tiOf Try.prog 313 = some ⟨.func, 1, 8, .nilFunc⟩ := by kernel_rfl
theorem T314 : tiOf Try.prog 314 = some ⟨.func, 1, 8, .nilFunc⟩ := by kernel_rfl
theorem T315 : tiOf Try.prog 315 = some ⟨.func, 1, 8, .nilFunc⟩ := by kernel_rfl
theorem T316 : tiOf Try.prog 316 = some ⟨.func, 1, 8, .nilFunc⟩ := by kernel_rfl
theorem T317 : tiOf Try.prog 317 = some ⟨.func, 1, 8, .nilFunc⟩ := by kernel_rfl
theorem T318 : tiOf Try.prog 318 = some ⟨.func, 1, 8, .nilFunc⟩ := by kernel_rfl
theorem T319 : tiOf Try.prog 319 = some ⟨.func, 1, 8, .nilFunc⟩ := by kernel_rfl
theorem T320 : tiOf Try.prog 320 = some ⟨.func, 1, 8, .nilFunc⟩ := by kernel_rfl
theorem T321 : tiOf Try.prog 321 = some ⟨.func, 1, 8, .nilFunc⟩ := by kernel_rfl
theorem T322 : tiOf Try.prog 322 = some ⟨.int .i64, 1, 8, .int .i64 0⟩ := by kernel_rfl
theorem T324 : tiOf Try.prog 324 = some ⟨.func, 1, 8, .nilFunc⟩ := by kernel_rfl
theorem T325 : tiOf Try.prog 325 = some ⟨.func, 1, 8, .nilFunc⟩ := by kernel_rfl
theorem T326 : tiOf Try.prog 326 = some ⟨.func, 1, 8, .nilFunc⟩ := by kernel_rfl
theorem T327 : tiOf Try.prog 327 = some ⟨.func, 1, 8, .nilFunc⟩ := by kernel_rfl
theorem T328 : tiOf Try.prog 328 = some ⟨.func, 1, 8, .nilFunc⟩ := by kernel_rfl
theorem T329 : tiOf Try.prog 329 = some ⟨.int .u32, 1, 4, .int .u32 0⟩ := by kernel_rfl
theorem T330 : tiOf Try.prog 330 = some ⟨.func, 1, 8, .nilFunc⟩ := by kernel_rfl
theorem T331 : tiOf Try.prog 331 = some ⟨.func, 1, 8, .nilFunc⟩ := by kernel_rfl
theorem T332 : tiOf Try.prog 332 = some ⟨.func, 1, 8, .nilFunc⟩ := by kernel_rfl
theorem T333 : tiOf Try.prog 333 = some ⟨.func, 1, 8, .nilFunc⟩ := by kernel_rfl
theorem T334 : tiOf Try.prog 334 = some ⟨.func, 1, 8, .nilFunc⟩ := by kernel_rfl
theorem T335 : tiOf Try.prog 335 = some ⟨.func, 1, 8, .nilFunc⟩ := by kernel_rfl
theorem T336 : tiOf Try.prog 336 = some ⟨.func, 1, 8, .nilFunc⟩ := by kernel_rfl
theorem T337 : tiOf Try.prog 337 = some ⟨.func, 1, 8, .nilFunc⟩ := by kernel_rfl
theorem T338 : tiOf Try.prog 338 = some ⟨.int .u64, 1, 8, .int .u64 0⟩ := by kernel_rfl
theorem T339 : tiOf Try.prog 339 = some ⟨.func, 1, 8, .nilFunc⟩ := by kernel_rfl
theorem T340 : tiOf Try.prog 340 = some ⟨.func, 1, 8, .nilFunc⟩ := by kernel_rfl
theorem T341 : tiOf Try.prog 341 = some ⟨.func, 1, 8, .nilFunc⟩ := by kernel_rfl
theorem T342 : tiOf Try.prog 342 = some ⟨.ptr 3, 1, 8, .pointer none⟩ := by kernel_rfl
theorem T343 : tiOf Try.prog 343 = some ⟨.func, 1, 8, .nilFunc⟩ := by kernel_rfl
theorem T344 : tiOf Try.prog 344 = some ⟨.func, 1, 8, .nilFunc⟩ := by kernel_rfl
theorem T345 : tiOf Try.prog 345 = some ⟨.ptr 338, 1, 8, .pointer none⟩ := by kernel_rfl
theorem T347 : tiOf Try.prog 347 = some ⟨.func, 1, 8, .nilFunc⟩ := by kernel_rfl
theorem T348 : tiOf Try.prog 348 = some ⟨.func, 1, 8, .nilFunc⟩ := by kernel_rfl
theorem T349 : tiOf Try.prog 349 = some ⟨.func, 1, 8, .nilFunc⟩ := by kernel_rfl
theorem T350 : tiOf Try.prog 350 = some ⟨.struct [(0, 1, false), (1, 1, false), (2, 1, false), (3, 1, false)], 4, 40, .agg #[(.pointer none), (.pointer none), (.pointer none), (.string ⟨#[]⟩)]⟩ := by kernel_rfl
theorem T351 : tiOf Try.prog 351 = some ⟨.struct [(0, 1, false), (1, 1, false), (2, 1, false), (3, 1, false)], 4, 40, .agg #[(.pointer none), (.pointer none), (.pointer none), (.string ⟨#[]⟩)]⟩ := by kernel_rfl
theorem T352 : tiOf Try.prog 352 = some ⟨.array 0 16, 0, 0, .agg #[]⟩ := by kernel_rfl
theorem T353 : tiOf Try.prog 353 = some ⟨.struct [(0, 0, true)], 0, 0, .agg #[]⟩ := by kernel_rfl
theorem T354 : tiOf Try.prog 354 = some ⟨.struct [(0, 0, true)], 0, 0, .agg #[]⟩ := by kernel_rfl
theorem T355 : tiOf Try.prog 355 = some ⟨.func, 1, 8, .nilFunc⟩ := by kernel_rfl
theorem T356 : tiOf Try.prog 356 = some ⟨.int .u8, 1, 1, .int .u8 0⟩ := by kernel_rfl
theorem T357 : tiOf Try.prog 357 = some ⟨.int .u8, 1, 1, .int .u8 0⟩ := by kernel_rfl
theorem T358 : tiOf Try.prog 358 = some ⟨.func, 1, 8, .nilFunc⟩ := by kernel_rfl
theorem T359 : tiOf Try.prog 359 = some ⟨.ptr 5, 1, 8, .pointer none⟩ := by kernel_rfl
theorem T360 : tiOf Try.prog 360 = some ⟨.int .i32, 1, 4, .int .i32 0⟩ := by kernel_rfl
theorem T361 : tiOf Try.prog 361 = some ⟨.int .i32, 1, 4, .int .i32 0⟩ := by kernel_rfl
theorem T362 : tiOf Try.prog 362 = some ⟨.struct [(0, 1, false), (1, 1, false), (2, 1, false), (3, 1, false), (4, 1, false), (5, 1, false), (6, 1, false), (7, 1, false), (8, 1, false), (9, 1, false), (10, 1, false)], 11, 48, .agg #[(.int .u64 0), (.int .u64 0), (.int .u32 0), (.int .u8 0), (.int .u8 0), (.int .u8 0), (.int .u8 0), .nilFunc, (.pointer none), (.int .i32 0), (.int .i32 0)]⟩ := by kernel_rfl
theorem T363 : tiOf Try.prog 363 = some ⟨.struct [(0, 1, false), (1, 1, false), (2, 1, false), (3, 1, false), (4, 1, false), (5, 1, false), (6, 1, false), (7, 1, false), (8, 1, false), (9, 1, false), (10, 1, false)], 11, 48, .agg #[(.int .u64 0), (.int .u64 0), (.int .u32 0), (.int .u8 0), (.int .u8 0), (.int .u8 0), (.int .u8 0), .nilFunc, (.pointer none), (.int .i32 0), (.int .i32 0)]⟩ := by kernel_rfl
theorem T364 : tiOf Try.prog 364 = some ⟨.func, 1, 8, .nilFunc⟩ := by kernel_rfl
theorem E23 : eqOf Try.prog 23 = some [.int, .int] := by kernel_rfl
theorem E28 : eqOf Try.prog 28 = some [.int, .int, .int, .int, .int, .int, .int, .int] := by kernel_rfl
theorem E29 : eqOf Try.prog 29 = some [.int, .int, .int, .int, .int, .int, .int, .int, .int, .int, .int, .int, .int, .int, .int, .int, .int, .int, .int, .int, .int, .int, .int, .int, .int, .int, .int, .int, .int, .int, .int, .int, .int, .int, .int, .int, .int, .int, .int, .int, .int, .int, .int, .int, .int, .int, .int, .int, .int, .int, .int, .int, .int, .int, .int, .int, .int, .int, .int, .int, .int, .int, .int, .int] := by kernel_rfl
theorem E30 : eqOf Try.prog 30 = some [.int, .int, .int, .int, .int, .int, .int, .int, .int, .int, .int, .int, .int, .int, .int, .int, .int, .int, .int, .int, .int, .int, .int, .int, .int, .int, .int, .int, .int, .int, .int, .int, .int, .int, .int, .int, .int, .int, .int, .int, .int, .int, .int, .int, .int, .int, .int, .int, .int, .int, .int, .int, .int, .int, .int, .int, .int, .int, .int, .int, .int, .int, .int, .int] := by kernel_rfl
theorem E35 : eqOf Try.prog 35 = some [.int, .int, .int] := by kernel_rfl
theorem E36 : eqOf Try.prog 36 = some [.int, .int, .int] := by kernel_rfl
theorem E42 : eqOf Try.prog 42 = some [.int, .int, .int] := by kernel_rfl
theorem E53 : eqOf Try.prog 53 = some [.int, .int] := by kernel_rfl
theorem E54 : eqOf Try.prog 54 = some [.int, .int] := by kernel_rfl
theorem E64 : eqOf Try.prog 64 = some [.int, .int, .int, .int, .bool] := by kernel_rfl
theorem E65 : eqOf Try.prog 65 = some [.int, .int, .int, .int, .bool] := by kernel_rfl
theorem E69 : eqOf Try.prog 69 = some [.int, .int, .int, .int, .int, .int, .int, .int] := by kernel_rfl
theorem E70 : eqOf Try.prog 70 = some [.int, .int, .int, .int, .int, .int, .int, .int] := by kernel_rfl
theorem E141 : eqOf Try.prog 141 = some [.int, .int, .int, .int] := by kernel_rfl
theorem E142 : eqOf Try.prog 142 = some [.int, .int, .int, .int] := by kernel_rfl
theorem E159 : eqOf Try.prog 159 = some [.int, .int] := by kernel_rfl
theorem E190 : eqOf Try.prog 190 = some [.bool, .bool, .bool] := by kernel_rfl
theorem E228 : eqOf Try.prog 228 = some [.int, .int, .int] := by kernel_rfl
theorem E229 : eqOf Try.prog 229 = some [.int, .int, .int] := by kernel_rfl
theorem E258 : eqOf Try.prog 258 = some [.bool, .bool, .bool, .bool, .bool, .bool, .bool, .bool] := by kernel_rfl
theorem E272 : eqOf Try.prog 272 = some [.int, .int] := by kernel_rfl
theorem E273 : eqOf Try.prog 273 = some [.int, .int] := by kernel_rfl
theorem E276 : eqOf Try.prog 276 = some [.int, .int, .int] := by kernel_rfl
theorem E277 : eqOf Try.prog 277 = some [.int, .int, .int] := by kernel_rfl
attribute [go_sem] T1 T2 T3 T4 T5 T6 T7 T8 T9 T10 T11 T12 T13 T14 T15 T16 T17 T18 T19 T20 T21 T22 T23 T24 T25 T26 T27 T28 T29 T30 T32 T33 T34 T35 T36 T37 T39 T40 T41 T42 T43 T44 T45 T46 T47 T49 T51 T52 T53 T54 T55 T56 T57 T58 T59 T60 T61 T63 T64 T65 T67 T68 T69 T70 T71 T72 T74 T75 T76 T77 T78 T79 T80 T81 T82 T83 T84 T85 T86 T88 T89 T90 T91 T92 T93 T94 T95 T96 T98 T99 T101 T102 T103 T104 T105 T106 T107 T108 T109 T110 T111 T112 T113 T114 T115 T117 T118 T119 T120 T121 T122 T123 T125 T126 T127 T128 T129 T130 T131 T132 T134 T136 T137 T138 T139 T140 T141 T142 T143 T144 T146 T147 T148 T149 T150 T151 T153 T155 T156 T157 T158 T159 T160 T161 T162 T163 T164 T165 T166 T167 T168 T169 T170 T171 T172 T173 T174 T175 T176 T178 T180 T181 T182 T183 T184 T185 T186 T187 T189 T190 T192 T193 T194 T195 T196 T198 T199 T200 T201 T202 T203 T204 T205 T206 T207 T209 T210 T211 T212 T213 T214 T215 T216 T217 T218 T219 T220 T221 T222 T223 T225 T226 T227 T228 T229 T230 T231 T232 T233 T234 T235 T236 T238 T239 T240 T241 T242 T243 T244 T245 T246 T247 T248 T249 T250 T251 T252 T253 T254 T255 T256 T257 T258 T259 T260 T261 T262 T263 T264 T265 T266 T267 T268 T269 T270 T271 T272 T273 T274 T275 T276 T277 T278 T279 T280 T281 T282 T283 T284 T285 T287 T288 T290 T291 T292 T293 T294 T295 T296 T297 T298 T299 T300 T301 T302 T303 T304 T305 T306 T307 T308 T309 T310 T311 T312 T313 T314 T315 T316 T317 T318 T319 T320 T321 T322 T324 T325 T326 T327 T328 T329 T330 T331 T332 T333 T334 T335 T336 T337 T338 T339 T340 T341 T342 T343 T344 T345 T347 T348 T349 T350 T351 T352 T353 T354 T355 T356 T357 T358 T359 T360 T361 T362 T363 T364 E23 E28 E29 E30 E35 E36 E42 E53 E54 E64 E65 E69 E70 E141 E142 E159 E190 E228 E229 E258 E272 E273 E276 E277
end Go.Proofs.Ytdodgbhodkcckaa.Pv
