/- The types' rows and the calls' rows, written by a program of the prover's. -/
import Derived.Test.YtadkomdooleipaaGreatDoorKVx
import Derived.Test.YtadkomdooleipaaGreatDoorProg
import Derived.KernelRfl
namespace Go.Proofs
open Go.Sv
@[simp] theorem Tryz.ty1 : tyOf Tryz.prog 1 = some ⟨.other, 1, 8, [.val (.nilFunc)]⟩ := by kernel_rfl
@[simp] theorem Tryz.ty2 : tyOf Tryz.prog 2 = some ⟨(.int .i64), 1, 8, [.val (.int .i64 0)]⟩ := by kernel_rfl
@[simp] theorem Tryz.ty3 : tyOf Tryz.prog 3 = some ⟨(.int .i64), 1, 8, [.val (.int .i64 0)]⟩ := by kernel_rfl
@[simp] theorem Tryz.ty4 : tyOf Tryz.prog 4 = some ⟨.bool, 1, 1, [.val (.bool false)]⟩ := by kernel_rfl
@[simp] theorem Tryz.ty5 : tyOf Tryz.prog 5 = some ⟨(.int .u8), 1, 1, [.val (.int .u8 0)]⟩ := by kernel_rfl
@[simp] theorem Tryz.ty6 : tyOf Tryz.prog 6 = some ⟨(.int .u8), 1, 1, [.val (.int .u8 0)]⟩ := by kernel_rfl
@[simp] theorem Tryz.ty7 : tyOf Tryz.prog 7 = some ⟨(.st [(0, 1, 2), (1, 1, 3), (2, 1, 4), (3, 1, 6)]), 4, 24, [.val (.int .i64 0), .val (.int .i64 0), .val (.bool false), .val (.int .u8 0)]⟩ := by kernel_rfl
@[simp] theorem Tryz.ty8 : tyOf Tryz.prog 8 = some ⟨(.st [(0, 1, 2), (1, 1, 3), (2, 1, 4), (3, 1, 6)]), 4, 24, [.val (.int .i64 0), .val (.int .i64 0), .val (.bool false), .val (.int .u8 0)]⟩ := by kernel_rfl
@[simp] theorem Tryz.ty9 : tyOf Tryz.prog 9 = some ⟨.str, 1, 16, [.val (.string ByteArray.empty)]⟩ := by kernel_rfl
@[simp] theorem Tryz.ty10 : tyOf Tryz.prog 10 = some ⟨.str, 1, 16, [.val (.string ByteArray.empty)]⟩ := by kernel_rfl
@[simp] theorem Tryz.ty11 : tyOf Tryz.prog 11 = some ⟨.str, 1, 16, [.val (.string ByteArray.empty)]⟩ := by kernel_rfl
@[simp] theorem Tryz.ty12 : tyOf Tryz.prog 12 = some ⟨(.int .u64), 1, 8, [.val (.int .u64 0)]⟩ := by kernel_rfl
@[simp] theorem Tryz.ty13 : tyOf Tryz.prog 13 = some ⟨(.st [(0, 1, 9), (1, 1, 12)]), 2, 24, [.val (.string ByteArray.empty), .val (.int .u64 0)]⟩ := by kernel_rfl
@[simp] theorem Tryz.ty14 : tyOf Tryz.prog 14 = some ⟨(.st [(0, 1, 9), (1, 1, 12)]), 2, 24, [.val (.string ByteArray.empty), .val (.int .u64 0)]⟩ := by kernel_rfl
@[simp] theorem Tryz.ty15 : tyOf Tryz.prog 15 = some ⟨(.ptr 142), 1, 8, [.val (.pointer none)]⟩ := by kernel_rfl
@[simp] theorem Tryz.ty16 : tyOf Tryz.prog 16 = some ⟨(.ptr 145), 1, 8, [.val (.pointer none)]⟩ := by kernel_rfl
@[simp] theorem Tryz.ty17 : tyOf Tryz.prog 17 = some ⟨(.ptr 154), 1, 8, [.val (.pointer none)]⟩ := by kernel_rfl
@[simp] theorem Tryz.ty18 : tyOf Tryz.prog 18 = some ⟨(.st [(0, 1, 17)]), 1, 8, [.val (.pointer none)]⟩ := by kernel_rfl
@[simp] theorem Tryz.ty19 : tyOf Tryz.prog 19 = some ⟨(.st [(0, 1, 17)]), 1, 8, [.val (.pointer none)]⟩ := by kernel_rfl
@[simp] theorem Tryz.ty20 : tyOf Tryz.prog 20 = some ⟨.iface, 1, 16, [.val (.nilIface)]⟩ := by kernel_rfl
@[simp] theorem Tryz.ty21 : tyOf Tryz.prog 21 = some ⟨(.int .i32), 1, 4, [.val (.int .i32 0)]⟩ := by kernel_rfl
@[simp] theorem Tryz.ty22 : tyOf Tryz.prog 22 = some ⟨(.sl 26), 1, 24, [.val (.slice none 0 0)]⟩ := by kernel_rfl
@[simp] theorem Tryz.ty23 : tyOf Tryz.prog 23 = some ⟨(.sl 46), 1, 24, [.val (.slice none 0 0)]⟩ := by kernel_rfl
@[simp] theorem Tryz.ty24 : tyOf Tryz.prog 24 = some ⟨(.st [(0, 1, 22), (1, 1, 23)]), 2, 48, [.val (.slice none 0 0), .val (.slice none 0 0)]⟩ := by kernel_rfl
@[simp] theorem Tryz.ty25 : tyOf Tryz.prog 25 = some ⟨(.st [(0, 1, 22), (1, 1, 23)]), 2, 48, [.val (.slice none 0 0), .val (.slice none 0 0)]⟩ := by kernel_rfl
@[simp] theorem Tryz.ty26 : tyOf Tryz.prog 26 = some ⟨(.sl 3), 1, 24, [.val (.slice none 0 0)]⟩ := by kernel_rfl
@[simp] theorem Tryz.ty27 : tyOf Tryz.prog 27 = some ⟨.iface, 1, 16, [.val (.nilIface)]⟩ := by kernel_rfl
@[simp] theorem Tryz.ty28 : tyOf Tryz.prog 28 = some ⟨.iface, 1, 16, [.val (.nilIface)]⟩ := by kernel_rfl
@[simp] theorem Tryz.ty30 : tyOf Tryz.prog 30 = some ⟨.other, 1, 8, [.val (.nilFunc)]⟩ := by kernel_rfl
@[simp] theorem Tryz.ty31 : tyOf Tryz.prog 31 = some ⟨.other, 1, 8, [.val (.nilFunc)]⟩ := by kernel_rfl
@[simp] theorem Tryz.ty32 : tyOf Tryz.prog 32 = some ⟨.other, 1, 8, [.val (.nilFunc)]⟩ := by kernel_rfl
@[simp] theorem Tryz.ty33 : tyOf Tryz.prog 33 = some ⟨.other, 1, 8, [.val (.nilFunc)]⟩ := by kernel_rfl
@[simp] theorem Tryz.ty34 : tyOf Tryz.prog 34 = some ⟨.other, 1, 8, [.val (.nilFunc)]⟩ := by kernel_rfl
@[simp] theorem Tryz.ty35 : tyOf Tryz.prog 35 = some ⟨.other, 1, 8, [.val (.nilFunc)]⟩ := by kernel_rfl
@[simp] theorem Tryz.ty36 : tyOf Tryz.prog 36 = some ⟨.other, 1, 8, [.val (.nilFunc)]⟩ := by kernel_rfl
@[simp] theorem Tryz.ty38 : tyOf Tryz.prog 38 = some ⟨.other, 1, 8, [.val (.nilFunc)]⟩ := by kernel_rfl
@[simp] theorem Tryz.ty39 : tyOf Tryz.prog 39 = some ⟨.other, 1, 8, [.val (.nilFunc)]⟩ := by kernel_rfl
@[simp] theorem Tryz.ty40 : tyOf Tryz.prog 40 = some ⟨.other, 1, 8, [.val (.nilFunc)]⟩ := by kernel_rfl
@[simp] theorem Tryz.ty41 : tyOf Tryz.prog 41 = some ⟨.other, 1, 8, [.val (.nilFunc)]⟩ := by kernel_rfl
@[simp] theorem Tryz.ty42 : tyOf Tryz.prog 42 = some ⟨.other, 1, 8, [.val (.nilFunc)]⟩ := by kernel_rfl
@[simp] theorem Tryz.ty43 : tyOf Tryz.prog 43 = some ⟨(.ptr 48), 1, 8, [.val (.pointer none)]⟩ := by kernel_rfl
@[simp] theorem Tryz.ty44 : tyOf Tryz.prog 44 = some ⟨.other, 1, 8, [.val (.nilFunc)]⟩ := by kernel_rfl
@[simp] theorem Tryz.ty45 : tyOf Tryz.prog 45 = some ⟨(.st [(0, 1, 3), (1, 1, 26), (2, 1, 26), (3, 1, 26), (4, 1, 3), (5, 1, 22)]), 6, 112, [.val (.int .i64 0), .val (.slice none 0 0), .val (.slice none 0 0), .val (.slice none 0 0), .val (.int .i64 0), .val (.slice none 0 0)]⟩ := by kernel_rfl
@[simp] theorem Tryz.ty46 : tyOf Tryz.prog 46 = some ⟨(.st [(0, 1, 3), (1, 1, 26), (2, 1, 26), (3, 1, 26), (4, 1, 3), (5, 1, 22)]), 6, 112, [.val (.int .i64 0), .val (.slice none 0 0), .val (.slice none 0 0), .val (.slice none 0 0), .val (.int .i64 0), .val (.slice none 0 0)]⟩ := by kernel_rfl
@[simp] theorem Tryz.ty47 : tyOf Tryz.prog 47 = some ⟨(.st [(0, 2, 25), (2, 1, 22)]), 3, 72, [.val (.slice none 0 0), .val (.slice none 0 0), .val (.slice none 0 0)]⟩ := by kernel_rfl
@[simp] theorem Tryz.ty48 : tyOf Tryz.prog 48 = some ⟨(.st [(0, 2, 25), (2, 1, 22)]), 3, 72, [.val (.slice none 0 0), .val (.slice none 0 0), .val (.slice none 0 0)]⟩ := by kernel_rfl
@[simp] theorem Tryz.ty49 : tyOf Tryz.prog 49 = some ⟨.other, 1, 8, [.val (.nilFunc)]⟩ := by kernel_rfl
@[simp] theorem Tryz.ty50 : tyOf Tryz.prog 50 = some ⟨.other, 1, 8, [.val (.nilFunc)]⟩ := by kernel_rfl
@[simp] theorem Tryz.ty52 : tyOf Tryz.prog 52 = some ⟨.other, 1, 8, [.val (.nilFunc)]⟩ := by kernel_rfl
@[simp] theorem Tryz.ty53 : tyOf Tryz.prog 53 = some ⟨.other, 1, 8, [.val (.nilFunc)]⟩ := by kernel_rfl
@[simp] theorem Tryz.ty54 : tyOf Tryz.prog 54 = some ⟨.other, 1, 8, [.val (.nilFunc)]⟩ := by kernel_rfl
@[simp] theorem Tryz.ty55 : tyOf Tryz.prog 55 = some ⟨.other, 1, 8, [.val (.nilFunc)]⟩ := by kernel_rfl
@[simp] theorem Tryz.ty56 : tyOf Tryz.prog 56 = some ⟨.other, 1, 8, [.val (.nilFunc)]⟩ := by kernel_rfl
@[simp] theorem Tryz.ty58 : tyOf Tryz.prog 58 = some ⟨.other, 1, 8, [.val (.nilFunc)]⟩ := by kernel_rfl
@[simp] theorem Tryz.ty59 : tyOf Tryz.prog 59 = some ⟨.other, 1, 8, [.val (.nilFunc)]⟩ := by kernel_rfl
@[simp] theorem Tryz.ty60 : tyOf Tryz.prog 60 = some ⟨.other, 1, 8, [.val (.nilFunc)]⟩ := by kernel_rfl
@[simp] theorem Tryz.ty61 : tyOf Tryz.prog 61 = some ⟨.other, 1, 8, [.val (.nilFunc)]⟩ := by kernel_rfl
@[simp] theorem Tryz.ty62 : tyOf Tryz.prog 62 = some ⟨(.sl 28), 1, 24, [.val (.slice none 0 0)]⟩ := by kernel_rfl
@[simp] theorem Tryz.ty63 : tyOf Tryz.prog 63 = some ⟨.other, 1, 8, [.val (.nilFunc)]⟩ := by kernel_rfl
@[simp] theorem Tryz.ty64 : tyOf Tryz.prog 64 = some ⟨(.ptr 68), 1, 8, [.val (.pointer none)]⟩ := by kernel_rfl
@[simp] theorem Tryz.ty65 : tyOf Tryz.prog 65 = some ⟨.other, 1, 8, [.val (.nilFunc)]⟩ := by kernel_rfl
@[simp] theorem Tryz.ty66 : tyOf Tryz.prog 66 = some ⟨(.ptr 64), 1, 8, [.val (.pointer none)]⟩ := by kernel_rfl
@[simp] theorem Tryz.ty67 : tyOf Tryz.prog 67 = some ⟨(.st [(0, 1, 3), (1, 1, 28)]), 2, 24, [.val (.int .i64 0), .val (.nilIface)]⟩ := by kernel_rfl
@[simp] theorem Tryz.ty68 : tyOf Tryz.prog 68 = some ⟨(.st [(0, 1, 3), (1, 1, 28)]), 2, 24, [.val (.int .i64 0), .val (.nilIface)]⟩ := by kernel_rfl
@[simp] theorem Tryz.ty69 : tyOf Tryz.prog 69 = some ⟨.other, 1, 8, [.val (.nilFunc)]⟩ := by kernel_rfl
@[simp] theorem Tryz.ty70 : tyOf Tryz.prog 70 = some ⟨.other, 1, 8, [.val (.nilFunc)]⟩ := by kernel_rfl
@[simp] theorem Tryz.ty71 : tyOf Tryz.prog 71 = some ⟨.iface, 1, 16, [.val (.nilIface)]⟩ := by kernel_rfl
@[simp] theorem Tryz.ty72 : tyOf Tryz.prog 72 = some ⟨.iface, 1, 16, [.val (.nilIface)]⟩ := by kernel_rfl
@[simp] theorem Tryz.ty73 : tyOf Tryz.prog 73 = some ⟨.other, 1, 8, [.val (.nilFunc)]⟩ := by kernel_rfl
@[simp] theorem Tryz.ty74 : tyOf Tryz.prog 74 = some ⟨.other, 1, 8, [.val (.nilFunc)]⟩ := by kernel_rfl
@[simp] theorem Tryz.ty75 : tyOf Tryz.prog 75 = some ⟨.other, 1, 8, [.val (.nilFunc)]⟩ := by kernel_rfl
@[simp] theorem Tryz.ty76 : tyOf Tryz.prog 76 = some ⟨.iface, 1, 16, [.val (.nilIface)]⟩ := by kernel_rfl
@[simp] theorem Tryz.ty77 : tyOf Tryz.prog 77 = some ⟨.iface, 1, 16, [.val (.nilIface)]⟩ := by kernel_rfl
@[simp] theorem Tryz.ty78 : tyOf Tryz.prog 78 = some ⟨.other, 1, 8, [.val (.nilFunc)]⟩ := by kernel_rfl
@[simp] theorem Tryz.ty79 : tyOf Tryz.prog 79 = some ⟨.other, 1, 8, [.val (.nilFunc)]⟩ := by kernel_rfl
@[simp] theorem Tryz.ty80 : tyOf Tryz.prog 80 = some ⟨.other, 1, 8, [.val (.pointer none)]⟩ := by kernel_rfl
@[simp] theorem Tryz.ty81 : tyOf Tryz.prog 81 = some ⟨(.int .u64), 1, 8, [.val (.int .u64 0)]⟩ := by kernel_rfl
@[simp] theorem Tryz.ty82 : tyOf Tryz.prog 82 = some ⟨(.st [(0, 1, 17), (1, 1, 80), (2, 1, 81)]), 3, 24, [.val (.pointer none), .val (.pointer none), .val (.int .u64 0)]⟩ := by kernel_rfl
@[simp] theorem Tryz.ty83 : tyOf Tryz.prog 83 = some ⟨(.st [(0, 1, 17), (1, 1, 80), (2, 1, 81)]), 3, 24, [.val (.pointer none), .val (.pointer none), .val (.int .u64 0)]⟩ := by kernel_rfl
@[simp] theorem Tryz.ty84 : tyOf Tryz.prog 84 = some ⟨.other, 1, 8, [.val (.nilFunc)]⟩ := by kernel_rfl
@[simp] theorem Tryz.ty85 : tyOf Tryz.prog 85 = some ⟨.other, 1, 8, [.val (.nilFunc)]⟩ := by kernel_rfl
@[simp] theorem Tryz.ty86 : tyOf Tryz.prog 86 = some ⟨(.int .u8), 1, 1, [.val (.int .u8 0)]⟩ := by kernel_rfl
@[simp] theorem Tryz.ty87 : tyOf Tryz.prog 87 = some ⟨.other, 1, 8, [.val (.nilFunc)]⟩ := by kernel_rfl
@[simp] theorem Tryz.ty88 : tyOf Tryz.prog 88 = some ⟨.other, 1, 8, [.val (.nilFunc)]⟩ := by kernel_rfl
@[simp] theorem Tryz.ty89 : tyOf Tryz.prog 89 = some ⟨.other, 1, 8, [.val (.nilFunc)]⟩ := by kernel_rfl
@[simp] theorem Tryz.ty90 : tyOf Tryz.prog 90 = some ⟨.other, 1, 8, [.val (.nilFunc)]⟩ := by kernel_rfl
@[simp] theorem Tryz.ty91 : tyOf Tryz.prog 91 = some ⟨.other, 1, 8, [.val (.nilFunc)]⟩ := by kernel_rfl
@[simp] theorem Tryz.ty92 : tyOf Tryz.prog 92 = some ⟨(.st [(0, 6, 46)]), 6, 112, [.val (.int .i64 0), .val (.slice none 0 0), .val (.slice none 0 0), .val (.slice none 0 0), .val (.int .i64 0), .val (.slice none 0 0)]⟩ := by kernel_rfl
@[simp] theorem Tryz.ty93 : tyOf Tryz.prog 93 = some ⟨(.st [(0, 6, 46)]), 6, 112, [.val (.int .i64 0), .val (.slice none 0 0), .val (.slice none 0 0), .val (.slice none 0 0), .val (.int .i64 0), .val (.slice none 0 0)]⟩ := by kernel_rfl
@[simp] theorem Tryz.ty94 : tyOf Tryz.prog 94 = some ⟨(.st [(0, 6, 46)]), 6, 112, [.val (.int .i64 0), .val (.slice none 0 0), .val (.slice none 0 0), .val (.slice none 0 0), .val (.int .i64 0), .val (.slice none 0 0)]⟩ := by kernel_rfl
@[simp] theorem Tryz.ty95 : tyOf Tryz.prog 95 = some ⟨(.st [(0, 6, 46)]), 6, 112, [.val (.int .i64 0), .val (.slice none 0 0), .val (.slice none 0 0), .val (.slice none 0 0), .val (.int .i64 0), .val (.slice none 0 0)]⟩ := by kernel_rfl
@[simp] theorem Tryz.ty96 : tyOf Tryz.prog 96 = some ⟨(.st [(0, 6, 46)]), 6, 112, [.val (.int .i64 0), .val (.slice none 0 0), .val (.slice none 0 0), .val (.slice none 0 0), .val (.int .i64 0), .val (.slice none 0 0)]⟩ := by kernel_rfl
@[simp] theorem Tryz.ty97 : tyOf Tryz.prog 97 = some ⟨(.st [(0, 6, 46)]), 6, 112, [.val (.int .i64 0), .val (.slice none 0 0), .val (.slice none 0 0), .val (.slice none 0 0), .val (.int .i64 0), .val (.slice none 0 0)]⟩ := by kernel_rfl
@[simp] theorem Tryz.ty98 : tyOf Tryz.prog 98 = some ⟨.other, 1, 8, [.val (.nilFunc)]⟩ := by kernel_rfl
@[simp] theorem Tryz.ty99 : tyOf Tryz.prog 99 = some ⟨(.st [(0, 1, 17)]), 1, 8, [.val (.pointer none)]⟩ := by kernel_rfl
@[simp] theorem Tryz.ty100 : tyOf Tryz.prog 100 = some ⟨(.st [(0, 1, 17)]), 1, 8, [.val (.pointer none)]⟩ := by kernel_rfl
@[simp] theorem Tryz.ty101 : tyOf Tryz.prog 101 = some ⟨(.ptr 167), 1, 8, [.val (.pointer none)]⟩ := by kernel_rfl
@[simp] theorem Tryz.ty102 : tyOf Tryz.prog 102 = some ⟨.iface, 1, 16, [.val (.nilIface)]⟩ := by kernel_rfl
@[simp] theorem Tryz.ty104 : tyOf Tryz.prog 104 = some ⟨.other, 1, 8, [.val (.nilFunc)]⟩ := by kernel_rfl
@[simp] theorem Tryz.ty105 : tyOf Tryz.prog 105 = some ⟨.iface, 1, 16, [.val (.nilIface)]⟩ := by kernel_rfl
@[simp] theorem Tryz.ty106 : tyOf Tryz.prog 106 = some ⟨.other, 1, 8, [.val (.nilFunc)]⟩ := by kernel_rfl
@[simp] theorem Tryz.ty107 : tyOf Tryz.prog 107 = some ⟨.iface, 1, 16, [.val (.nilIface)]⟩ := by kernel_rfl
@[simp] theorem Tryz.ty108 : tyOf Tryz.prog 108 = some ⟨.other, 1, 8, [.val (.nilFunc)]⟩ := by kernel_rfl
@[simp] theorem Tryz.ty109 : tyOf Tryz.prog 109 = some ⟨.other, 1, 8, [.val (.nilFunc)]⟩ := by kernel_rfl
@[simp] theorem Tryz.ty110 : tyOf Tryz.prog 110 = some ⟨.other, 1, 8, [.val (.nilFunc)]⟩ := by kernel_rfl
@[simp] theorem Tryz.ty111 : tyOf Tryz.prog 111 = some ⟨.iface, 1, 16, [.val (.nilIface)]⟩ := by kernel_rfl
@[simp] theorem Tryz.ty113 : tyOf Tryz.prog 113 = some ⟨.other, 1, 8, [.val (.nilFunc)]⟩ := by kernel_rfl
@[simp] theorem Tryz.ty114 : tyOf Tryz.prog 114 = some ⟨.other, 1, 8, [.val (.nilFunc)]⟩ := by kernel_rfl
@[simp] theorem Tryz.ty115 : tyOf Tryz.prog 115 = some ⟨.other, 1, 8, [.val (.nilFunc)]⟩ := by kernel_rfl
@[simp] theorem Tryz.ty116 : tyOf Tryz.prog 116 = some ⟨.other, 1, 8, [.val (.nilFunc)]⟩ := by kernel_rfl
@[simp] theorem Tryz.ty117 : tyOf Tryz.prog 117 = some ⟨(.int .u64), 1, 8, [.val (.int .u64 0)]⟩ := by kernel_rfl
@[simp] theorem Tryz.ty118 : tyOf Tryz.prog 118 = some ⟨.other, 1, 8, [.val (.nilFunc)]⟩ := by kernel_rfl
@[simp] theorem Tryz.ty119 : tyOf Tryz.prog 119 = some ⟨(.int .i64), 1, 8, [.val (.int .i64 0)]⟩ := by kernel_rfl
@[simp] theorem Tryz.ty121 : tyOf Tryz.prog 121 = some ⟨.other, 1, 8, [.val (.nilFunc)]⟩ := by kernel_rfl
@[simp] theorem Tryz.ty122 : tyOf Tryz.prog 122 = some ⟨.other, 1, 8, [.val (.nilFunc)]⟩ := by kernel_rfl
@[simp] theorem Tryz.ty123 : tyOf Tryz.prog 123 = some ⟨.other, 1, 8, [.val (.nilFunc)]⟩ := by kernel_rfl
@[simp] theorem Tryz.ty124 : tyOf Tryz.prog 124 = some ⟨.other, 1, 8, [.val (.nilFunc)]⟩ := by kernel_rfl
@[simp] theorem Tryz.ty126 : tyOf Tryz.prog 126 = some ⟨.other, 1, 8, [.val (.nilFunc)]⟩ := by kernel_rfl
@[simp] theorem Tryz.ty127 : tyOf Tryz.prog 127 = some ⟨.other, 1, 8, [.val (.nilFunc)]⟩ := by kernel_rfl
@[simp] theorem Tryz.ty128 : tyOf Tryz.prog 128 = some ⟨(.int .u32), 1, 4, [.val (.int .u32 0)]⟩ := by kernel_rfl
@[simp] theorem Tryz.ty129 : tyOf Tryz.prog 129 = some ⟨.other, 1, 8, [.val (.nilFunc)]⟩ := by kernel_rfl
@[simp] theorem Tryz.ty130 : tyOf Tryz.prog 130 = some ⟨(.int .u64), 1, 8, [.val (.int .u64 0)]⟩ := by kernel_rfl
@[simp] theorem Tryz.ty131 : tyOf Tryz.prog 131 = some ⟨(.int .u64), 1, 8, [.val (.int .u64 0)]⟩ := by kernel_rfl
@[simp] theorem Tryz.ty132 : tyOf Tryz.prog 132 = some ⟨.other, 1, 8, [.val (.nilFunc)]⟩ := by kernel_rfl
@[simp] theorem Tryz.ty133 : tyOf Tryz.prog 133 = some ⟨.other, 1, 8, [.val (.nilFunc)]⟩ := by kernel_rfl
@[simp] theorem Tryz.ty134 : tyOf Tryz.prog 134 = some ⟨.other, 1, 8, [.val (.nilFunc)]⟩ := by kernel_rfl
@[simp] theorem Tryz.ty135 : tyOf Tryz.prog 135 = some ⟨(.ptr 3), 1, 8, [.val (.pointer none)]⟩ := by kernel_rfl
@[simp] theorem Tryz.ty136 : tyOf Tryz.prog 136 = some ⟨.other, 1, 8, [.val (.nilFunc)]⟩ := by kernel_rfl
@[simp] theorem Tryz.ty137 : tyOf Tryz.prog 137 = some ⟨(.ptr 131), 1, 8, [.val (.pointer none)]⟩ := by kernel_rfl
@[simp] theorem Tryz.ty138 : tyOf Tryz.prog 138 = some ⟨.other, 1, 8, [.val (.nilFunc)]⟩ := by kernel_rfl
@[simp] theorem Tryz.ty139 : tyOf Tryz.prog 139 = some ⟨(.ptr 169), 1, 8, [.val (.pointer none)]⟩ := by kernel_rfl
@[simp] theorem Tryz.ty140 : tyOf Tryz.prog 140 = some ⟨.other, 1, 8, [.val (.nilFunc)]⟩ := by kernel_rfl
@[simp] theorem Tryz.ty141 : tyOf Tryz.prog 141 = some ⟨(.st [(0, 1, 17), (1, 1, 17), (2, 1, 17), (3, 1, 9)]), 4, 40, [.val (.pointer none), .val (.pointer none), .val (.pointer none), .val (.string ByteArray.empty)]⟩ := by kernel_rfl
@[simp] theorem Tryz.ty142 : tyOf Tryz.prog 142 = some ⟨(.st [(0, 1, 17), (1, 1, 17), (2, 1, 17), (3, 1, 9)]), 4, 40, [.val (.pointer none), .val (.pointer none), .val (.pointer none), .val (.string ByteArray.empty)]⟩ := by kernel_rfl
@[simp] theorem Tryz.ty143 : tyOf Tryz.prog 143 = some ⟨(.arr 0 16), 0, 0, []⟩ := by kernel_rfl
@[simp] theorem Tryz.ty144 : tyOf Tryz.prog 144 = some ⟨(.st [(0, 0, 143)]), 0, 0, []⟩ := by kernel_rfl
@[simp] theorem Tryz.ty145 : tyOf Tryz.prog 145 = some ⟨(.st [(0, 0, 143)]), 0, 0, []⟩ := by kernel_rfl
@[simp] theorem Tryz.ty146 : tyOf Tryz.prog 146 = some ⟨.other, 1, 8, [.val (.nilFunc)]⟩ := by kernel_rfl
@[simp] theorem Tryz.ty147 : tyOf Tryz.prog 147 = some ⟨.other, 1, 8, [.val (.nilFunc)]⟩ := by kernel_rfl
@[simp] theorem Tryz.ty148 : tyOf Tryz.prog 148 = some ⟨(.int .u8), 1, 1, [.val (.int .u8 0)]⟩ := by kernel_rfl
@[simp] theorem Tryz.ty149 : tyOf Tryz.prog 149 = some ⟨.other, 1, 8, [.val (.nilFunc)]⟩ := by kernel_rfl
@[simp] theorem Tryz.ty150 : tyOf Tryz.prog 150 = some ⟨(.ptr 5), 1, 8, [.val (.pointer none)]⟩ := by kernel_rfl
@[simp] theorem Tryz.ty151 : tyOf Tryz.prog 151 = some ⟨(.int .i32), 1, 4, [.val (.int .i32 0)]⟩ := by kernel_rfl
@[simp] theorem Tryz.ty152 : tyOf Tryz.prog 152 = some ⟨(.int .i32), 1, 4, [.val (.int .i32 0)]⟩ := by kernel_rfl
@[simp] theorem Tryz.ty153 : tyOf Tryz.prog 153 = some ⟨(.st [(0, 1, 12), (1, 1, 12), (2, 1, 128), (3, 1, 148), (4, 1, 5), (5, 1, 5), (6, 1, 86), (7, 1, 149), (8, 1, 150), (9, 1, 151), (10, 1, 152)]), 11, 48, [.val (.int .u64 0), .val (.int .u64 0), .val (.int .u32 0), .val (.int .u8 0), .val (.int .u8 0), .val (.int .u8 0), .val (.int .u8 0), .val (.nilFunc), .val (.pointer none), .val (.int .i32 0), .val (.int .i32 0)]⟩ := by kernel_rfl
@[simp] theorem Tryz.ty154 : tyOf Tryz.prog 154 = some ⟨(.st [(0, 1, 12), (1, 1, 12), (2, 1, 128), (3, 1, 148), (4, 1, 5), (5, 1, 5), (6, 1, 86), (7, 1, 149), (8, 1, 150), (9, 1, 151), (10, 1, 152)]), 11, 48, [.val (.int .u64 0), .val (.int .u64 0), .val (.int .u32 0), .val (.int .u8 0), .val (.int .u8 0), .val (.int .u8 0), .val (.int .u8 0), .val (.nilFunc), .val (.pointer none), .val (.int .i32 0), .val (.int .i32 0)]⟩ := by kernel_rfl
@[simp] theorem Tryz.ty155 : tyOf Tryz.prog 155 = some ⟨.other, 1, 8, [.val (.nilFunc)]⟩ := by kernel_rfl
@[simp] theorem Tryz.ty156 : tyOf Tryz.prog 156 = some ⟨.other, 1, 8, [.val (.nilFunc)]⟩ := by kernel_rfl
@[simp] theorem Tryz.ty157 : tyOf Tryz.prog 157 = some ⟨.other, 1, 8, [.val (.nilFunc)]⟩ := by kernel_rfl
@[simp] theorem Tryz.ty158 : tyOf Tryz.prog 158 = some ⟨(.mp 3 3), 1, 8, [.val (.map none)]⟩ := by kernel_rfl
@[simp] theorem Tryz.ty159 : tyOf Tryz.prog 159 = some ⟨.other, 1, 8, [.val (.nilFunc)]⟩ := by kernel_rfl
@[simp] theorem Tryz.ty160 : tyOf Tryz.prog 160 = some ⟨.other, 1, 8, [.val (.nilFunc)]⟩ := by kernel_rfl
@[simp] theorem Tryz.ty161 : tyOf Tryz.prog 161 = some ⟨(.mp 3 4), 1, 8, [.val (.map none)]⟩ := by kernel_rfl
@[simp] theorem Tryz.ty162 : tyOf Tryz.prog 162 = some ⟨.other, 1, 8, [.val (.nilFunc)]⟩ := by kernel_rfl
@[simp] theorem Tryz.ty163 : tyOf Tryz.prog 163 = some ⟨.other, 1, 8, [.val (.nilFunc)]⟩ := by kernel_rfl
@[simp] theorem Tryz.ty164 : tyOf Tryz.prog 164 = some ⟨.other, 1, 8, [.val (.nilFunc)]⟩ := by kernel_rfl
@[simp] theorem Tryz.ty165 : tyOf Tryz.prog 165 = some ⟨.other, 1, 8, [.val (.nilFunc)]⟩ := by kernel_rfl
@[simp] theorem Tryz.ty166 : tyOf Tryz.prog 166 = some ⟨(.st [(0, 1, 9), (1, 1, 86)]), 2, 24, [.val (.string ByteArray.empty), .val (.int .u8 0)]⟩ := by kernel_rfl
@[simp] theorem Tryz.ty167 : tyOf Tryz.prog 167 = some ⟨(.st [(0, 1, 9), (1, 1, 86)]), 2, 24, [.val (.string ByteArray.empty), .val (.int .u8 0)]⟩ := by kernel_rfl
@[simp] theorem Tryz.ty168 : tyOf Tryz.prog 168 = some ⟨(.st [(0, 1, 9)]), 1, 16, [.val (.string ByteArray.empty)]⟩ := by kernel_rfl
@[simp] theorem Tryz.ty169 : tyOf Tryz.prog 169 = some ⟨(.st [(0, 1, 9)]), 1, 16, [.val (.string ByteArray.empty)]⟩ := by kernel_rfl
@[simp] theorem Tryz.ty170 : tyOf Tryz.prog 170 = some ⟨(.ptr 174), 1, 8, [.val (.pointer none)]⟩ := by kernel_rfl
@[simp] theorem Tryz.ty171 : tyOf Tryz.prog 171 = some ⟨.other, 1, 8, [.val (.nilFunc)]⟩ := by kernel_rfl
@[simp] theorem Tryz.ty172 : tyOf Tryz.prog 172 = some ⟨(.int .u16), 1, 2, [.val (.int .u16 0)]⟩ := by kernel_rfl
@[simp] theorem Tryz.ty173 : tyOf Tryz.prog 173 = some ⟨(.st [(0, 1, 151), (1, 1, 172), (2, 1, 172), (3, 1, 128), (4, 1, 128)]), 5, 16, [.val (.int .i32 0), .val (.int .u16 0), .val (.int .u16 0), .val (.int .u32 0), .val (.int .u32 0)]⟩ := by kernel_rfl
@[simp] theorem Tryz.ty174 : tyOf Tryz.prog 174 = some ⟨(.st [(0, 1, 151), (1, 1, 172), (2, 1, 172), (3, 1, 128), (4, 1, 128)]), 5, 16, [.val (.int .i32 0), .val (.int .u16 0), .val (.int .u16 0), .val (.int .u32 0), .val (.int .u32 0)]⟩ := by kernel_rfl
@[simp] theorem Tryz.ty175 : tyOf Tryz.prog 175 = some ⟨(.sl 178), 1, 24, [.val (.slice none 0 0)]⟩ := by kernel_rfl
@[simp] theorem Tryz.ty176 : tyOf Tryz.prog 176 = some ⟨(.int .i32), 1, 4, [.val (.int .i32 0)]⟩ := by kernel_rfl
@[simp] theorem Tryz.ty177 : tyOf Tryz.prog 177 = some ⟨(.st [(0, 1, 151), (1, 1, 152), (2, 1, 176), (3, 1, 176)]), 4, 16, [.val (.int .i32 0), .val (.int .i32 0), .val (.int .i32 0), .val (.int .i32 0)]⟩ := by kernel_rfl
@[simp] theorem Tryz.ty178 : tyOf Tryz.prog 178 = some ⟨(.st [(0, 1, 151), (1, 1, 152), (2, 1, 176), (3, 1, 176)]), 4, 16, [.val (.int .i32 0), .val (.int .i32 0), .val (.int .i32 0), .val (.int .i32 0)]⟩ := by kernel_rfl
@[simp] theorem Tryz.ty179 : tyOf Tryz.prog 179 = some ⟨.other, 1, 8, [.val (.nilFunc)]⟩ := by kernel_rfl
@[simp] theorem Tryz.ty180 : tyOf Tryz.prog 180 = some ⟨(.ptr 28), 1, 8, [.val (.pointer none)]⟩ := by kernel_rfl
@[simp] theorem Tryz.ok2 : callOK Tryz.prog 2 := fun a w => Tryz.call2 a w
@[simp] theorem Tryz.ok3 : callOK Tryz.prog 3 := fun a w => Tryz.call3 a w
@[simp] theorem Tryz.ok4 : callOK Tryz.prog 4 := fun a w => Tryz.call4 a w
@[simp] theorem Tryz.ok5 : callOK Tryz.prog 5 := fun a w => Tryz.call5 a w
@[simp] theorem Tryz.ok6 : callOK Tryz.prog 6 := fun a w => Tryz.call6 a w
@[simp] theorem Tryz.ok7 : callOK Tryz.prog 7 := fun a w => Tryz.call7 a w
@[simp] theorem Tryz.ok8 : callOK Tryz.prog 8 := fun a w => Tryz.call8 a w
@[simp] theorem Tryz.ok9 : callOK Tryz.prog 9 := fun a w => Tryz.call9 a w
@[simp] theorem Tryz.ok10 : callOK Tryz.prog 10 := fun a w => Tryz.call10 a w
@[simp] theorem Tryz.ok11 : callOK Tryz.prog 11 := fun a w => Tryz.call11 a w
@[simp] theorem Tryz.ok12 : callOK Tryz.prog 12 := fun a w => Tryz.call12 a w
@[simp] theorem Tryz.ok13 : callOK Tryz.prog 13 := fun a w => Tryz.call13 a w
@[simp] theorem Tryz.ok14 : callOK Tryz.prog 14 := fun a w => Tryz.call14 a w
@[simp] theorem Tryz.ok15 : callOK Tryz.prog 15 := fun a w => Tryz.call15 a w
@[simp] theorem Tryz.ok16 : callOK Tryz.prog 16 := fun a w => Tryz.call16 a w
@[simp] theorem Tryz.ok17 : callOK Tryz.prog 17 := fun a w => Tryz.call17 a w
@[simp] theorem Tryz.ok18 : callOK Tryz.prog 18 := fun a w => Tryz.call18 a w
@[simp] theorem Tryz.ok19 : callOK Tryz.prog 19 := fun a w => Tryz.call19 a w
@[simp] theorem Tryz.ok20 : callOK Tryz.prog 20 := fun a w => Tryz.call20 a w
@[simp] theorem Tryz.ok21 : callOK Tryz.prog 21 := fun a w => Tryz.call21 a w
@[simp] theorem Tryz.ok22 : callOK Tryz.prog 22 := fun a w => Tryz.call22 a w
@[simp] theorem Tryz.ok23 : callOK Tryz.prog 23 := fun a w => Tryz.call23 a w
@[simp] theorem Tryz.ok24 : callOK Tryz.prog 24 := fun a w => Tryz.call24 a w
@[simp] theorem Tryz.ok25 : callOK Tryz.prog 25 := fun a w => Tryz.call25 a w
@[simp] theorem Tryz.ok26 : callOK Tryz.prog 26 := fun a w => Tryz.call26 a w
@[simp] theorem Tryz.ok27 : callOK Tryz.prog 27 := fun a w => Tryz.call27 a w
@[simp] theorem Tryz.ok28 : callOK Tryz.prog 28 := fun a w => Tryz.call28 a w
@[simp] theorem Tryz.ok29 : callOK Tryz.prog 29 := fun a w => Tryz.call29 a w
@[simp] theorem Tryz.ok30 : callOK Tryz.prog 30 := fun a w => Tryz.call30 a w
@[simp] theorem Tryz.ok31 : callOK Tryz.prog 31 := fun a w => Tryz.call31 a w
@[simp] theorem Tryz.ok32 : callOK Tryz.prog 32 := fun a w => Tryz.call32 a w
@[simp] theorem Tryz.ok33 : callOK Tryz.prog 33 := fun a w => Tryz.call33 a w
@[simp] theorem Tryz.ok35 : callOK Tryz.prog 35 := fun a w => Tryz.call35 a w
@[simp] theorem Tryz.ok39 : callOK Tryz.prog 39 := fun a w => Tryz.call39 a w
@[simp] theorem Tryz.ok40 : callOK Tryz.prog 40 := fun a w => Tryz.call40 a w
@[simp] theorem Tryz.ok41 : callOK Tryz.prog 41 := fun a w => Tryz.call41 a w
@[simp] theorem Tryz.ok42 : callOK Tryz.prog 42 := fun a w => Tryz.call42 a w
@[simp] theorem Tryz.ok43 : callOK Tryz.prog 43 := fun a w => Tryz.call43 a w
@[simp] theorem Tryz.ok44 : callOK Tryz.prog 44 := fun a w => Tryz.call44 a w
@[simp] theorem Tryz.ok45 : callOK Tryz.prog 45 := fun a w => Tryz.call45 a w
@[simp] theorem Tryz.ok46 : callOK Tryz.prog 46 := fun a w => Tryz.call46 a w
@[simp] theorem Tryz.ok47 : callOK Tryz.prog 47 := fun a w => Tryz.call47 a w
@[simp] theorem Tryz.ok48 : callOK Tryz.prog 48 := fun a w => Tryz.call48 a w
@[simp] theorem Tryz.ok51 : callOK Tryz.prog 51 := fun a w => Tryz.call51 a w
@[simp] theorem Tryz.ok52 : callOK Tryz.prog 52 := fun a w => Tryz.call52 a w
@[simp] theorem Tryz.ok53 : callOK Tryz.prog 53 := fun a w => Tryz.call53 a w
@[simp] theorem Tryz.ok54 : callOK Tryz.prog 54 := fun a w => Tryz.call54 a w
@[simp] theorem Tryz.ok55 : callOK Tryz.prog 55 := fun a w => Tryz.call55 a w
@[simp] theorem Tryz.ok56 : callOK Tryz.prog 56 := fun a w => Tryz.call56 a w
@[simp] theorem Tryz.ok57 : callOK Tryz.prog 57 := fun a w => Tryz.call57 a w
@[simp] theorem Tryz.ok58 : callOK Tryz.prog 58 := fun a w => Tryz.call58 a w
@[simp] theorem Tryz.ok59 : callOK Tryz.prog 59 := fun a w => Tryz.call59 a w
@[simp] theorem Tryz.ok60 : callOK Tryz.prog 60 := fun a w => Tryz.call60 a w
@[simp] theorem Tryz.ok61 : callOK Tryz.prog 61 := fun a w => Tryz.call61 a w
@[simp] theorem Tryz.ok62 : callOK Tryz.prog 62 := fun a w => Tryz.call62 a w
@[simp] theorem Tryz.ok63 : callOK Tryz.prog 63 := fun a w => Tryz.call63 a w
@[simp] theorem Tryz.ok64 : callOK Tryz.prog 64 := fun a w => Tryz.call64 a w
@[simp] theorem Tryz.ok65 : callOK Tryz.prog 65 := fun a w => Tryz.call65 a w
@[simp] theorem Tryz.ok66 : callOK Tryz.prog 66 := fun a w => Tryz.call66 a w
@[simp] theorem Tryz.ok67 : callOK Tryz.prog 67 := fun a w => Tryz.call67 a w
@[simp] theorem Tryz.ok68 : callOK Tryz.prog 68 := fun a w => Tryz.call68 a w
@[simp] theorem Tryz.ok69 : callOK Tryz.prog 69 := fun a w => Tryz.call69 a w
@[simp] theorem Tryz.ok70 : callOK Tryz.prog 70 := fun a w => Tryz.call70 a w
@[simp] theorem Tryz.ok71 : callOK Tryz.prog 71 := fun a w => Tryz.call71 a w
@[simp] theorem Tryz.ok90 : callOK Tryz.prog 90 := fun a w => Tryz.call90 a w
@[simp] theorem Tryz.ok94 : callOK Tryz.prog 94 := fun a w => Tryz.call94 a w
@[simp] theorem Tryz.ok95 : callOK Tryz.prog 95 := fun a w => Tryz.call95 a w
@[simp] theorem Tryz.ok96 : callOK Tryz.prog 96 := fun a w => Tryz.call96 a w
@[simp] theorem Tryz.ok97 : callOK Tryz.prog 97 := fun a w => Tryz.call97 a w
@[simp] theorem Tryz.ok98 : callOK Tryz.prog 98 := fun a w => Tryz.call98 a w
@[simp] theorem Tryz.ok99 : callOK Tryz.prog 99 := fun a w => Tryz.call99 a w
@[simp] theorem Tryz.ok100 : callOK Tryz.prog 100 := fun a w => Tryz.call100 a w
@[simp] theorem Tryz.ok101 : callOK Tryz.prog 101 := fun a w => Tryz.call101 a w
@[simp] theorem Tryz.ok102 : callOK Tryz.prog 102 := fun a w => Tryz.call102 a w
@[simp] theorem Tryz.ok103 : callOK Tryz.prog 103 := fun a w => Tryz.call103 a w
@[simp] theorem Tryz.ok104 : callOK Tryz.prog 104 := fun a w => Tryz.call104 a w
@[simp] theorem Tryz.ok105 : callOK Tryz.prog 105 := fun a w => Tryz.call105 a w
@[simp] theorem Tryz.ok106 : callOK Tryz.prog 106 := fun a w => Tryz.call106 a w
@[simp] theorem Tryz.ok107 : callOK Tryz.prog 107 := fun a w => Tryz.call107 a w
@[simp] theorem Tryz.ok108 : callOK Tryz.prog 108 := fun a w => Tryz.call108 a w
@[simp] theorem Tryz.ok109 : callOK Tryz.prog 109 := fun a w => Tryz.call109 a w
@[simp] theorem Tryz.ok110 : callOK Tryz.prog 110 := fun a w => Tryz.call110 a w
@[simp] theorem Tryz.ok111 : callOK Tryz.prog 111 := fun a w => Tryz.call111 a w
@[simp] theorem Tryz.ok112 : callOK Tryz.prog 112 := fun a w => Tryz.call112 a w
@[simp] theorem Tryz.ok113 : callOK Tryz.prog 113 := fun a w => Tryz.call113 a w
@[simp] theorem Tryz.ok114 : callOK Tryz.prog 114 := fun a w => Tryz.call114 a w
@[simp] theorem Tryz.ok115 : callOK Tryz.prog 115 := fun a w => Tryz.call115 a w
@[simp] theorem Tryz.ok116 : callOK Tryz.prog 116 := fun a w => Tryz.call116 a w
@[simp] theorem Tryz.ok117 : callOK Tryz.prog 117 := fun a w => Tryz.call117 a w
@[simp] theorem Tryz.ok118 : callOK Tryz.prog 118 := fun a w => Tryz.call118 a w
@[simp] theorem Tryz.ok119 : callOK Tryz.prog 119 := fun a w => Tryz.call119 a w
@[simp] theorem Tryz.ok120 : callOK Tryz.prog 120 := fun a w => Tryz.call120 a w
@[simp] theorem Tryz.ok121 : callOK Tryz.prog 121 := fun a w => Tryz.call121 a w
@[simp] theorem Tryz.ok122 : callOK Tryz.prog 122 := fun a w => Tryz.call122 a w
@[simp] theorem Tryz.ok136 : callOK Tryz.prog 136 := fun a w => Tryz.call136 a w
@[simp] theorem Tryz.ok150 : callOK Tryz.prog 150 := fun a w => Tryz.call150 a w
end Go.Proofs

