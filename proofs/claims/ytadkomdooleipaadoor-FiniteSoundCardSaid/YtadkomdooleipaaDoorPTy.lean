/- The types' rows and the calls' rows, written by a program of the prover's. -/
import Derived.Test.YtadkomdooleipaaDoorPVx
import Derived.Test.YtadkomdooleipaaDoorProg
import Derived.KernelRfl
namespace Go.Proofs
open Go.Sv
@[simp] theorem Tryd.ty1 : tyOf Tryd.prog 1 = some ⟨.other, 1, 8, [.val (.nilFunc)]⟩ := by kernel_rfl
@[simp] theorem Tryd.ty2 : tyOf Tryd.prog 2 = some ⟨(.int .i64), 1, 8, [.val (.int .i64 0)]⟩ := by kernel_rfl
@[simp] theorem Tryd.ty3 : tyOf Tryd.prog 3 = some ⟨(.int .i64), 1, 8, [.val (.int .i64 0)]⟩ := by kernel_rfl
@[simp] theorem Tryd.ty4 : tyOf Tryd.prog 4 = some ⟨.bool, 1, 1, [.val (.bool false)]⟩ := by kernel_rfl
@[simp] theorem Tryd.ty5 : tyOf Tryd.prog 5 = some ⟨(.int .u8), 1, 1, [.val (.int .u8 0)]⟩ := by kernel_rfl
@[simp] theorem Tryd.ty6 : tyOf Tryd.prog 6 = some ⟨(.int .u8), 1, 1, [.val (.int .u8 0)]⟩ := by kernel_rfl
@[simp] theorem Tryd.ty7 : tyOf Tryd.prog 7 = some ⟨(.st [(0, 1, 2), (1, 1, 3), (2, 1, 4), (3, 1, 6)]), 4, 24, [.val (.int .i64 0), .val (.int .i64 0), .val (.bool false), .val (.int .u8 0)]⟩ := by kernel_rfl
@[simp] theorem Tryd.ty8 : tyOf Tryd.prog 8 = some ⟨(.st [(0, 1, 2), (1, 1, 3), (2, 1, 4), (3, 1, 6)]), 4, 24, [.val (.int .i64 0), .val (.int .i64 0), .val (.bool false), .val (.int .u8 0)]⟩ := by kernel_rfl
@[simp] theorem Tryd.ty9 : tyOf Tryd.prog 9 = some ⟨.str, 1, 16, [.val (.string ByteArray.empty)]⟩ := by kernel_rfl
@[simp] theorem Tryd.ty10 : tyOf Tryd.prog 10 = some ⟨.str, 1, 16, [.val (.string ByteArray.empty)]⟩ := by kernel_rfl
@[simp] theorem Tryd.ty11 : tyOf Tryd.prog 11 = some ⟨.str, 1, 16, [.val (.string ByteArray.empty)]⟩ := by kernel_rfl
@[simp] theorem Tryd.ty12 : tyOf Tryd.prog 12 = some ⟨(.int .u64), 1, 8, [.val (.int .u64 0)]⟩ := by kernel_rfl
@[simp] theorem Tryd.ty13 : tyOf Tryd.prog 13 = some ⟨(.st [(0, 1, 9), (1, 1, 12)]), 2, 24, [.val (.string ByteArray.empty), .val (.int .u64 0)]⟩ := by kernel_rfl
@[simp] theorem Tryd.ty14 : tyOf Tryd.prog 14 = some ⟨(.st [(0, 1, 9), (1, 1, 12)]), 2, 24, [.val (.string ByteArray.empty), .val (.int .u64 0)]⟩ := by kernel_rfl
@[simp] theorem Tryd.ty15 : tyOf Tryd.prog 15 = some ⟨(.ptr 147), 1, 8, [.val (.pointer none)]⟩ := by kernel_rfl
@[simp] theorem Tryd.ty16 : tyOf Tryd.prog 16 = some ⟨(.ptr 150), 1, 8, [.val (.pointer none)]⟩ := by kernel_rfl
@[simp] theorem Tryd.ty17 : tyOf Tryd.prog 17 = some ⟨(.ptr 159), 1, 8, [.val (.pointer none)]⟩ := by kernel_rfl
@[simp] theorem Tryd.ty18 : tyOf Tryd.prog 18 = some ⟨(.st [(0, 1, 17)]), 1, 8, [.val (.pointer none)]⟩ := by kernel_rfl
@[simp] theorem Tryd.ty19 : tyOf Tryd.prog 19 = some ⟨(.st [(0, 1, 17)]), 1, 8, [.val (.pointer none)]⟩ := by kernel_rfl
@[simp] theorem Tryd.ty20 : tyOf Tryd.prog 20 = some ⟨.iface, 1, 16, [.val (.nilIface)]⟩ := by kernel_rfl
@[simp] theorem Tryd.ty21 : tyOf Tryd.prog 21 = some ⟨(.int .i32), 1, 4, [.val (.int .i32 0)]⟩ := by kernel_rfl
@[simp] theorem Tryd.ty22 : tyOf Tryd.prog 22 = some ⟨(.sl 37), 1, 24, [.val (.slice none 0 0)]⟩ := by kernel_rfl
@[simp] theorem Tryd.ty23 : tyOf Tryd.prog 23 = some ⟨(.sl 46), 1, 24, [.val (.slice none 0 0)]⟩ := by kernel_rfl
@[simp] theorem Tryd.ty24 : tyOf Tryd.prog 24 = some ⟨(.st [(0, 1, 22), (1, 1, 23)]), 2, 48, [.val (.slice none 0 0), .val (.slice none 0 0)]⟩ := by kernel_rfl
@[simp] theorem Tryd.ty25 : tyOf Tryd.prog 25 = some ⟨(.st [(0, 1, 22), (1, 1, 23)]), 2, 48, [.val (.slice none 0 0), .val (.slice none 0 0)]⟩ := by kernel_rfl
@[simp] theorem Tryd.ty26 : tyOf Tryd.prog 26 = some ⟨.other, 1, 8, [.val (.nilFunc)]⟩ := by kernel_rfl
@[simp] theorem Tryd.ty27 : tyOf Tryd.prog 27 = some ⟨.other, 1, 8, [.val (.nilFunc)]⟩ := by kernel_rfl
@[simp] theorem Tryd.ty28 : tyOf Tryd.prog 28 = some ⟨.iface, 1, 16, [.val (.nilIface)]⟩ := by kernel_rfl
@[simp] theorem Tryd.ty29 : tyOf Tryd.prog 29 = some ⟨.iface, 1, 16, [.val (.nilIface)]⟩ := by kernel_rfl
@[simp] theorem Tryd.ty31 : tyOf Tryd.prog 31 = some ⟨.other, 1, 8, [.val (.nilFunc)]⟩ := by kernel_rfl
@[simp] theorem Tryd.ty32 : tyOf Tryd.prog 32 = some ⟨.other, 1, 8, [.val (.nilFunc)]⟩ := by kernel_rfl
@[simp] theorem Tryd.ty33 : tyOf Tryd.prog 33 = some ⟨.other, 1, 8, [.val (.nilFunc)]⟩ := by kernel_rfl
@[simp] theorem Tryd.ty35 : tyOf Tryd.prog 35 = some ⟨.other, 1, 8, [.val (.nilFunc)]⟩ := by kernel_rfl
@[simp] theorem Tryd.ty36 : tyOf Tryd.prog 36 = some ⟨.other, 1, 8, [.val (.nilFunc)]⟩ := by kernel_rfl
@[simp] theorem Tryd.ty37 : tyOf Tryd.prog 37 = some ⟨(.sl 3), 1, 24, [.val (.slice none 0 0)]⟩ := by kernel_rfl
@[simp] theorem Tryd.ty39 : tyOf Tryd.prog 39 = some ⟨.other, 1, 8, [.val (.nilFunc)]⟩ := by kernel_rfl
@[simp] theorem Tryd.ty40 : tyOf Tryd.prog 40 = some ⟨.other, 1, 8, [.val (.nilFunc)]⟩ := by kernel_rfl
@[simp] theorem Tryd.ty41 : tyOf Tryd.prog 41 = some ⟨.other, 1, 8, [.val (.nilFunc)]⟩ := by kernel_rfl
@[simp] theorem Tryd.ty42 : tyOf Tryd.prog 42 = some ⟨.other, 1, 8, [.val (.nilFunc)]⟩ := by kernel_rfl
@[simp] theorem Tryd.ty44 : tyOf Tryd.prog 44 = some ⟨.other, 1, 8, [.val (.nilFunc)]⟩ := by kernel_rfl
@[simp] theorem Tryd.ty45 : tyOf Tryd.prog 45 = some ⟨(.st [(0, 1, 3), (1, 1, 37), (2, 1, 37), (3, 1, 37), (4, 1, 3), (5, 1, 22)]), 6, 112, [.val (.int .i64 0), .val (.slice none 0 0), .val (.slice none 0 0), .val (.slice none 0 0), .val (.int .i64 0), .val (.slice none 0 0)]⟩ := by kernel_rfl
@[simp] theorem Tryd.ty46 : tyOf Tryd.prog 46 = some ⟨(.st [(0, 1, 3), (1, 1, 37), (2, 1, 37), (3, 1, 37), (4, 1, 3), (5, 1, 22)]), 6, 112, [.val (.int .i64 0), .val (.slice none 0 0), .val (.slice none 0 0), .val (.slice none 0 0), .val (.int .i64 0), .val (.slice none 0 0)]⟩ := by kernel_rfl
@[simp] theorem Tryd.ty47 : tyOf Tryd.prog 47 = some ⟨(.ptr 50), 1, 8, [.val (.pointer none)]⟩ := by kernel_rfl
@[simp] theorem Tryd.ty48 : tyOf Tryd.prog 48 = some ⟨.other, 1, 8, [.val (.nilFunc)]⟩ := by kernel_rfl
@[simp] theorem Tryd.ty49 : tyOf Tryd.prog 49 = some ⟨(.st [(0, 2, 25), (2, 1, 22)]), 3, 72, [.val (.slice none 0 0), .val (.slice none 0 0), .val (.slice none 0 0)]⟩ := by kernel_rfl
@[simp] theorem Tryd.ty50 : tyOf Tryd.prog 50 = some ⟨(.st [(0, 2, 25), (2, 1, 22)]), 3, 72, [.val (.slice none 0 0), .val (.slice none 0 0), .val (.slice none 0 0)]⟩ := by kernel_rfl
@[simp] theorem Tryd.ty51 : tyOf Tryd.prog 51 = some ⟨.other, 1, 8, [.val (.nilFunc)]⟩ := by kernel_rfl
@[simp] theorem Tryd.ty52 : tyOf Tryd.prog 52 = some ⟨.other, 1, 8, [.val (.nilFunc)]⟩ := by kernel_rfl
@[simp] theorem Tryd.ty54 : tyOf Tryd.prog 54 = some ⟨.other, 1, 8, [.val (.nilFunc)]⟩ := by kernel_rfl
@[simp] theorem Tryd.ty56 : tyOf Tryd.prog 56 = some ⟨.other, 1, 8, [.val (.nilFunc)]⟩ := by kernel_rfl
@[simp] theorem Tryd.ty57 : tyOf Tryd.prog 57 = some ⟨.other, 1, 8, [.val (.nilFunc)]⟩ := by kernel_rfl
@[simp] theorem Tryd.ty58 : tyOf Tryd.prog 58 = some ⟨.other, 1, 8, [.val (.nilFunc)]⟩ := by kernel_rfl
@[simp] theorem Tryd.ty59 : tyOf Tryd.prog 59 = some ⟨.other, 1, 8, [.val (.nilFunc)]⟩ := by kernel_rfl
@[simp] theorem Tryd.ty60 : tyOf Tryd.prog 60 = some ⟨.other, 1, 8, [.val (.nilFunc)]⟩ := by kernel_rfl
@[simp] theorem Tryd.ty61 : tyOf Tryd.prog 61 = some ⟨.other, 1, 8, [.val (.nilFunc)]⟩ := by kernel_rfl
@[simp] theorem Tryd.ty62 : tyOf Tryd.prog 62 = some ⟨.other, 1, 8, [.val (.nilFunc)]⟩ := by kernel_rfl
@[simp] theorem Tryd.ty63 : tyOf Tryd.prog 63 = some ⟨.iface, 1, 16, [.val (.nilIface)]⟩ := by kernel_rfl
@[simp] theorem Tryd.ty64 : tyOf Tryd.prog 64 = some ⟨.iface, 1, 16, [.val (.nilIface)]⟩ := by kernel_rfl
@[simp] theorem Tryd.ty65 : tyOf Tryd.prog 65 = some ⟨.other, 1, 8, [.val (.nilFunc)]⟩ := by kernel_rfl
@[simp] theorem Tryd.ty66 : tyOf Tryd.prog 66 = some ⟨.other, 1, 8, [.val (.nilFunc)]⟩ := by kernel_rfl
@[simp] theorem Tryd.ty67 : tyOf Tryd.prog 67 = some ⟨.other, 1, 8, [.val (.nilFunc)]⟩ := by kernel_rfl
@[simp] theorem Tryd.ty68 : tyOf Tryd.prog 68 = some ⟨.other, 1, 8, [.val (.nilFunc)]⟩ := by kernel_rfl
@[simp] theorem Tryd.ty69 : tyOf Tryd.prog 69 = some ⟨(.sl 29), 1, 24, [.val (.slice none 0 0)]⟩ := by kernel_rfl
@[simp] theorem Tryd.ty70 : tyOf Tryd.prog 70 = some ⟨.other, 1, 8, [.val (.nilFunc)]⟩ := by kernel_rfl
@[simp] theorem Tryd.ty71 : tyOf Tryd.prog 71 = some ⟨(.ptr 75), 1, 8, [.val (.pointer none)]⟩ := by kernel_rfl
@[simp] theorem Tryd.ty72 : tyOf Tryd.prog 72 = some ⟨.other, 1, 8, [.val (.nilFunc)]⟩ := by kernel_rfl
@[simp] theorem Tryd.ty73 : tyOf Tryd.prog 73 = some ⟨(.ptr 71), 1, 8, [.val (.pointer none)]⟩ := by kernel_rfl
@[simp] theorem Tryd.ty74 : tyOf Tryd.prog 74 = some ⟨(.st [(0, 1, 3), (1, 1, 29)]), 2, 24, [.val (.int .i64 0), .val (.nilIface)]⟩ := by kernel_rfl
@[simp] theorem Tryd.ty75 : tyOf Tryd.prog 75 = some ⟨(.st [(0, 1, 3), (1, 1, 29)]), 2, 24, [.val (.int .i64 0), .val (.nilIface)]⟩ := by kernel_rfl
@[simp] theorem Tryd.ty76 : tyOf Tryd.prog 76 = some ⟨.other, 1, 8, [.val (.nilFunc)]⟩ := by kernel_rfl
@[simp] theorem Tryd.ty77 : tyOf Tryd.prog 77 = some ⟨.other, 1, 8, [.val (.nilFunc)]⟩ := by kernel_rfl
@[simp] theorem Tryd.ty78 : tyOf Tryd.prog 78 = some ⟨.other, 1, 8, [.val (.nilFunc)]⟩ := by kernel_rfl
@[simp] theorem Tryd.ty79 : tyOf Tryd.prog 79 = some ⟨.other, 1, 8, [.val (.nilFunc)]⟩ := by kernel_rfl
@[simp] theorem Tryd.ty80 : tyOf Tryd.prog 80 = some ⟨.other, 1, 8, [.val (.nilFunc)]⟩ := by kernel_rfl
@[simp] theorem Tryd.ty81 : tyOf Tryd.prog 81 = some ⟨(.st [(0, 6, 46)]), 6, 112, [.val (.int .i64 0), .val (.slice none 0 0), .val (.slice none 0 0), .val (.slice none 0 0), .val (.int .i64 0), .val (.slice none 0 0)]⟩ := by kernel_rfl
@[simp] theorem Tryd.ty82 : tyOf Tryd.prog 82 = some ⟨(.st [(0, 6, 46)]), 6, 112, [.val (.int .i64 0), .val (.slice none 0 0), .val (.slice none 0 0), .val (.slice none 0 0), .val (.int .i64 0), .val (.slice none 0 0)]⟩ := by kernel_rfl
@[simp] theorem Tryd.ty83 : tyOf Tryd.prog 83 = some ⟨(.st [(0, 6, 46)]), 6, 112, [.val (.int .i64 0), .val (.slice none 0 0), .val (.slice none 0 0), .val (.slice none 0 0), .val (.int .i64 0), .val (.slice none 0 0)]⟩ := by kernel_rfl
@[simp] theorem Tryd.ty84 : tyOf Tryd.prog 84 = some ⟨(.st [(0, 6, 46)]), 6, 112, [.val (.int .i64 0), .val (.slice none 0 0), .val (.slice none 0 0), .val (.slice none 0 0), .val (.int .i64 0), .val (.slice none 0 0)]⟩ := by kernel_rfl
@[simp] theorem Tryd.ty85 : tyOf Tryd.prog 85 = some ⟨(.st [(0, 6, 46)]), 6, 112, [.val (.int .i64 0), .val (.slice none 0 0), .val (.slice none 0 0), .val (.slice none 0 0), .val (.int .i64 0), .val (.slice none 0 0)]⟩ := by kernel_rfl
@[simp] theorem Tryd.ty86 : tyOf Tryd.prog 86 = some ⟨(.st [(0, 6, 46)]), 6, 112, [.val (.int .i64 0), .val (.slice none 0 0), .val (.slice none 0 0), .val (.slice none 0 0), .val (.int .i64 0), .val (.slice none 0 0)]⟩ := by kernel_rfl
@[simp] theorem Tryd.ty87 : tyOf Tryd.prog 87 = some ⟨.iface, 1, 16, [.val (.nilIface)]⟩ := by kernel_rfl
@[simp] theorem Tryd.ty88 : tyOf Tryd.prog 88 = some ⟨.iface, 1, 16, [.val (.nilIface)]⟩ := by kernel_rfl
@[simp] theorem Tryd.ty89 : tyOf Tryd.prog 89 = some ⟨.other, 1, 8, [.val (.nilFunc)]⟩ := by kernel_rfl
@[simp] theorem Tryd.ty90 : tyOf Tryd.prog 90 = some ⟨.other, 1, 8, [.val (.nilFunc)]⟩ := by kernel_rfl
@[simp] theorem Tryd.ty91 : tyOf Tryd.prog 91 = some ⟨.other, 1, 8, [.val (.pointer none)]⟩ := by kernel_rfl
@[simp] theorem Tryd.ty92 : tyOf Tryd.prog 92 = some ⟨(.int .u64), 1, 8, [.val (.int .u64 0)]⟩ := by kernel_rfl
@[simp] theorem Tryd.ty93 : tyOf Tryd.prog 93 = some ⟨(.st [(0, 1, 17), (1, 1, 91), (2, 1, 92)]), 3, 24, [.val (.pointer none), .val (.pointer none), .val (.int .u64 0)]⟩ := by kernel_rfl
@[simp] theorem Tryd.ty94 : tyOf Tryd.prog 94 = some ⟨(.st [(0, 1, 17), (1, 1, 91), (2, 1, 92)]), 3, 24, [.val (.pointer none), .val (.pointer none), .val (.int .u64 0)]⟩ := by kernel_rfl
@[simp] theorem Tryd.ty95 : tyOf Tryd.prog 95 = some ⟨.other, 1, 8, [.val (.nilFunc)]⟩ := by kernel_rfl
@[simp] theorem Tryd.ty96 : tyOf Tryd.prog 96 = some ⟨.other, 1, 8, [.val (.nilFunc)]⟩ := by kernel_rfl
@[simp] theorem Tryd.ty97 : tyOf Tryd.prog 97 = some ⟨(.int .u8), 1, 1, [.val (.int .u8 0)]⟩ := by kernel_rfl
@[simp] theorem Tryd.ty98 : tyOf Tryd.prog 98 = some ⟨.other, 1, 8, [.val (.nilFunc)]⟩ := by kernel_rfl
@[simp] theorem Tryd.ty99 : tyOf Tryd.prog 99 = some ⟨.other, 1, 8, [.val (.nilFunc)]⟩ := by kernel_rfl
@[simp] theorem Tryd.ty100 : tyOf Tryd.prog 100 = some ⟨.other, 1, 8, [.val (.nilFunc)]⟩ := by kernel_rfl
@[simp] theorem Tryd.ty101 : tyOf Tryd.prog 101 = some ⟨.other, 1, 8, [.val (.nilFunc)]⟩ := by kernel_rfl
@[simp] theorem Tryd.ty102 : tyOf Tryd.prog 102 = some ⟨.other, 1, 8, [.val (.nilFunc)]⟩ := by kernel_rfl
@[simp] theorem Tryd.ty103 : tyOf Tryd.prog 103 = some ⟨(.int .u64), 1, 8, [.val (.int .u64 0)]⟩ := by kernel_rfl
@[simp] theorem Tryd.ty104 : tyOf Tryd.prog 104 = some ⟨.other, 1, 8, [.val (.nilFunc)]⟩ := by kernel_rfl
@[simp] theorem Tryd.ty105 : tyOf Tryd.prog 105 = some ⟨(.st [(0, 1, 17)]), 1, 8, [.val (.pointer none)]⟩ := by kernel_rfl
@[simp] theorem Tryd.ty106 : tyOf Tryd.prog 106 = some ⟨(.st [(0, 1, 17)]), 1, 8, [.val (.pointer none)]⟩ := by kernel_rfl
@[simp] theorem Tryd.ty107 : tyOf Tryd.prog 107 = some ⟨(.ptr 172), 1, 8, [.val (.pointer none)]⟩ := by kernel_rfl
@[simp] theorem Tryd.ty108 : tyOf Tryd.prog 108 = some ⟨.iface, 1, 16, [.val (.nilIface)]⟩ := by kernel_rfl
@[simp] theorem Tryd.ty110 : tyOf Tryd.prog 110 = some ⟨.other, 1, 8, [.val (.nilFunc)]⟩ := by kernel_rfl
@[simp] theorem Tryd.ty111 : tyOf Tryd.prog 111 = some ⟨.iface, 1, 16, [.val (.nilIface)]⟩ := by kernel_rfl
@[simp] theorem Tryd.ty112 : tyOf Tryd.prog 112 = some ⟨.other, 1, 8, [.val (.nilFunc)]⟩ := by kernel_rfl
@[simp] theorem Tryd.ty113 : tyOf Tryd.prog 113 = some ⟨.iface, 1, 16, [.val (.nilIface)]⟩ := by kernel_rfl
@[simp] theorem Tryd.ty114 : tyOf Tryd.prog 114 = some ⟨.other, 1, 8, [.val (.nilFunc)]⟩ := by kernel_rfl
@[simp] theorem Tryd.ty115 : tyOf Tryd.prog 115 = some ⟨.other, 1, 8, [.val (.nilFunc)]⟩ := by kernel_rfl
@[simp] theorem Tryd.ty116 : tyOf Tryd.prog 116 = some ⟨.other, 1, 8, [.val (.nilFunc)]⟩ := by kernel_rfl
@[simp] theorem Tryd.ty117 : tyOf Tryd.prog 117 = some ⟨.iface, 1, 16, [.val (.nilIface)]⟩ := by kernel_rfl
@[simp] theorem Tryd.ty119 : tyOf Tryd.prog 119 = some ⟨.other, 1, 8, [.val (.nilFunc)]⟩ := by kernel_rfl
@[simp] theorem Tryd.ty120 : tyOf Tryd.prog 120 = some ⟨(.sl 4), 1, 24, [.val (.slice none 0 0)]⟩ := by kernel_rfl
@[simp] theorem Tryd.ty122 : tyOf Tryd.prog 122 = some ⟨.other, 1, 8, [.val (.nilFunc)]⟩ := by kernel_rfl
@[simp] theorem Tryd.ty123 : tyOf Tryd.prog 123 = some ⟨.other, 1, 8, [.val (.nilFunc)]⟩ := by kernel_rfl
@[simp] theorem Tryd.ty124 : tyOf Tryd.prog 124 = some ⟨(.int .i64), 1, 8, [.val (.int .i64 0)]⟩ := by kernel_rfl
@[simp] theorem Tryd.ty126 : tyOf Tryd.prog 126 = some ⟨.other, 1, 8, [.val (.nilFunc)]⟩ := by kernel_rfl
@[simp] theorem Tryd.ty127 : tyOf Tryd.prog 127 = some ⟨.other, 1, 8, [.val (.nilFunc)]⟩ := by kernel_rfl
@[simp] theorem Tryd.ty128 : tyOf Tryd.prog 128 = some ⟨.other, 1, 8, [.val (.nilFunc)]⟩ := by kernel_rfl
@[simp] theorem Tryd.ty129 : tyOf Tryd.prog 129 = some ⟨.other, 1, 8, [.val (.nilFunc)]⟩ := by kernel_rfl
@[simp] theorem Tryd.ty131 : tyOf Tryd.prog 131 = some ⟨.other, 1, 8, [.val (.nilFunc)]⟩ := by kernel_rfl
@[simp] theorem Tryd.ty132 : tyOf Tryd.prog 132 = some ⟨.other, 1, 8, [.val (.nilFunc)]⟩ := by kernel_rfl
@[simp] theorem Tryd.ty133 : tyOf Tryd.prog 133 = some ⟨(.int .u32), 1, 4, [.val (.int .u32 0)]⟩ := by kernel_rfl
@[simp] theorem Tryd.ty134 : tyOf Tryd.prog 134 = some ⟨.other, 1, 8, [.val (.nilFunc)]⟩ := by kernel_rfl
@[simp] theorem Tryd.ty135 : tyOf Tryd.prog 135 = some ⟨(.int .u64), 1, 8, [.val (.int .u64 0)]⟩ := by kernel_rfl
@[simp] theorem Tryd.ty136 : tyOf Tryd.prog 136 = some ⟨(.int .u64), 1, 8, [.val (.int .u64 0)]⟩ := by kernel_rfl
@[simp] theorem Tryd.ty137 : tyOf Tryd.prog 137 = some ⟨.other, 1, 8, [.val (.nilFunc)]⟩ := by kernel_rfl
@[simp] theorem Tryd.ty138 : tyOf Tryd.prog 138 = some ⟨.other, 1, 8, [.val (.nilFunc)]⟩ := by kernel_rfl
@[simp] theorem Tryd.ty139 : tyOf Tryd.prog 139 = some ⟨.other, 1, 8, [.val (.nilFunc)]⟩ := by kernel_rfl
@[simp] theorem Tryd.ty140 : tyOf Tryd.prog 140 = some ⟨(.ptr 3), 1, 8, [.val (.pointer none)]⟩ := by kernel_rfl
@[simp] theorem Tryd.ty141 : tyOf Tryd.prog 141 = some ⟨.other, 1, 8, [.val (.nilFunc)]⟩ := by kernel_rfl
@[simp] theorem Tryd.ty142 : tyOf Tryd.prog 142 = some ⟨(.ptr 136), 1, 8, [.val (.pointer none)]⟩ := by kernel_rfl
@[simp] theorem Tryd.ty143 : tyOf Tryd.prog 143 = some ⟨.other, 1, 8, [.val (.nilFunc)]⟩ := by kernel_rfl
@[simp] theorem Tryd.ty144 : tyOf Tryd.prog 144 = some ⟨(.ptr 174), 1, 8, [.val (.pointer none)]⟩ := by kernel_rfl
@[simp] theorem Tryd.ty145 : tyOf Tryd.prog 145 = some ⟨.other, 1, 8, [.val (.nilFunc)]⟩ := by kernel_rfl
@[simp] theorem Tryd.ty146 : tyOf Tryd.prog 146 = some ⟨(.st [(0, 1, 17), (1, 1, 17), (2, 1, 17), (3, 1, 9)]), 4, 40, [.val (.pointer none), .val (.pointer none), .val (.pointer none), .val (.string ByteArray.empty)]⟩ := by kernel_rfl
@[simp] theorem Tryd.ty147 : tyOf Tryd.prog 147 = some ⟨(.st [(0, 1, 17), (1, 1, 17), (2, 1, 17), (3, 1, 9)]), 4, 40, [.val (.pointer none), .val (.pointer none), .val (.pointer none), .val (.string ByteArray.empty)]⟩ := by kernel_rfl
@[simp] theorem Tryd.ty148 : tyOf Tryd.prog 148 = some ⟨(.arr 0 16), 0, 0, []⟩ := by kernel_rfl
@[simp] theorem Tryd.ty149 : tyOf Tryd.prog 149 = some ⟨(.st [(0, 0, 148)]), 0, 0, []⟩ := by kernel_rfl
@[simp] theorem Tryd.ty150 : tyOf Tryd.prog 150 = some ⟨(.st [(0, 0, 148)]), 0, 0, []⟩ := by kernel_rfl
@[simp] theorem Tryd.ty151 : tyOf Tryd.prog 151 = some ⟨.other, 1, 8, [.val (.nilFunc)]⟩ := by kernel_rfl
@[simp] theorem Tryd.ty152 : tyOf Tryd.prog 152 = some ⟨.other, 1, 8, [.val (.nilFunc)]⟩ := by kernel_rfl
@[simp] theorem Tryd.ty153 : tyOf Tryd.prog 153 = some ⟨(.int .u8), 1, 1, [.val (.int .u8 0)]⟩ := by kernel_rfl
@[simp] theorem Tryd.ty154 : tyOf Tryd.prog 154 = some ⟨.other, 1, 8, [.val (.nilFunc)]⟩ := by kernel_rfl
@[simp] theorem Tryd.ty155 : tyOf Tryd.prog 155 = some ⟨(.ptr 5), 1, 8, [.val (.pointer none)]⟩ := by kernel_rfl
@[simp] theorem Tryd.ty156 : tyOf Tryd.prog 156 = some ⟨(.int .i32), 1, 4, [.val (.int .i32 0)]⟩ := by kernel_rfl
@[simp] theorem Tryd.ty157 : tyOf Tryd.prog 157 = some ⟨(.int .i32), 1, 4, [.val (.int .i32 0)]⟩ := by kernel_rfl
@[simp] theorem Tryd.ty158 : tyOf Tryd.prog 158 = some ⟨(.st [(0, 1, 12), (1, 1, 12), (2, 1, 133), (3, 1, 153), (4, 1, 5), (5, 1, 5), (6, 1, 97), (7, 1, 154), (8, 1, 155), (9, 1, 156), (10, 1, 157)]), 11, 48, [.val (.int .u64 0), .val (.int .u64 0), .val (.int .u32 0), .val (.int .u8 0), .val (.int .u8 0), .val (.int .u8 0), .val (.int .u8 0), .val (.nilFunc), .val (.pointer none), .val (.int .i32 0), .val (.int .i32 0)]⟩ := by kernel_rfl
@[simp] theorem Tryd.ty159 : tyOf Tryd.prog 159 = some ⟨(.st [(0, 1, 12), (1, 1, 12), (2, 1, 133), (3, 1, 153), (4, 1, 5), (5, 1, 5), (6, 1, 97), (7, 1, 154), (8, 1, 155), (9, 1, 156), (10, 1, 157)]), 11, 48, [.val (.int .u64 0), .val (.int .u64 0), .val (.int .u32 0), .val (.int .u8 0), .val (.int .u8 0), .val (.int .u8 0), .val (.int .u8 0), .val (.nilFunc), .val (.pointer none), .val (.int .i32 0), .val (.int .i32 0)]⟩ := by kernel_rfl
@[simp] theorem Tryd.ty160 : tyOf Tryd.prog 160 = some ⟨.other, 1, 8, [.val (.nilFunc)]⟩ := by kernel_rfl
@[simp] theorem Tryd.ty161 : tyOf Tryd.prog 161 = some ⟨(.mp 3 3), 1, 8, [.val (.map none)]⟩ := by kernel_rfl
@[simp] theorem Tryd.ty162 : tyOf Tryd.prog 162 = some ⟨.other, 1, 8, [.val (.nilFunc)]⟩ := by kernel_rfl
@[simp] theorem Tryd.ty163 : tyOf Tryd.prog 163 = some ⟨.other, 1, 8, [.val (.nilFunc)]⟩ := by kernel_rfl
@[simp] theorem Tryd.ty164 : tyOf Tryd.prog 164 = some ⟨(.mp 3 4), 1, 8, [.val (.map none)]⟩ := by kernel_rfl
@[simp] theorem Tryd.ty165 : tyOf Tryd.prog 165 = some ⟨.other, 1, 8, [.val (.nilFunc)]⟩ := by kernel_rfl
@[simp] theorem Tryd.ty166 : tyOf Tryd.prog 166 = some ⟨.other, 1, 8, [.val (.nilFunc)]⟩ := by kernel_rfl
@[simp] theorem Tryd.ty167 : tyOf Tryd.prog 167 = some ⟨.other, 1, 8, [.val (.nilFunc)]⟩ := by kernel_rfl
@[simp] theorem Tryd.ty168 : tyOf Tryd.prog 168 = some ⟨.other, 1, 8, [.val (.nilFunc)]⟩ := by kernel_rfl
@[simp] theorem Tryd.ty169 : tyOf Tryd.prog 169 = some ⟨.other, 1, 8, [.val (.nilFunc)]⟩ := by kernel_rfl
@[simp] theorem Tryd.ty170 : tyOf Tryd.prog 170 = some ⟨.other, 1, 8, [.val (.nilFunc)]⟩ := by kernel_rfl
@[simp] theorem Tryd.ty171 : tyOf Tryd.prog 171 = some ⟨(.st [(0, 1, 9), (1, 1, 97)]), 2, 24, [.val (.string ByteArray.empty), .val (.int .u8 0)]⟩ := by kernel_rfl
@[simp] theorem Tryd.ty172 : tyOf Tryd.prog 172 = some ⟨(.st [(0, 1, 9), (1, 1, 97)]), 2, 24, [.val (.string ByteArray.empty), .val (.int .u8 0)]⟩ := by kernel_rfl
@[simp] theorem Tryd.ty173 : tyOf Tryd.prog 173 = some ⟨(.st [(0, 1, 9)]), 1, 16, [.val (.string ByteArray.empty)]⟩ := by kernel_rfl
@[simp] theorem Tryd.ty174 : tyOf Tryd.prog 174 = some ⟨(.st [(0, 1, 9)]), 1, 16, [.val (.string ByteArray.empty)]⟩ := by kernel_rfl
@[simp] theorem Tryd.ty175 : tyOf Tryd.prog 175 = some ⟨(.ptr 179), 1, 8, [.val (.pointer none)]⟩ := by kernel_rfl
@[simp] theorem Tryd.ty176 : tyOf Tryd.prog 176 = some ⟨.other, 1, 8, [.val (.nilFunc)]⟩ := by kernel_rfl
@[simp] theorem Tryd.ty177 : tyOf Tryd.prog 177 = some ⟨(.int .u16), 1, 2, [.val (.int .u16 0)]⟩ := by kernel_rfl
@[simp] theorem Tryd.ty178 : tyOf Tryd.prog 178 = some ⟨(.st [(0, 1, 156), (1, 1, 177), (2, 1, 177), (3, 1, 133), (4, 1, 133)]), 5, 16, [.val (.int .i32 0), .val (.int .u16 0), .val (.int .u16 0), .val (.int .u32 0), .val (.int .u32 0)]⟩ := by kernel_rfl
@[simp] theorem Tryd.ty179 : tyOf Tryd.prog 179 = some ⟨(.st [(0, 1, 156), (1, 1, 177), (2, 1, 177), (3, 1, 133), (4, 1, 133)]), 5, 16, [.val (.int .i32 0), .val (.int .u16 0), .val (.int .u16 0), .val (.int .u32 0), .val (.int .u32 0)]⟩ := by kernel_rfl
@[simp] theorem Tryd.ty180 : tyOf Tryd.prog 180 = some ⟨(.sl 183), 1, 24, [.val (.slice none 0 0)]⟩ := by kernel_rfl
@[simp] theorem Tryd.ty181 : tyOf Tryd.prog 181 = some ⟨(.int .i32), 1, 4, [.val (.int .i32 0)]⟩ := by kernel_rfl
@[simp] theorem Tryd.ty182 : tyOf Tryd.prog 182 = some ⟨(.st [(0, 1, 156), (1, 1, 157), (2, 1, 181), (3, 1, 181)]), 4, 16, [.val (.int .i32 0), .val (.int .i32 0), .val (.int .i32 0), .val (.int .i32 0)]⟩ := by kernel_rfl
@[simp] theorem Tryd.ty183 : tyOf Tryd.prog 183 = some ⟨(.st [(0, 1, 156), (1, 1, 157), (2, 1, 181), (3, 1, 181)]), 4, 16, [.val (.int .i32 0), .val (.int .i32 0), .val (.int .i32 0), .val (.int .i32 0)]⟩ := by kernel_rfl
@[simp] theorem Tryd.ty184 : tyOf Tryd.prog 184 = some ⟨.other, 1, 8, [.val (.nilFunc)]⟩ := by kernel_rfl
@[simp] theorem Tryd.ty185 : tyOf Tryd.prog 185 = some ⟨(.ptr 29), 1, 8, [.val (.pointer none)]⟩ := by kernel_rfl
@[simp] theorem Tryd.ok2 : callOK Tryd.prog 2 := fun a w => Tryd.call2 a w
@[simp] theorem Tryd.ok3 : callOK Tryd.prog 3 := fun a w => Tryd.call3 a w
@[simp] theorem Tryd.ok4 : callOK Tryd.prog 4 := fun a w => Tryd.call4 a w
@[simp] theorem Tryd.ok5 : callOK Tryd.prog 5 := fun a w => Tryd.call5 a w
@[simp] theorem Tryd.ok6 : callOK Tryd.prog 6 := fun a w => Tryd.call6 a w
@[simp] theorem Tryd.ok7 : callOK Tryd.prog 7 := fun a w => Tryd.call7 a w
@[simp] theorem Tryd.ok8 : callOK Tryd.prog 8 := fun a w => Tryd.call8 a w
@[simp] theorem Tryd.ok9 : callOK Tryd.prog 9 := fun a w => Tryd.call9 a w
@[simp] theorem Tryd.ok10 : callOK Tryd.prog 10 := fun a w => Tryd.call10 a w
@[simp] theorem Tryd.ok11 : callOK Tryd.prog 11 := fun a w => Tryd.call11 a w
@[simp] theorem Tryd.ok12 : callOK Tryd.prog 12 := fun a w => Tryd.call12 a w
@[simp] theorem Tryd.ok13 : callOK Tryd.prog 13 := fun a w => Tryd.call13 a w
@[simp] theorem Tryd.ok14 : callOK Tryd.prog 14 := fun a w => Tryd.call14 a w
@[simp] theorem Tryd.ok15 : callOK Tryd.prog 15 := fun a w => Tryd.call15 a w
@[simp] theorem Tryd.ok16 : callOK Tryd.prog 16 := fun a w => Tryd.call16 a w
@[simp] theorem Tryd.ok17 : callOK Tryd.prog 17 := fun a w => Tryd.call17 a w
@[simp] theorem Tryd.ok18 : callOK Tryd.prog 18 := fun a w => Tryd.call18 a w
@[simp] theorem Tryd.ok19 : callOK Tryd.prog 19 := fun a w => Tryd.call19 a w
@[simp] theorem Tryd.ok20 : callOK Tryd.prog 20 := fun a w => Tryd.call20 a w
@[simp] theorem Tryd.ok21 : callOK Tryd.prog 21 := fun a w => Tryd.call21 a w
@[simp] theorem Tryd.ok22 : callOK Tryd.prog 22 := fun a w => Tryd.call22 a w
@[simp] theorem Tryd.ok23 : callOK Tryd.prog 23 := fun a w => Tryd.call23 a w
@[simp] theorem Tryd.ok24 : callOK Tryd.prog 24 := fun a w => Tryd.call24 a w
@[simp] theorem Tryd.ok25 : callOK Tryd.prog 25 := fun a w => Tryd.call25 a w
@[simp] theorem Tryd.ok26 : callOK Tryd.prog 26 := fun a w => Tryd.call26 a w
@[simp] theorem Tryd.ok27 : callOK Tryd.prog 27 := fun a w => Tryd.call27 a w
@[simp] theorem Tryd.ok28 : callOK Tryd.prog 28 := fun a w => Tryd.call28 a w
@[simp] theorem Tryd.ok29 : callOK Tryd.prog 29 := fun a w => Tryd.call29 a w
@[simp] theorem Tryd.ok30 : callOK Tryd.prog 30 := fun a w => Tryd.call30 a w
@[simp] theorem Tryd.ok31 : callOK Tryd.prog 31 := fun a w => Tryd.call31 a w
@[simp] theorem Tryd.ok32 : callOK Tryd.prog 32 := fun a w => Tryd.call32 a w
@[simp] theorem Tryd.ok33 : callOK Tryd.prog 33 := fun a w => Tryd.call33 a w
@[simp] theorem Tryd.ok34 : callOK Tryd.prog 34 := fun a w => Tryd.call34 a w
@[simp] theorem Tryd.ok35 : callOK Tryd.prog 35 := fun a w => Tryd.call35 a w
@[simp] theorem Tryd.ok36 : callOK Tryd.prog 36 := fun a w => Tryd.call36 a w
@[simp] theorem Tryd.ok37 : callOK Tryd.prog 37 := fun a w => Tryd.call37 a w
@[simp] theorem Tryd.ok38 : callOK Tryd.prog 38 := fun a w => Tryd.call38 a w
@[simp] theorem Tryd.ok39 : callOK Tryd.prog 39 := fun a w => Tryd.call39 a w
@[simp] theorem Tryd.ok40 : callOK Tryd.prog 40 := fun a w => Tryd.call40 a w
@[simp] theorem Tryd.ok41 : callOK Tryd.prog 41 := fun a w => Tryd.call41 a w
@[simp] theorem Tryd.ok42 : callOK Tryd.prog 42 := fun a w => Tryd.call42 a w
@[simp] theorem Tryd.ok43 : callOK Tryd.prog 43 := fun a w => Tryd.call43 a w
@[simp] theorem Tryd.ok44 : callOK Tryd.prog 44 := fun a w => Tryd.call44 a w
@[simp] theorem Tryd.ok45 : callOK Tryd.prog 45 := fun a w => Tryd.call45 a w
@[simp] theorem Tryd.ok46 : callOK Tryd.prog 46 := fun a w => Tryd.call46 a w
@[simp] theorem Tryd.ok48 : callOK Tryd.prog 48 := fun a w => Tryd.call48 a w
@[simp] theorem Tryd.ok52 : callOK Tryd.prog 52 := fun a w => Tryd.call52 a w
@[simp] theorem Tryd.ok53 : callOK Tryd.prog 53 := fun a w => Tryd.call53 a w
@[simp] theorem Tryd.ok54 : callOK Tryd.prog 54 := fun a w => Tryd.call54 a w
@[simp] theorem Tryd.ok55 : callOK Tryd.prog 55 := fun a w => Tryd.call55 a w
@[simp] theorem Tryd.ok56 : callOK Tryd.prog 56 := fun a w => Tryd.call56 a w
@[simp] theorem Tryd.ok57 : callOK Tryd.prog 57 := fun a w => Tryd.call57 a w
@[simp] theorem Tryd.ok58 : callOK Tryd.prog 58 := fun a w => Tryd.call58 a w
@[simp] theorem Tryd.ok59 : callOK Tryd.prog 59 := fun a w => Tryd.call59 a w
@[simp] theorem Tryd.ok62 : callOK Tryd.prog 62 := fun a w => Tryd.call62 a w
@[simp] theorem Tryd.ok63 : callOK Tryd.prog 63 := fun a w => Tryd.call63 a w
@[simp] theorem Tryd.ok64 : callOK Tryd.prog 64 := fun a w => Tryd.call64 a w
@[simp] theorem Tryd.ok65 : callOK Tryd.prog 65 := fun a w => Tryd.call65 a w
@[simp] theorem Tryd.ok66 : callOK Tryd.prog 66 := fun a w => Tryd.call66 a w
@[simp] theorem Tryd.ok67 : callOK Tryd.prog 67 := fun a w => Tryd.call67 a w
@[simp] theorem Tryd.ok68 : callOK Tryd.prog 68 := fun a w => Tryd.call68 a w
@[simp] theorem Tryd.ok69 : callOK Tryd.prog 69 := fun a w => Tryd.call69 a w
@[simp] theorem Tryd.ok70 : callOK Tryd.prog 70 := fun a w => Tryd.call70 a w
@[simp] theorem Tryd.ok71 : callOK Tryd.prog 71 := fun a w => Tryd.call71 a w
@[simp] theorem Tryd.ok72 : callOK Tryd.prog 72 := fun a w => Tryd.call72 a w
@[simp] theorem Tryd.ok73 : callOK Tryd.prog 73 := fun a w => Tryd.call73 a w
@[simp] theorem Tryd.ok74 : callOK Tryd.prog 74 := fun a w => Tryd.call74 a w
@[simp] theorem Tryd.ok75 : callOK Tryd.prog 75 := fun a w => Tryd.call75 a w
@[simp] theorem Tryd.ok76 : callOK Tryd.prog 76 := fun a w => Tryd.call76 a w
@[simp] theorem Tryd.ok77 : callOK Tryd.prog 77 := fun a w => Tryd.call77 a w
@[simp] theorem Tryd.ok78 : callOK Tryd.prog 78 := fun a w => Tryd.call78 a w
@[simp] theorem Tryd.ok79 : callOK Tryd.prog 79 := fun a w => Tryd.call79 a w
@[simp] theorem Tryd.ok80 : callOK Tryd.prog 80 := fun a w => Tryd.call80 a w
@[simp] theorem Tryd.ok81 : callOK Tryd.prog 81 := fun a w => Tryd.call81 a w
@[simp] theorem Tryd.ok100 : callOK Tryd.prog 100 := fun a w => Tryd.call100 a w
@[simp] theorem Tryd.ok101 : callOK Tryd.prog 101 := fun a w => Tryd.call101 a w
@[simp] theorem Tryd.ok102 : callOK Tryd.prog 102 := fun a w => Tryd.call102 a w
@[simp] theorem Tryd.ok103 : callOK Tryd.prog 103 := fun a w => Tryd.call103 a w
@[simp] theorem Tryd.ok104 : callOK Tryd.prog 104 := fun a w => Tryd.call104 a w
@[simp] theorem Tryd.ok105 : callOK Tryd.prog 105 := fun a w => Tryd.call105 a w
@[simp] theorem Tryd.ok106 : callOK Tryd.prog 106 := fun a w => Tryd.call106 a w
@[simp] theorem Tryd.ok107 : callOK Tryd.prog 107 := fun a w => Tryd.call107 a w
@[simp] theorem Tryd.ok108 : callOK Tryd.prog 108 := fun a w => Tryd.call108 a w
@[simp] theorem Tryd.ok109 : callOK Tryd.prog 109 := fun a w => Tryd.call109 a w
@[simp] theorem Tryd.ok110 : callOK Tryd.prog 110 := fun a w => Tryd.call110 a w
@[simp] theorem Tryd.ok111 : callOK Tryd.prog 111 := fun a w => Tryd.call111 a w
@[simp] theorem Tryd.ok112 : callOK Tryd.prog 112 := fun a w => Tryd.call112 a w
@[simp] theorem Tryd.ok113 : callOK Tryd.prog 113 := fun a w => Tryd.call113 a w
@[simp] theorem Tryd.ok114 : callOK Tryd.prog 114 := fun a w => Tryd.call114 a w
@[simp] theorem Tryd.ok115 : callOK Tryd.prog 115 := fun a w => Tryd.call115 a w
@[simp] theorem Tryd.ok116 : callOK Tryd.prog 116 := fun a w => Tryd.call116 a w
@[simp] theorem Tryd.ok117 : callOK Tryd.prog 117 := fun a w => Tryd.call117 a w
@[simp] theorem Tryd.ok118 : callOK Tryd.prog 118 := fun a w => Tryd.call118 a w
@[simp] theorem Tryd.ok119 : callOK Tryd.prog 119 := fun a w => Tryd.call119 a w
@[simp] theorem Tryd.ok120 : callOK Tryd.prog 120 := fun a w => Tryd.call120 a w
@[simp] theorem Tryd.ok121 : callOK Tryd.prog 121 := fun a w => Tryd.call121 a w
@[simp] theorem Tryd.ok122 : callOK Tryd.prog 122 := fun a w => Tryd.call122 a w
@[simp] theorem Tryd.ok123 : callOK Tryd.prog 123 := fun a w => Tryd.call123 a w
@[simp] theorem Tryd.ok124 : callOK Tryd.prog 124 := fun a w => Tryd.call124 a w
@[simp] theorem Tryd.ok125 : callOK Tryd.prog 125 := fun a w => Tryd.call125 a w
@[simp] theorem Tryd.ok126 : callOK Tryd.prog 126 := fun a w => Tryd.call126 a w
@[simp] theorem Tryd.ok127 : callOK Tryd.prog 127 := fun a w => Tryd.call127 a w
@[simp] theorem Tryd.ok128 : callOK Tryd.prog 128 := fun a w => Tryd.call128 a w
@[simp] theorem Tryd.ok129 : callOK Tryd.prog 129 := fun a w => Tryd.call129 a w
@[simp] theorem Tryd.ok146 : callOK Tryd.prog 146 := fun a w => Tryd.call146 a w
@[simp] theorem Tryd.ok160 : callOK Tryd.prog 160 := fun a w => Tryd.call160 a w
end Go.Proofs

