/- The types' rows and the calls' rows, written by a program of the prover's. -/
import Derived.Test.YtilpfpephcngbaaGreatDoorOVx
import Derived.Test.YtilpfpephcngbaaGreatDoorProg
import Derived.KernelRfl
namespace Go.Proofs
open Go.Sv
@[simp] theorem Tryz.ty1 : tyOf Tryz.prog 1 = some ⟨.other, 1, 8, [.val (.nilFunc)]⟩ := by kernel_rfl
@[simp] theorem Tryz.ty2 : tyOf Tryz.prog 2 = some ⟨(.int .i64), 1, 8, [.val (.int .i64 0)]⟩ := by kernel_rfl
@[simp] theorem Tryz.ty3 : tyOf Tryz.prog 3 = some ⟨(.int .i64), 1, 8, [.val (.int .i64 0)]⟩ := by kernel_rfl
@[simp] theorem Tryz.ty4 : tyOf Tryz.prog 4 = some ⟨.bool, 1, 1, [.val (.bool false)]⟩ := by kernel_rfl
@[simp] theorem Tryz.ty5 : tyOf Tryz.prog 5 = some ⟨(.int .u8), 1, 1, [.val (.int .u8 0)]⟩ := by kernel_rfl
@[simp] theorem Tryz.ty6 : tyOf Tryz.prog 6 = some ⟨(.int .u8), 1, 1, [.val (.int .u8 0)]⟩ := by kernel_rfl
@[simp] theorem Tryz.ty7 : tyOf Tryz.prog 7 = some ⟨(.st [(0, 1, 2), (1, 1, 3), (2, 1, 4), (3, 1, 6)]), 4, 24, [.val (.int .i64 0), .val (.int .i64 0), .val (.bool false), .val (.int .u8 0)]⟩ := by kernel_rfl
@[simp] theorem Tryz.ty8 : tyOf Tryz.prog 8 = some ⟨(.st [(0, 1, 2), (1, 1, 3), (2, 1, 4), (3, 1, 6)]), 4, 24, [.val (.int .i64 0), .val (.int .i64 0), .val (.bool false), .val (.int .u8 0)]⟩ := by kernel_rfl
@[simp] theorem Tryz.ty9 : tyOf Tryz.prog 9 = some ⟨.str, 1, 16, [.val (.string ByteArray.empty)]⟩ := by kernel_rfl
@[simp] theorem Tryz.ty10 : tyOf Tryz.prog 10 = some ⟨.str, 1, 16, [.val (.string ByteArray.empty)]⟩ := by kernel_rfl
@[simp] theorem Tryz.ty11 : tyOf Tryz.prog 11 = some ⟨.str, 1, 16, [.val (.string ByteArray.empty)]⟩ := by kernel_rfl
@[simp] theorem Tryz.ty12 : tyOf Tryz.prog 12 = some ⟨(.int .u64), 1, 8, [.val (.int .u64 0)]⟩ := by kernel_rfl
@[simp] theorem Tryz.ty13 : tyOf Tryz.prog 13 = some ⟨(.st [(0, 1, 9), (1, 1, 12)]), 2, 24, [.val (.string ByteArray.empty), .val (.int .u64 0)]⟩ := by kernel_rfl
@[simp] theorem Tryz.ty14 : tyOf Tryz.prog 14 = some ⟨(.st [(0, 1, 9), (1, 1, 12)]), 2, 24, [.val (.string ByteArray.empty), .val (.int .u64 0)]⟩ := by kernel_rfl
@[simp] theorem Tryz.ty15 : tyOf Tryz.prog 15 = some ⟨(.ptr 390), 1, 8, [.val (.pointer none)]⟩ := by kernel_rfl
@[simp] theorem Tryz.ty16 : tyOf Tryz.prog 16 = some ⟨(.ptr 393), 1, 8, [.val (.pointer none)]⟩ := by kernel_rfl
@[simp] theorem Tryz.ty17 : tyOf Tryz.prog 17 = some ⟨(.ptr 401), 1, 8, [.val (.pointer none)]⟩ := by kernel_rfl
@[simp] theorem Tryz.ty18 : tyOf Tryz.prog 18 = some ⟨(.st [(0, 1, 17)]), 1, 8, [.val (.pointer none)]⟩ := by kernel_rfl
@[simp] theorem Tryz.ty19 : tyOf Tryz.prog 19 = some ⟨(.st [(0, 1, 17)]), 1, 8, [.val (.pointer none)]⟩ := by kernel_rfl
@[simp] theorem Tryz.ty20 : tyOf Tryz.prog 20 = some ⟨.iface, 1, 16, [.val (.nilIface)]⟩ := by kernel_rfl
@[simp] theorem Tryz.ty21 : tyOf Tryz.prog 21 = some ⟨(.int .i32), 1, 4, [.val (.int .i32 0)]⟩ := by kernel_rfl
@[simp] theorem Tryz.ty22 : tyOf Tryz.prog 22 = some ⟨(.sl 46), 1, 24, [.val (.slice none 0 0)]⟩ := by kernel_rfl
@[simp] theorem Tryz.ty23 : tyOf Tryz.prog 23 = some ⟨(.sl 58), 1, 24, [.val (.slice none 0 0)]⟩ := by kernel_rfl
@[simp] theorem Tryz.ty25 : tyOf Tryz.prog 25 = some ⟨.other, 1, 8, [.val (.nilFunc)]⟩ := by kernel_rfl
@[simp] theorem Tryz.ty26 : tyOf Tryz.prog 26 = some ⟨.other, 1, 8, [.val (.nilFunc)]⟩ := by kernel_rfl
@[simp] theorem Tryz.ty27 : tyOf Tryz.prog 27 = some ⟨(.sl 64), 1, 24, [.val (.slice none 0 0)]⟩ := by kernel_rfl
@[simp] theorem Tryz.ty29 : tyOf Tryz.prog 29 = some ⟨.other, 1, 8, [.val (.nilFunc)]⟩ := by kernel_rfl
@[simp] theorem Tryz.ty30 : tyOf Tryz.prog 30 = some ⟨(.sl 3), 1, 24, [.val (.slice none 0 0)]⟩ := by kernel_rfl
@[simp] theorem Tryz.ty31 : tyOf Tryz.prog 31 = some ⟨.iface, 1, 16, [.val (.nilIface)]⟩ := by kernel_rfl
@[simp] theorem Tryz.ty32 : tyOf Tryz.prog 32 = some ⟨.iface, 1, 16, [.val (.nilIface)]⟩ := by kernel_rfl
@[simp] theorem Tryz.ty34 : tyOf Tryz.prog 34 = some ⟨.other, 1, 8, [.val (.nilFunc)]⟩ := by kernel_rfl
@[simp] theorem Tryz.ty35 : tyOf Tryz.prog 35 = some ⟨.other, 1, 8, [.val (.nilFunc)]⟩ := by kernel_rfl
@[simp] theorem Tryz.ty36 : tyOf Tryz.prog 36 = some ⟨.other, 1, 8, [.val (.nilFunc)]⟩ := by kernel_rfl
@[simp] theorem Tryz.ty38 : tyOf Tryz.prog 38 = some ⟨.other, 1, 8, [.val (.nilFunc)]⟩ := by kernel_rfl
@[simp] theorem Tryz.ty39 : tyOf Tryz.prog 39 = some ⟨.other, 1, 8, [.val (.nilFunc)]⟩ := by kernel_rfl
@[simp] theorem Tryz.ty40 : tyOf Tryz.prog 40 = some ⟨.other, 1, 8, [.val (.nilFunc)]⟩ := by kernel_rfl
@[simp] theorem Tryz.ty41 : tyOf Tryz.prog 41 = some ⟨.other, 1, 8, [.val (.nilFunc)]⟩ := by kernel_rfl
@[simp] theorem Tryz.ty42 : tyOf Tryz.prog 42 = some ⟨(.sl 159), 1, 24, [.val (.slice none 0 0)]⟩ := by kernel_rfl
@[simp] theorem Tryz.ty43 : tyOf Tryz.prog 43 = some ⟨(.sl 161), 1, 24, [.val (.slice none 0 0)]⟩ := by kernel_rfl
@[simp] theorem Tryz.ty44 : tyOf Tryz.prog 44 = some ⟨(.st [(0, 1, 4), (1, 1, 9), (2, 1, 42), (3, 1, 43)]), 4, 72, [.val (.bool false), .val (.string ByteArray.empty), .val (.slice none 0 0), .val (.slice none 0 0)]⟩ := by kernel_rfl
@[simp] theorem Tryz.ty45 : tyOf Tryz.prog 45 = some ⟨(.st [(0, 1, 4), (1, 1, 9), (2, 1, 42), (3, 1, 43)]), 4, 72, [.val (.bool false), .val (.string ByteArray.empty), .val (.slice none 0 0), .val (.slice none 0 0)]⟩ := by kernel_rfl
@[simp] theorem Tryz.ty46 : tyOf Tryz.prog 46 = some ⟨(.sl 9), 1, 24, [.val (.slice none 0 0)]⟩ := by kernel_rfl
@[simp] theorem Tryz.ty47 : tyOf Tryz.prog 47 = some ⟨(.st [(0, 1, 4), (1, 1, 30)]), 2, 32, [.val (.bool false), .val (.slice none 0 0)]⟩ := by kernel_rfl
@[simp] theorem Tryz.ty48 : tyOf Tryz.prog 48 = some ⟨(.st [(0, 1, 4), (1, 1, 30)]), 2, 32, [.val (.bool false), .val (.slice none 0 0)]⟩ := by kernel_rfl
@[simp] theorem Tryz.ty49 : tyOf Tryz.prog 49 = some ⟨(.st [(0, 2, 48), (2, 2, 48)]), 4, 64, [.val (.bool false), .val (.slice none 0 0), .val (.bool false), .val (.slice none 0 0)]⟩ := by kernel_rfl
@[simp] theorem Tryz.ty50 : tyOf Tryz.prog 50 = some ⟨(.st [(0, 2, 48), (2, 2, 48)]), 4, 64, [.val (.bool false), .val (.slice none 0 0), .val (.bool false), .val (.slice none 0 0)]⟩ := by kernel_rfl
@[simp] theorem Tryz.ty51 : tyOf Tryz.prog 51 = some ⟨(.sl 176), 1, 24, [.val (.slice none 0 0)]⟩ := by kernel_rfl
@[simp] theorem Tryz.ty52 : tyOf Tryz.prog 52 = some ⟨(.sl 96), 1, 24, [.val (.slice none 0 0)]⟩ := by kernel_rfl
@[simp] theorem Tryz.ty53 : tyOf Tryz.prog 53 = some ⟨(.st [(0, 1, 4), (1, 4, 50), (5, 1, 51), (6, 1, 52)]), 7, 120, [.val (.bool false), .val (.bool false), .val (.slice none 0 0), .val (.bool false), .val (.slice none 0 0), .val (.slice none 0 0), .val (.slice none 0 0)]⟩ := by kernel_rfl
@[simp] theorem Tryz.ty54 : tyOf Tryz.prog 54 = some ⟨(.st [(0, 1, 4), (1, 4, 50), (5, 1, 51), (6, 1, 52)]), 7, 120, [.val (.bool false), .val (.bool false), .val (.slice none 0 0), .val (.bool false), .val (.slice none 0 0), .val (.slice none 0 0), .val (.slice none 0 0)]⟩ := by kernel_rfl
@[simp] theorem Tryz.ty56 : tyOf Tryz.prog 56 = some ⟨.other, 1, 8, [.val (.nilFunc)]⟩ := by kernel_rfl
@[simp] theorem Tryz.ty57 : tyOf Tryz.prog 57 = some ⟨.other, 1, 8, [.val (.nilFunc)]⟩ := by kernel_rfl
@[simp] theorem Tryz.ty58 : tyOf Tryz.prog 58 = some ⟨(.sl 50), 1, 24, [.val (.slice none 0 0)]⟩ := by kernel_rfl
@[simp] theorem Tryz.ty60 : tyOf Tryz.prog 60 = some ⟨.other, 1, 8, [.val (.nilFunc)]⟩ := by kernel_rfl
@[simp] theorem Tryz.ty61 : tyOf Tryz.prog 61 = some ⟨(.ptr 91), 1, 8, [.val (.pointer none)]⟩ := by kernel_rfl
@[simp] theorem Tryz.ty63 : tyOf Tryz.prog 63 = some ⟨.other, 1, 8, [.val (.nilFunc)]⟩ := by kernel_rfl
@[simp] theorem Tryz.ty64 : tyOf Tryz.prog 64 = some ⟨(.sl 73), 1, 24, [.val (.slice none 0 0)]⟩ := by kernel_rfl
@[simp] theorem Tryz.ty66 : tyOf Tryz.prog 66 = some ⟨.other, 1, 8, [.val (.nilFunc)]⟩ := by kernel_rfl
@[simp] theorem Tryz.ty67 : tyOf Tryz.prog 67 = some ⟨.other, 1, 8, [.val (.nilFunc)]⟩ := by kernel_rfl
@[simp] theorem Tryz.ty68 : tyOf Tryz.prog 68 = some ⟨.other, 1, 8, [.val (.nilFunc)]⟩ := by kernel_rfl
@[simp] theorem Tryz.ty69 : tyOf Tryz.prog 69 = some ⟨(.sl 254), 1, 24, [.val (.slice none 0 0)]⟩ := by kernel_rfl
@[simp] theorem Tryz.ty70 : tyOf Tryz.prog 70 = some ⟨(.st [(0, 1, 4), (1, 1, 69)]), 2, 32, [.val (.bool false), .val (.slice none 0 0)]⟩ := by kernel_rfl
@[simp] theorem Tryz.ty71 : tyOf Tryz.prog 71 = some ⟨(.st [(0, 1, 4), (1, 1, 69)]), 2, 32, [.val (.bool false), .val (.slice none 0 0)]⟩ := by kernel_rfl
@[simp] theorem Tryz.ty72 : tyOf Tryz.prog 72 = some ⟨(.st [(0, 2, 71), (2, 2, 71)]), 4, 64, [.val (.bool false), .val (.slice none 0 0), .val (.bool false), .val (.slice none 0 0)]⟩ := by kernel_rfl
@[simp] theorem Tryz.ty73 : tyOf Tryz.prog 73 = some ⟨(.st [(0, 2, 71), (2, 2, 71)]), 4, 64, [.val (.bool false), .val (.slice none 0 0), .val (.bool false), .val (.slice none 0 0)]⟩ := by kernel_rfl
@[simp] theorem Tryz.ty75 : tyOf Tryz.prog 75 = some ⟨.other, 1, 8, [.val (.nilFunc)]⟩ := by kernel_rfl
@[simp] theorem Tryz.ty77 : tyOf Tryz.prog 77 = some ⟨.other, 1, 8, [.val (.nilFunc)]⟩ := by kernel_rfl
@[simp] theorem Tryz.ty78 : tyOf Tryz.prog 78 = some ⟨.other, 1, 8, [.val (.nilFunc)]⟩ := by kernel_rfl
@[simp] theorem Tryz.ty79 : tyOf Tryz.prog 79 = some ⟨.other, 1, 8, [.val (.nilFunc)]⟩ := by kernel_rfl
@[simp] theorem Tryz.ty80 : tyOf Tryz.prog 80 = some ⟨.other, 1, 8, [.val (.nilFunc)]⟩ := by kernel_rfl
@[simp] theorem Tryz.ty81 : tyOf Tryz.prog 81 = some ⟨.other, 1, 8, [.val (.nilFunc)]⟩ := by kernel_rfl
@[simp] theorem Tryz.ty82 : tyOf Tryz.prog 82 = some ⟨.other, 1, 8, [.val (.nilFunc)]⟩ := by kernel_rfl
@[simp] theorem Tryz.ty83 : tyOf Tryz.prog 83 = some ⟨(.sl 174), 1, 24, [.val (.slice none 0 0)]⟩ := by kernel_rfl
@[simp] theorem Tryz.ty84 : tyOf Tryz.prog 84 = some ⟨(.st [(0, 1, 4), (1, 4, 73)]), 5, 72, [.val (.bool false), .val (.bool false), .val (.slice none 0 0), .val (.bool false), .val (.slice none 0 0)]⟩ := by kernel_rfl
@[simp] theorem Tryz.ty85 : tyOf Tryz.prog 85 = some ⟨(.st [(0, 1, 4), (1, 4, 73)]), 5, 72, [.val (.bool false), .val (.bool false), .val (.slice none 0 0), .val (.bool false), .val (.slice none 0 0)]⟩ := by kernel_rfl
@[simp] theorem Tryz.ty86 : tyOf Tryz.prog 86 = some ⟨(.st [(0, 1, 9), (1, 1, 83), (2, 5, 85), (7, 5, 85)]), 12, 184, [.val (.string ByteArray.empty), .val (.slice none 0 0), .val (.bool false), .val (.bool false), .val (.slice none 0 0), .val (.bool false), .val (.slice none 0 0), .val (.bool false), .val (.bool false), .val (.slice none 0 0), .val (.bool false), .val (.slice none 0 0)]⟩ := by kernel_rfl
@[simp] theorem Tryz.ty87 : tyOf Tryz.prog 87 = some ⟨(.st [(0, 1, 9), (1, 1, 83), (2, 5, 85), (7, 5, 85)]), 12, 184, [.val (.string ByteArray.empty), .val (.slice none 0 0), .val (.bool false), .val (.bool false), .val (.slice none 0 0), .val (.bool false), .val (.slice none 0 0), .val (.bool false), .val (.bool false), .val (.slice none 0 0), .val (.bool false), .val (.slice none 0 0)]⟩ := by kernel_rfl
@[simp] theorem Tryz.ty88 : tyOf Tryz.prog 88 = some ⟨(.sl 172), 1, 24, [.val (.slice none 0 0)]⟩ := by kernel_rfl
@[simp] theorem Tryz.ty89 : tyOf Tryz.prog 89 = some ⟨(.sl 87), 1, 24, [.val (.slice none 0 0)]⟩ := by kernel_rfl
@[simp] theorem Tryz.ty90 : tyOf Tryz.prog 90 = some ⟨(.st [(0, 1, 4), (1, 4, 73), (5, 1, 88), (6, 1, 89)]), 7, 120, [.val (.bool false), .val (.bool false), .val (.slice none 0 0), .val (.bool false), .val (.slice none 0 0), .val (.slice none 0 0), .val (.slice none 0 0)]⟩ := by kernel_rfl
@[simp] theorem Tryz.ty91 : tyOf Tryz.prog 91 = some ⟨(.st [(0, 1, 4), (1, 4, 73), (5, 1, 88), (6, 1, 89)]), 7, 120, [.val (.bool false), .val (.bool false), .val (.slice none 0 0), .val (.bool false), .val (.slice none 0 0), .val (.slice none 0 0), .val (.slice none 0 0)]⟩ := by kernel_rfl
@[simp] theorem Tryz.ty92 : tyOf Tryz.prog 92 = some ⟨.other, 1, 8, [.val (.nilFunc)]⟩ := by kernel_rfl
@[simp] theorem Tryz.ty93 : tyOf Tryz.prog 93 = some ⟨(.st [(0, 1, 4), (1, 4, 50)]), 5, 72, [.val (.bool false), .val (.bool false), .val (.slice none 0 0), .val (.bool false), .val (.slice none 0 0)]⟩ := by kernel_rfl
@[simp] theorem Tryz.ty94 : tyOf Tryz.prog 94 = some ⟨(.st [(0, 1, 4), (1, 4, 50)]), 5, 72, [.val (.bool false), .val (.bool false), .val (.slice none 0 0), .val (.bool false), .val (.slice none 0 0)]⟩ := by kernel_rfl
@[simp] theorem Tryz.ty95 : tyOf Tryz.prog 95 = some ⟨(.st [(0, 1, 9), (1, 1, 30), (2, 1, 58), (3, 5, 94), (8, 5, 94)]), 13, 208, [.val (.string ByteArray.empty), .val (.slice none 0 0), .val (.slice none 0 0), .val (.bool false), .val (.bool false), .val (.slice none 0 0), .val (.bool false), .val (.slice none 0 0), .val (.bool false), .val (.bool false), .val (.slice none 0 0), .val (.bool false), .val (.slice none 0 0)]⟩ := by kernel_rfl
@[simp] theorem Tryz.ty96 : tyOf Tryz.prog 96 = some ⟨(.st [(0, 1, 9), (1, 1, 30), (2, 1, 58), (3, 5, 94), (8, 5, 94)]), 13, 208, [.val (.string ByteArray.empty), .val (.slice none 0 0), .val (.slice none 0 0), .val (.bool false), .val (.bool false), .val (.slice none 0 0), .val (.bool false), .val (.slice none 0 0), .val (.bool false), .val (.bool false), .val (.slice none 0 0), .val (.bool false), .val (.slice none 0 0)]⟩ := by kernel_rfl
@[simp] theorem Tryz.ty97 : tyOf Tryz.prog 97 = some ⟨.other, 1, 8, [.val (.nilFunc)]⟩ := by kernel_rfl
@[simp] theorem Tryz.ty98 : tyOf Tryz.prog 98 = some ⟨.other, 1, 8, [.val (.nilFunc)]⟩ := by kernel_rfl
@[simp] theorem Tryz.ty99 : tyOf Tryz.prog 99 = some ⟨.other, 1, 8, [.val (.nilFunc)]⟩ := by kernel_rfl
@[simp] theorem Tryz.ty101 : tyOf Tryz.prog 101 = some ⟨.other, 1, 8, [.val (.nilFunc)]⟩ := by kernel_rfl
@[simp] theorem Tryz.ty102 : tyOf Tryz.prog 102 = some ⟨.other, 1, 8, [.val (.nilFunc)]⟩ := by kernel_rfl
@[simp] theorem Tryz.ty104 : tyOf Tryz.prog 104 = some ⟨.other, 1, 8, [.val (.nilFunc)]⟩ := by kernel_rfl
@[simp] theorem Tryz.ty105 : tyOf Tryz.prog 105 = some ⟨.other, 1, 8, [.val (.nilFunc)]⟩ := by kernel_rfl
@[simp] theorem Tryz.ty107 : tyOf Tryz.prog 107 = some ⟨.other, 1, 8, [.val (.nilFunc)]⟩ := by kernel_rfl
@[simp] theorem Tryz.ty108 : tyOf Tryz.prog 108 = some ⟨.other, 1, 8, [.val (.nilFunc)]⟩ := by kernel_rfl
@[simp] theorem Tryz.ty109 : tyOf Tryz.prog 109 = some ⟨.other, 1, 8, [.val (.nilFunc)]⟩ := by kernel_rfl
@[simp] theorem Tryz.ty110 : tyOf Tryz.prog 110 = some ⟨(.st [(0, 1, 3), (1, 1, 46), (2, 1, 46), (3, 1, 46), (4, 1, 9)]), 5, 96, [.val (.int .i64 0), .val (.slice none 0 0), .val (.slice none 0 0), .val (.slice none 0 0), .val (.string ByteArray.empty)]⟩ := by kernel_rfl
@[simp] theorem Tryz.ty111 : tyOf Tryz.prog 111 = some ⟨(.st [(0, 1, 3), (1, 1, 46), (2, 1, 46), (3, 1, 46), (4, 1, 9)]), 5, 96, [.val (.int .i64 0), .val (.slice none 0 0), .val (.slice none 0 0), .val (.slice none 0 0), .val (.string ByteArray.empty)]⟩ := by kernel_rfl
@[simp] theorem Tryz.ty112 : tyOf Tryz.prog 112 = some ⟨.other, 1, 8, [.val (.nilFunc)]⟩ := by kernel_rfl
@[simp] theorem Tryz.ty113 : tyOf Tryz.prog 113 = some ⟨(.st [(0, 1, 3), (1, 1, 64), (2, 1, 64), (3, 1, 64), (4, 4, 73)]), 8, 144, [.val (.int .i64 0), .val (.slice none 0 0), .val (.slice none 0 0), .val (.slice none 0 0), .val (.bool false), .val (.slice none 0 0), .val (.bool false), .val (.slice none 0 0)]⟩ := by kernel_rfl
@[simp] theorem Tryz.ty114 : tyOf Tryz.prog 114 = some ⟨(.st [(0, 1, 3), (1, 1, 64), (2, 1, 64), (3, 1, 64), (4, 4, 73)]), 8, 144, [.val (.int .i64 0), .val (.slice none 0 0), .val (.slice none 0 0), .val (.slice none 0 0), .val (.bool false), .val (.slice none 0 0), .val (.bool false), .val (.slice none 0 0)]⟩ := by kernel_rfl
@[simp] theorem Tryz.ty116 : tyOf Tryz.prog 116 = some ⟨.other, 1, 8, [.val (.nilFunc)]⟩ := by kernel_rfl
@[simp] theorem Tryz.ty117 : tyOf Tryz.prog 117 = some ⟨.other, 1, 8, [.val (.nilFunc)]⟩ := by kernel_rfl
@[simp] theorem Tryz.ty118 : tyOf Tryz.prog 118 = some ⟨(.st [(0, 1, 3), (1, 1, 58), (2, 1, 58), (3, 1, 58), (4, 4, 50)]), 8, 144, [.val (.int .i64 0), .val (.slice none 0 0), .val (.slice none 0 0), .val (.slice none 0 0), .val (.bool false), .val (.slice none 0 0), .val (.bool false), .val (.slice none 0 0)]⟩ := by kernel_rfl
@[simp] theorem Tryz.ty119 : tyOf Tryz.prog 119 = some ⟨(.st [(0, 1, 3), (1, 1, 58), (2, 1, 58), (3, 1, 58), (4, 4, 50)]), 8, 144, [.val (.int .i64 0), .val (.slice none 0 0), .val (.slice none 0 0), .val (.slice none 0 0), .val (.bool false), .val (.slice none 0 0), .val (.bool false), .val (.slice none 0 0)]⟩ := by kernel_rfl
@[simp] theorem Tryz.ty121 : tyOf Tryz.prog 121 = some ⟨.other, 1, 8, [.val (.nilFunc)]⟩ := by kernel_rfl
@[simp] theorem Tryz.ty122 : tyOf Tryz.prog 122 = some ⟨.other, 1, 8, [.val (.nilFunc)]⟩ := by kernel_rfl
@[simp] theorem Tryz.ty123 : tyOf Tryz.prog 123 = some ⟨.other, 1, 8, [.val (.nilFunc)]⟩ := by kernel_rfl
@[simp] theorem Tryz.ty124 : tyOf Tryz.prog 124 = some ⟨.other, 1, 8, [.val (.nilFunc)]⟩ := by kernel_rfl
@[simp] theorem Tryz.ty125 : tyOf Tryz.prog 125 = some ⟨.other, 1, 8, [.val (.nilFunc)]⟩ := by kernel_rfl
@[simp] theorem Tryz.ty126 : tyOf Tryz.prog 126 = some ⟨.other, 1, 8, [.val (.nilFunc)]⟩ := by kernel_rfl
@[simp] theorem Tryz.ty127 : tyOf Tryz.prog 127 = some ⟨.other, 1, 8, [.val (.nilFunc)]⟩ := by kernel_rfl
@[simp] theorem Tryz.ty128 : tyOf Tryz.prog 128 = some ⟨(.sl 215), 1, 24, [.val (.slice none 0 0)]⟩ := by kernel_rfl
@[simp] theorem Tryz.ty129 : tyOf Tryz.prog 129 = some ⟨.other, 1, 8, [.val (.nilFunc)]⟩ := by kernel_rfl
@[simp] theorem Tryz.ty130 : tyOf Tryz.prog 130 = some ⟨.other, 1, 8, [.val (.nilFunc)]⟩ := by kernel_rfl
@[simp] theorem Tryz.ty131 : tyOf Tryz.prog 131 = some ⟨.other, 1, 8, [.val (.nilFunc)]⟩ := by kernel_rfl
@[simp] theorem Tryz.ty132 : tyOf Tryz.prog 132 = some ⟨(.ptr 227), 1, 8, [.val (.pointer none)]⟩ := by kernel_rfl
@[simp] theorem Tryz.ty134 : tyOf Tryz.prog 134 = some ⟨.other, 1, 8, [.val (.nilFunc)]⟩ := by kernel_rfl
@[simp] theorem Tryz.ty135 : tyOf Tryz.prog 135 = some ⟨.other, 1, 8, [.val (.nilFunc)]⟩ := by kernel_rfl
@[simp] theorem Tryz.ty136 : tyOf Tryz.prog 136 = some ⟨.other, 1, 8, [.val (.nilFunc)]⟩ := by kernel_rfl
@[simp] theorem Tryz.ty137 : tyOf Tryz.prog 137 = some ⟨.other, 1, 8, [.val (.nilFunc)]⟩ := by kernel_rfl
@[simp] theorem Tryz.ty138 : tyOf Tryz.prog 138 = some ⟨.other, 1, 8, [.val (.nilFunc)]⟩ := by kernel_rfl
@[simp] theorem Tryz.ty139 : tyOf Tryz.prog 139 = some ⟨.other, 1, 8, [.val (.nilFunc)]⟩ := by kernel_rfl
@[simp] theorem Tryz.ty140 : tyOf Tryz.prog 140 = some ⟨.other, 1, 8, [.val (.nilFunc)]⟩ := by kernel_rfl
@[simp] theorem Tryz.ty141 : tyOf Tryz.prog 141 = some ⟨.other, 1, 8, [.val (.nilFunc)]⟩ := by kernel_rfl
@[simp] theorem Tryz.ty142 : tyOf Tryz.prog 142 = some ⟨.other, 1, 8, [.val (.nilFunc)]⟩ := by kernel_rfl
@[simp] theorem Tryz.ty143 : tyOf Tryz.prog 143 = some ⟨.other, 1, 8, [.val (.nilFunc)]⟩ := by kernel_rfl
@[simp] theorem Tryz.ty145 : tyOf Tryz.prog 145 = some ⟨.other, 1, 8, [.val (.nilFunc)]⟩ := by kernel_rfl
@[simp] theorem Tryz.ty146 : tyOf Tryz.prog 146 = some ⟨.other, 1, 8, [.val (.nilFunc)]⟩ := by kernel_rfl
@[simp] theorem Tryz.ty148 : tyOf Tryz.prog 148 = some ⟨.other, 1, 8, [.val (.nilFunc)]⟩ := by kernel_rfl
@[simp] theorem Tryz.ty149 : tyOf Tryz.prog 149 = some ⟨.other, 1, 8, [.val (.nilFunc)]⟩ := by kernel_rfl
@[simp] theorem Tryz.ty151 : tyOf Tryz.prog 151 = some ⟨.other, 1, 8, [.val (.nilFunc)]⟩ := by kernel_rfl
@[simp] theorem Tryz.ty152 : tyOf Tryz.prog 152 = some ⟨.other, 1, 8, [.val (.nilFunc)]⟩ := by kernel_rfl
@[simp] theorem Tryz.ty153 : tyOf Tryz.prog 153 = some ⟨.other, 1, 8, [.val (.nilFunc)]⟩ := by kernel_rfl
@[simp] theorem Tryz.ty154 : tyOf Tryz.prog 154 = some ⟨.other, 1, 8, [.val (.nilFunc)]⟩ := by kernel_rfl
@[simp] theorem Tryz.ty155 : tyOf Tryz.prog 155 = some ⟨.other, 1, 8, [.val (.nilFunc)]⟩ := by kernel_rfl
@[simp] theorem Tryz.ty156 : tyOf Tryz.prog 156 = some ⟨.other, 1, 8, [.val (.nilFunc)]⟩ := by kernel_rfl
@[simp] theorem Tryz.ty157 : tyOf Tryz.prog 157 = some ⟨.other, 1, 8, [.val (.nilFunc)]⟩ := by kernel_rfl
@[simp] theorem Tryz.ty158 : tyOf Tryz.prog 158 = some ⟨(.st [(0, 1, 9), (1, 1, 4), (2, 1, 9), (3, 1, 9), (4, 1, 9)]), 5, 72, [.val (.string ByteArray.empty), .val (.bool false), .val (.string ByteArray.empty), .val (.string ByteArray.empty), .val (.string ByteArray.empty)]⟩ := by kernel_rfl
@[simp] theorem Tryz.ty159 : tyOf Tryz.prog 159 = some ⟨(.st [(0, 1, 9), (1, 1, 4), (2, 1, 9), (3, 1, 9), (4, 1, 9)]), 5, 72, [.val (.string ByteArray.empty), .val (.bool false), .val (.string ByteArray.empty), .val (.string ByteArray.empty), .val (.string ByteArray.empty)]⟩ := by kernel_rfl
@[simp] theorem Tryz.ty160 : tyOf Tryz.prog 160 = some ⟨(.st [(0, 1, 9), (1, 1, 9), (2, 1, 9), (3, 1, 30), (4, 1, 46)]), 5, 96, [.val (.string ByteArray.empty), .val (.string ByteArray.empty), .val (.string ByteArray.empty), .val (.slice none 0 0), .val (.slice none 0 0)]⟩ := by kernel_rfl
@[simp] theorem Tryz.ty161 : tyOf Tryz.prog 161 = some ⟨(.st [(0, 1, 9), (1, 1, 9), (2, 1, 9), (3, 1, 30), (4, 1, 46)]), 5, 96, [.val (.string ByteArray.empty), .val (.string ByteArray.empty), .val (.string ByteArray.empty), .val (.slice none 0 0), .val (.slice none 0 0)]⟩ := by kernel_rfl
@[simp] theorem Tryz.ty162 : tyOf Tryz.prog 162 = some ⟨(.st [(0, 1, 3), (1, 1, 3)]), 2, 16, [.val (.int .i64 0), .val (.int .i64 0)]⟩ := by kernel_rfl
@[simp] theorem Tryz.ty163 : tyOf Tryz.prog 163 = some ⟨(.st [(0, 1, 3), (1, 1, 3)]), 2, 16, [.val (.int .i64 0), .val (.int .i64 0)]⟩ := by kernel_rfl
@[simp] theorem Tryz.ty165 : tyOf Tryz.prog 165 = some ⟨.other, 1, 8, [.val (.nilFunc)]⟩ := by kernel_rfl
@[simp] theorem Tryz.ty166 : tyOf Tryz.prog 166 = some ⟨.other, 1, 8, [.val (.nilFunc)]⟩ := by kernel_rfl
@[simp] theorem Tryz.ty167 : tyOf Tryz.prog 167 = some ⟨.other, 1, 8, [.val (.nilFunc)]⟩ := by kernel_rfl
@[simp] theorem Tryz.ty169 : tyOf Tryz.prog 169 = some ⟨.other, 1, 8, [.val (.nilFunc)]⟩ := by kernel_rfl
@[simp] theorem Tryz.ty170 : tyOf Tryz.prog 170 = some ⟨.other, 1, 8, [.val (.nilFunc)]⟩ := by kernel_rfl
@[simp] theorem Tryz.ty171 : tyOf Tryz.prog 171 = some ⟨(.st [(0, 1, 9), (1, 1, 4), (2, 5, 85), (7, 5, 85), (12, 4, 73)]), 16, 232, [.val (.string ByteArray.empty), .val (.bool false), .val (.bool false), .val (.bool false), .val (.slice none 0 0), .val (.bool false), .val (.slice none 0 0), .val (.bool false), .val (.bool false), .val (.slice none 0 0), .val (.bool false), .val (.slice none 0 0), .val (.bool false), .val (.slice none 0 0), .val (.bool false), .val (.slice none 0 0)]⟩ := by kernel_rfl
@[simp] theorem Tryz.ty172 : tyOf Tryz.prog 172 = some ⟨(.st [(0, 1, 9), (1, 1, 4), (2, 5, 85), (7, 5, 85), (12, 4, 73)]), 16, 232, [.val (.string ByteArray.empty), .val (.bool false), .val (.bool false), .val (.bool false), .val (.slice none 0 0), .val (.bool false), .val (.slice none 0 0), .val (.bool false), .val (.bool false), .val (.slice none 0 0), .val (.bool false), .val (.slice none 0 0), .val (.bool false), .val (.slice none 0 0), .val (.bool false), .val (.slice none 0 0)]⟩ := by kernel_rfl
@[simp] theorem Tryz.ty173 : tyOf Tryz.prog 173 = some ⟨(.st [(0, 1, 3), (1, 4, 73)]), 5, 72, [.val (.int .i64 0), .val (.bool false), .val (.slice none 0 0), .val (.bool false), .val (.slice none 0 0)]⟩ := by kernel_rfl
@[simp] theorem Tryz.ty174 : tyOf Tryz.prog 174 = some ⟨(.st [(0, 1, 3), (1, 4, 73)]), 5, 72, [.val (.int .i64 0), .val (.bool false), .val (.slice none 0 0), .val (.bool false), .val (.slice none 0 0)]⟩ := by kernel_rfl
@[simp] theorem Tryz.ty175 : tyOf Tryz.prog 175 = some ⟨(.st [(0, 1, 9), (1, 1, 4), (2, 5, 94), (7, 5, 94), (12, 4, 50)]), 16, 232, [.val (.string ByteArray.empty), .val (.bool false), .val (.bool false), .val (.bool false), .val (.slice none 0 0), .val (.bool false), .val (.slice none 0 0), .val (.bool false), .val (.bool false), .val (.slice none 0 0), .val (.bool false), .val (.slice none 0 0), .val (.bool false), .val (.slice none 0 0), .val (.bool false), .val (.slice none 0 0)]⟩ := by kernel_rfl
@[simp] theorem Tryz.ty176 : tyOf Tryz.prog 176 = some ⟨(.st [(0, 1, 9), (1, 1, 4), (2, 5, 94), (7, 5, 94), (12, 4, 50)]), 16, 232, [.val (.string ByteArray.empty), .val (.bool false), .val (.bool false), .val (.bool false), .val (.slice none 0 0), .val (.bool false), .val (.slice none 0 0), .val (.bool false), .val (.bool false), .val (.slice none 0 0), .val (.bool false), .val (.slice none 0 0), .val (.bool false), .val (.slice none 0 0), .val (.bool false), .val (.slice none 0 0)]⟩ := by kernel_rfl
@[simp] theorem Tryz.ty177 : tyOf Tryz.prog 177 = some ⟨(.mp 9 3), 1, 8, [.val (.map none)]⟩ := by kernel_rfl
@[simp] theorem Tryz.ty178 : tyOf Tryz.prog 178 = some ⟨.other, 1, 8, [.val (.nilFunc)]⟩ := by kernel_rfl
@[simp] theorem Tryz.ty179 : tyOf Tryz.prog 179 = some ⟨.other, 1, 8, [.val (.nilFunc)]⟩ := by kernel_rfl
@[simp] theorem Tryz.ty180 : tyOf Tryz.prog 180 = some ⟨.other, 1, 8, [.val (.nilFunc)]⟩ := by kernel_rfl
@[simp] theorem Tryz.ty181 : tyOf Tryz.prog 181 = some ⟨.other, 1, 8, [.val (.nilFunc)]⟩ := by kernel_rfl
@[simp] theorem Tryz.ty182 : tyOf Tryz.prog 182 = some ⟨.other, 1, 8, [.val (.nilFunc)]⟩ := by kernel_rfl
@[simp] theorem Tryz.ty183 : tyOf Tryz.prog 183 = some ⟨.other, 1, 8, [.val (.nilFunc)]⟩ := by kernel_rfl
@[simp] theorem Tryz.ty184 : tyOf Tryz.prog 184 = some ⟨.other, 1, 8, [.val (.nilFunc)]⟩ := by kernel_rfl
@[simp] theorem Tryz.ty185 : tyOf Tryz.prog 185 = some ⟨.other, 1, 8, [.val (.nilFunc)]⟩ := by kernel_rfl
@[simp] theorem Tryz.ty186 : tyOf Tryz.prog 186 = some ⟨.other, 1, 8, [.val (.nilFunc)]⟩ := by kernel_rfl
@[simp] theorem Tryz.ty187 : tyOf Tryz.prog 187 = some ⟨.other, 1, 8, [.val (.nilFunc)]⟩ := by kernel_rfl
@[simp] theorem Tryz.ty188 : tyOf Tryz.prog 188 = some ⟨.other, 1, 8, [.val (.nilFunc)]⟩ := by kernel_rfl
@[simp] theorem Tryz.ty189 : tyOf Tryz.prog 189 = some ⟨.other, 1, 8, [.val (.nilFunc)]⟩ := by kernel_rfl
@[simp] theorem Tryz.ty190 : tyOf Tryz.prog 190 = some ⟨.other, 1, 8, [.val (.nilFunc)]⟩ := by kernel_rfl
@[simp] theorem Tryz.ty191 : tyOf Tryz.prog 191 = some ⟨.other, 1, 8, [.val (.nilFunc)]⟩ := by kernel_rfl
@[simp] theorem Tryz.ty192 : tyOf Tryz.prog 192 = some ⟨.other, 1, 8, [.val (.nilFunc)]⟩ := by kernel_rfl
@[simp] theorem Tryz.ty193 : tyOf Tryz.prog 193 = some ⟨.other, 1, 8, [.val (.nilFunc)]⟩ := by kernel_rfl
@[simp] theorem Tryz.ty194 : tyOf Tryz.prog 194 = some ⟨.other, 1, 8, [.val (.nilFunc)]⟩ := by kernel_rfl
@[simp] theorem Tryz.ty195 : tyOf Tryz.prog 195 = some ⟨.other, 1, 8, [.val (.nilFunc)]⟩ := by kernel_rfl
@[simp] theorem Tryz.ty196 : tyOf Tryz.prog 196 = some ⟨.other, 1, 8, [.val (.nilFunc)]⟩ := by kernel_rfl
@[simp] theorem Tryz.ty197 : tyOf Tryz.prog 197 = some ⟨.other, 1, 8, [.val (.nilFunc)]⟩ := by kernel_rfl
@[simp] theorem Tryz.ty198 : tyOf Tryz.prog 198 = some ⟨(.mp 3 4), 1, 8, [.val (.map none)]⟩ := by kernel_rfl
@[simp] theorem Tryz.ty199 : tyOf Tryz.prog 199 = some ⟨.other, 1, 8, [.val (.nilFunc)]⟩ := by kernel_rfl
@[simp] theorem Tryz.ty200 : tyOf Tryz.prog 200 = some ⟨.other, 1, 8, [.val (.nilFunc)]⟩ := by kernel_rfl
@[simp] theorem Tryz.ty201 : tyOf Tryz.prog 201 = some ⟨.other, 1, 8, [.val (.nilFunc)]⟩ := by kernel_rfl
@[simp] theorem Tryz.ty202 : tyOf Tryz.prog 202 = some ⟨(.sl 289), 1, 24, [.val (.slice none 0 0)]⟩ := by kernel_rfl
@[simp] theorem Tryz.ty204 : tyOf Tryz.prog 204 = some ⟨.other, 1, 8, [.val (.nilFunc)]⟩ := by kernel_rfl
@[simp] theorem Tryz.ty205 : tyOf Tryz.prog 205 = some ⟨.other, 1, 8, [.val (.nilFunc)]⟩ := by kernel_rfl
@[simp] theorem Tryz.ty206 : tyOf Tryz.prog 206 = some ⟨(.sl 291), 1, 24, [.val (.slice none 0 0)]⟩ := by kernel_rfl
@[simp] theorem Tryz.ty208 : tyOf Tryz.prog 208 = some ⟨.other, 1, 8, [.val (.nilFunc)]⟩ := by kernel_rfl
@[simp] theorem Tryz.ty209 : tyOf Tryz.prog 209 = some ⟨(.sl 4), 1, 24, [.val (.slice none 0 0)]⟩ := by kernel_rfl
@[simp] theorem Tryz.ty211 : tyOf Tryz.prog 211 = some ⟨.other, 1, 8, [.val (.nilFunc)]⟩ := by kernel_rfl
@[simp] theorem Tryz.ty212 : tyOf Tryz.prog 212 = some ⟨.other, 1, 8, [.val (.nilFunc)]⟩ := by kernel_rfl
@[simp] theorem Tryz.ty213 : tyOf Tryz.prog 213 = some ⟨.other, 1, 8, [.val (.nilFunc)]⟩ := by kernel_rfl
@[simp] theorem Tryz.ty214 : tyOf Tryz.prog 214 = some ⟨(.st [(0, 1, 3), (1, 1, 3), (2, 1, 9), (3, 1, 9)]), 4, 48, [.val (.int .i64 0), .val (.int .i64 0), .val (.string ByteArray.empty), .val (.string ByteArray.empty)]⟩ := by kernel_rfl
@[simp] theorem Tryz.ty215 : tyOf Tryz.prog 215 = some ⟨(.st [(0, 1, 3), (1, 1, 3), (2, 1, 9), (3, 1, 9)]), 4, 48, [.val (.int .i64 0), .val (.int .i64 0), .val (.string ByteArray.empty), .val (.string ByteArray.empty)]⟩ := by kernel_rfl
@[simp] theorem Tryz.ty216 : tyOf Tryz.prog 216 = some ⟨(.ptr 307), 1, 8, [.val (.pointer none)]⟩ := by kernel_rfl
@[simp] theorem Tryz.ty218 : tyOf Tryz.prog 218 = some ⟨.other, 1, 8, [.val (.nilFunc)]⟩ := by kernel_rfl
@[simp] theorem Tryz.ty219 : tyOf Tryz.prog 219 = some ⟨.other, 1, 8, [.val (.nilFunc)]⟩ := by kernel_rfl
@[simp] theorem Tryz.ty220 : tyOf Tryz.prog 220 = some ⟨(.st [(0, 1, 4), (1, 1, 58), (2, 1, 58), (3, 1, 209), (4, 4, 50)]), 8, 144, [.val (.bool false), .val (.slice none 0 0), .val (.slice none 0 0), .val (.slice none 0 0), .val (.bool false), .val (.slice none 0 0), .val (.bool false), .val (.slice none 0 0)]⟩ := by kernel_rfl
@[simp] theorem Tryz.ty221 : tyOf Tryz.prog 221 = some ⟨(.st [(0, 1, 4), (1, 1, 58), (2, 1, 58), (3, 1, 209), (4, 4, 50)]), 8, 144, [.val (.bool false), .val (.slice none 0 0), .val (.slice none 0 0), .val (.slice none 0 0), .val (.bool false), .val (.slice none 0 0), .val (.bool false), .val (.slice none 0 0)]⟩ := by kernel_rfl
@[simp] theorem Tryz.ty223 : tyOf Tryz.prog 223 = some ⟨.other, 1, 8, [.val (.nilFunc)]⟩ := by kernel_rfl
@[simp] theorem Tryz.ty224 : tyOf Tryz.prog 224 = some ⟨.other, 1, 8, [.val (.nilFunc)]⟩ := by kernel_rfl
@[simp] theorem Tryz.ty225 : tyOf Tryz.prog 225 = some ⟨(.sl 231), 1, 24, [.val (.slice none 0 0)]⟩ := by kernel_rfl
@[simp] theorem Tryz.ty226 : tyOf Tryz.prog 226 = some ⟨(.st [(0, 1, 30), (1, 1, 27), (2, 1, 4), (3, 1, 225)]), 4, 80, [.val (.slice none 0 0), .val (.slice none 0 0), .val (.bool false), .val (.slice none 0 0)]⟩ := by kernel_rfl
@[simp] theorem Tryz.ty227 : tyOf Tryz.prog 227 = some ⟨(.st [(0, 1, 30), (1, 1, 27), (2, 1, 4), (3, 1, 225)]), 4, 80, [.val (.slice none 0 0), .val (.slice none 0 0), .val (.bool false), .val (.slice none 0 0)]⟩ := by kernel_rfl
@[simp] theorem Tryz.ty228 : tyOf Tryz.prog 228 = some ⟨.other, 1, 8, [.val (.nilFunc)]⟩ := by kernel_rfl
@[simp] theorem Tryz.ty229 : tyOf Tryz.prog 229 = some ⟨.other, 1, 8, [.val (.nilFunc)]⟩ := by kernel_rfl
@[simp] theorem Tryz.ty230 : tyOf Tryz.prog 230 = some ⟨(.st [(0, 1, 3), (1, 1, 64)]), 2, 32, [.val (.int .i64 0), .val (.slice none 0 0)]⟩ := by kernel_rfl
@[simp] theorem Tryz.ty231 : tyOf Tryz.prog 231 = some ⟨(.st [(0, 1, 3), (1, 1, 64)]), 2, 32, [.val (.int .i64 0), .val (.slice none 0 0)]⟩ := by kernel_rfl
@[simp] theorem Tryz.ty233 : tyOf Tryz.prog 233 = some ⟨.other, 1, 8, [.val (.nilFunc)]⟩ := by kernel_rfl
@[simp] theorem Tryz.ty234 : tyOf Tryz.prog 234 = some ⟨.other, 1, 8, [.val (.nilFunc)]⟩ := by kernel_rfl
@[simp] theorem Tryz.ty235 : tyOf Tryz.prog 235 = some ⟨.other, 1, 8, [.val (.nilFunc)]⟩ := by kernel_rfl
@[simp] theorem Tryz.ty236 : tyOf Tryz.prog 236 = some ⟨.other, 1, 8, [.val (.nilFunc)]⟩ := by kernel_rfl
@[simp] theorem Tryz.ty237 : tyOf Tryz.prog 237 = some ⟨.other, 1, 8, [.val (.nilFunc)]⟩ := by kernel_rfl
@[simp] theorem Tryz.ty238 : tyOf Tryz.prog 238 = some ⟨.other, 1, 8, [.val (.nilFunc)]⟩ := by kernel_rfl
@[simp] theorem Tryz.ty239 : tyOf Tryz.prog 239 = some ⟨(.sl 32), 1, 24, [.val (.slice none 0 0)]⟩ := by kernel_rfl
@[simp] theorem Tryz.ty240 : tyOf Tryz.prog 240 = some ⟨.other, 1, 8, [.val (.nilFunc)]⟩ := by kernel_rfl
@[simp] theorem Tryz.ty241 : tyOf Tryz.prog 241 = some ⟨(.ptr 245), 1, 8, [.val (.pointer none)]⟩ := by kernel_rfl
@[simp] theorem Tryz.ty242 : tyOf Tryz.prog 242 = some ⟨.other, 1, 8, [.val (.nilFunc)]⟩ := by kernel_rfl
@[simp] theorem Tryz.ty243 : tyOf Tryz.prog 243 = some ⟨(.ptr 241), 1, 8, [.val (.pointer none)]⟩ := by kernel_rfl
@[simp] theorem Tryz.ty244 : tyOf Tryz.prog 244 = some ⟨(.st [(0, 1, 3), (1, 1, 32)]), 2, 24, [.val (.int .i64 0), .val (.nilIface)]⟩ := by kernel_rfl
@[simp] theorem Tryz.ty245 : tyOf Tryz.prog 245 = some ⟨(.st [(0, 1, 3), (1, 1, 32)]), 2, 24, [.val (.int .i64 0), .val (.nilIface)]⟩ := by kernel_rfl
@[simp] theorem Tryz.ty246 : tyOf Tryz.prog 246 = some ⟨.other, 1, 8, [.val (.nilFunc)]⟩ := by kernel_rfl
@[simp] theorem Tryz.ty247 : tyOf Tryz.prog 247 = some ⟨.other, 1, 8, [.val (.nilFunc)]⟩ := by kernel_rfl
@[simp] theorem Tryz.ty249 : tyOf Tryz.prog 249 = some ⟨.other, 1, 8, [.val (.nilFunc)]⟩ := by kernel_rfl
@[simp] theorem Tryz.ty250 : tyOf Tryz.prog 250 = some ⟨.other, 1, 8, [.val (.nilFunc)]⟩ := by kernel_rfl
@[simp] theorem Tryz.ty251 : tyOf Tryz.prog 251 = some ⟨.other, 1, 8, [.val (.nilFunc)]⟩ := by kernel_rfl
@[simp] theorem Tryz.ty252 : tyOf Tryz.prog 252 = some ⟨.other, 1, 8, [.val (.nilFunc)]⟩ := by kernel_rfl
@[simp] theorem Tryz.ty253 : tyOf Tryz.prog 253 = some ⟨(.sl 5), 1, 24, [.val (.slice none 0 0)]⟩ := by kernel_rfl
@[simp] theorem Tryz.ty254 : tyOf Tryz.prog 254 = some ⟨(.int .u32), 1, 4, [.val (.int .u32 0)]⟩ := by kernel_rfl
@[simp] theorem Tryz.ty256 : tyOf Tryz.prog 256 = some ⟨.other, 1, 8, [.val (.nilFunc)]⟩ := by kernel_rfl
@[simp] theorem Tryz.ty257 : tyOf Tryz.prog 257 = some ⟨.other, 1, 8, [.val (.nilFunc)]⟩ := by kernel_rfl
@[simp] theorem Tryz.ty258 : tyOf Tryz.prog 258 = some ⟨.other, 1, 8, [.val (.nilFunc)]⟩ := by kernel_rfl
@[simp] theorem Tryz.ty259 : tyOf Tryz.prog 259 = some ⟨.other, 1, 8, [.val (.nilFunc)]⟩ := by kernel_rfl
@[simp] theorem Tryz.ty260 : tyOf Tryz.prog 260 = some ⟨.other, 1, 8, [.val (.nilFunc)]⟩ := by kernel_rfl
@[simp] theorem Tryz.ty261 : tyOf Tryz.prog 261 = some ⟨.other, 1, 8, [.val (.nilFunc)]⟩ := by kernel_rfl
@[simp] theorem Tryz.ty262 : tyOf Tryz.prog 262 = some ⟨.other, 1, 8, [.val (.nilFunc)]⟩ := by kernel_rfl
@[simp] theorem Tryz.ty263 : tyOf Tryz.prog 263 = some ⟨.other, 1, 8, [.val (.nilFunc)]⟩ := by kernel_rfl
@[simp] theorem Tryz.ty264 : tyOf Tryz.prog 264 = some ⟨.other, 1, 8, [.val (.nilFunc)]⟩ := by kernel_rfl
@[simp] theorem Tryz.ty265 : tyOf Tryz.prog 265 = some ⟨.other, 1, 8, [.val (.nilFunc)]⟩ := by kernel_rfl
@[simp] theorem Tryz.ty266 : tyOf Tryz.prog 266 = some ⟨.other, 1, 8, [.val (.nilFunc)]⟩ := by kernel_rfl
@[simp] theorem Tryz.ty267 : tyOf Tryz.prog 267 = some ⟨.other, 1, 8, [.val (.nilFunc)]⟩ := by kernel_rfl
@[simp] theorem Tryz.ty268 : tyOf Tryz.prog 268 = some ⟨.other, 1, 8, [.val (.nilFunc)]⟩ := by kernel_rfl
@[simp] theorem Tryz.ty270 : tyOf Tryz.prog 270 = some ⟨.other, 1, 8, [.val (.nilFunc)]⟩ := by kernel_rfl
@[simp] theorem Tryz.ty271 : tyOf Tryz.prog 271 = some ⟨.other, 1, 8, [.val (.nilFunc)]⟩ := by kernel_rfl
@[simp] theorem Tryz.ty272 : tyOf Tryz.prog 272 = some ⟨(.st [(0, 5, 85), (5, 5, 85)]), 10, 144, [.val (.bool false), .val (.bool false), .val (.slice none 0 0), .val (.bool false), .val (.slice none 0 0), .val (.bool false), .val (.bool false), .val (.slice none 0 0), .val (.bool false), .val (.slice none 0 0)]⟩ := by kernel_rfl
@[simp] theorem Tryz.ty273 : tyOf Tryz.prog 273 = some ⟨(.st [(0, 5, 85), (5, 5, 85)]), 10, 144, [.val (.bool false), .val (.bool false), .val (.slice none 0 0), .val (.bool false), .val (.slice none 0 0), .val (.bool false), .val (.bool false), .val (.slice none 0 0), .val (.bool false), .val (.slice none 0 0)]⟩ := by kernel_rfl
@[simp] theorem Tryz.ty274 : tyOf Tryz.prog 274 = some ⟨.other, 1, 8, [.val (.nilFunc)]⟩ := by kernel_rfl
@[simp] theorem Tryz.ty275 : tyOf Tryz.prog 275 = some ⟨.other, 1, 8, [.val (.nilFunc)]⟩ := by kernel_rfl
@[simp] theorem Tryz.ty276 : tyOf Tryz.prog 276 = some ⟨.other, 1, 8, [.val (.nilFunc)]⟩ := by kernel_rfl
@[simp] theorem Tryz.ty277 : tyOf Tryz.prog 277 = some ⟨.other, 1, 8, [.val (.nilFunc)]⟩ := by kernel_rfl
@[simp] theorem Tryz.ty279 : tyOf Tryz.prog 279 = some ⟨.other, 1, 8, [.val (.nilFunc)]⟩ := by kernel_rfl
@[simp] theorem Tryz.ty280 : tyOf Tryz.prog 280 = some ⟨.other, 1, 8, [.val (.nilFunc)]⟩ := by kernel_rfl
@[simp] theorem Tryz.ty281 : tyOf Tryz.prog 281 = some ⟨(.st [(0, 5, 94), (5, 5, 94)]), 10, 144, [.val (.bool false), .val (.bool false), .val (.slice none 0 0), .val (.bool false), .val (.slice none 0 0), .val (.bool false), .val (.bool false), .val (.slice none 0 0), .val (.bool false), .val (.slice none 0 0)]⟩ := by kernel_rfl
@[simp] theorem Tryz.ty282 : tyOf Tryz.prog 282 = some ⟨(.st [(0, 5, 94), (5, 5, 94)]), 10, 144, [.val (.bool false), .val (.bool false), .val (.slice none 0 0), .val (.bool false), .val (.slice none 0 0), .val (.bool false), .val (.bool false), .val (.slice none 0 0), .val (.bool false), .val (.slice none 0 0)]⟩ := by kernel_rfl
@[simp] theorem Tryz.ty283 : tyOf Tryz.prog 283 = some ⟨.other, 1, 8, [.val (.nilFunc)]⟩ := by kernel_rfl
@[simp] theorem Tryz.ty284 : tyOf Tryz.prog 284 = some ⟨.other, 1, 8, [.val (.nilFunc)]⟩ := by kernel_rfl
@[simp] theorem Tryz.ty285 : tyOf Tryz.prog 285 = some ⟨.other, 1, 8, [.val (.nilFunc)]⟩ := by kernel_rfl
@[simp] theorem Tryz.ty286 : tyOf Tryz.prog 286 = some ⟨.other, 1, 8, [.val (.nilFunc)]⟩ := by kernel_rfl
@[simp] theorem Tryz.ty287 : tyOf Tryz.prog 287 = some ⟨.other, 1, 8, [.val (.nilFunc)]⟩ := by kernel_rfl
@[simp] theorem Tryz.ty288 : tyOf Tryz.prog 288 = some ⟨(.st [(0, 1, 3), (1, 1, 3), (2, 4, 50), (6, 4, 50)]), 10, 144, [.val (.int .i64 0), .val (.int .i64 0), .val (.bool false), .val (.slice none 0 0), .val (.bool false), .val (.slice none 0 0), .val (.bool false), .val (.slice none 0 0), .val (.bool false), .val (.slice none 0 0)]⟩ := by kernel_rfl
@[simp] theorem Tryz.ty289 : tyOf Tryz.prog 289 = some ⟨(.st [(0, 1, 3), (1, 1, 3), (2, 4, 50), (6, 4, 50)]), 10, 144, [.val (.int .i64 0), .val (.int .i64 0), .val (.bool false), .val (.slice none 0 0), .val (.bool false), .val (.slice none 0 0), .val (.bool false), .val (.slice none 0 0), .val (.bool false), .val (.slice none 0 0)]⟩ := by kernel_rfl
@[simp] theorem Tryz.ty290 : tyOf Tryz.prog 290 = some ⟨(.st [(0, 1, 3), (1, 1, 3), (2, 4, 73), (6, 4, 73)]), 10, 144, [.val (.int .i64 0), .val (.int .i64 0), .val (.bool false), .val (.slice none 0 0), .val (.bool false), .val (.slice none 0 0), .val (.bool false), .val (.slice none 0 0), .val (.bool false), .val (.slice none 0 0)]⟩ := by kernel_rfl
@[simp] theorem Tryz.ty291 : tyOf Tryz.prog 291 = some ⟨(.st [(0, 1, 3), (1, 1, 3), (2, 4, 73), (6, 4, 73)]), 10, 144, [.val (.int .i64 0), .val (.int .i64 0), .val (.bool false), .val (.slice none 0 0), .val (.bool false), .val (.slice none 0 0), .val (.bool false), .val (.slice none 0 0), .val (.bool false), .val (.slice none 0 0)]⟩ := by kernel_rfl
@[simp] theorem Tryz.ty292 : tyOf Tryz.prog 292 = some ⟨.other, 1, 8, [.val (.nilFunc)]⟩ := by kernel_rfl
@[simp] theorem Tryz.ty293 : tyOf Tryz.prog 293 = some ⟨(.ptr 295), 1, 8, [.val (.pointer none)]⟩ := by kernel_rfl
@[simp] theorem Tryz.ty294 : tyOf Tryz.prog 294 = some ⟨(.st [(0, 1, 3), (1, 1, 206), (2, 1, 64)]), 3, 56, [.val (.int .i64 0), .val (.slice none 0 0), .val (.slice none 0 0)]⟩ := by kernel_rfl
@[simp] theorem Tryz.ty295 : tyOf Tryz.prog 295 = some ⟨(.st [(0, 1, 3), (1, 1, 206), (2, 1, 64)]), 3, 56, [.val (.int .i64 0), .val (.slice none 0 0), .val (.slice none 0 0)]⟩ := by kernel_rfl
@[simp] theorem Tryz.ty296 : tyOf Tryz.prog 296 = some ⟨(.sl 356), 1, 24, [.val (.slice none 0 0)]⟩ := by kernel_rfl
@[simp] theorem Tryz.ty298 : tyOf Tryz.prog 298 = some ⟨.other, 1, 8, [.val (.nilFunc)]⟩ := by kernel_rfl
@[simp] theorem Tryz.ty299 : tyOf Tryz.prog 299 = some ⟨.other, 1, 8, [.val (.nilFunc)]⟩ := by kernel_rfl
@[simp] theorem Tryz.ty300 : tyOf Tryz.prog 300 = some ⟨.other, 1, 8, [.val (.nilFunc)]⟩ := by kernel_rfl
@[simp] theorem Tryz.ty301 : tyOf Tryz.prog 301 = some ⟨.other, 1, 8, [.val (.nilFunc)]⟩ := by kernel_rfl
@[simp] theorem Tryz.ty302 : tyOf Tryz.prog 302 = some ⟨.other, 1, 8, [.val (.nilFunc)]⟩ := by kernel_rfl
@[simp] theorem Tryz.ty303 : tyOf Tryz.prog 303 = some ⟨.other, 1, 8, [.val (.nilFunc)]⟩ := by kernel_rfl
@[simp] theorem Tryz.ty305 : tyOf Tryz.prog 305 = some ⟨.other, 1, 8, [.val (.nilFunc)]⟩ := by kernel_rfl
@[simp] theorem Tryz.ty306 : tyOf Tryz.prog 306 = some ⟨(.st [(0, 1, 4), (1, 1, 64), (2, 1, 64), (3, 1, 209), (4, 4, 73)]), 8, 144, [.val (.bool false), .val (.slice none 0 0), .val (.slice none 0 0), .val (.slice none 0 0), .val (.bool false), .val (.slice none 0 0), .val (.bool false), .val (.slice none 0 0)]⟩ := by kernel_rfl
@[simp] theorem Tryz.ty307 : tyOf Tryz.prog 307 = some ⟨(.st [(0, 1, 4), (1, 1, 64), (2, 1, 64), (3, 1, 209), (4, 4, 73)]), 8, 144, [.val (.bool false), .val (.slice none 0 0), .val (.slice none 0 0), .val (.slice none 0 0), .val (.bool false), .val (.slice none 0 0), .val (.bool false), .val (.slice none 0 0)]⟩ := by kernel_rfl
@[simp] theorem Tryz.ty308 : tyOf Tryz.prog 308 = some ⟨.other, 1, 8, [.val (.nilFunc)]⟩ := by kernel_rfl
@[simp] theorem Tryz.ty310 : tyOf Tryz.prog 310 = some ⟨.other, 1, 8, [.val (.nilFunc)]⟩ := by kernel_rfl
@[simp] theorem Tryz.ty311 : tyOf Tryz.prog 311 = some ⟨(.int .u64), 1, 8, [.val (.int .u64 0)]⟩ := by kernel_rfl
@[simp] theorem Tryz.ty312 : tyOf Tryz.prog 312 = some ⟨(.int .u64), 1, 8, [.val (.int .u64 0)]⟩ := by kernel_rfl
@[simp] theorem Tryz.ty313 : tyOf Tryz.prog 313 = some ⟨.other, 1, 8, [.val (.nilFunc)]⟩ := by kernel_rfl
@[simp] theorem Tryz.ty314 : tyOf Tryz.prog 314 = some ⟨.iface, 1, 16, [.val (.nilIface)]⟩ := by kernel_rfl
@[simp] theorem Tryz.ty315 : tyOf Tryz.prog 315 = some ⟨.iface, 1, 16, [.val (.nilIface)]⟩ := by kernel_rfl
@[simp] theorem Tryz.ty316 : tyOf Tryz.prog 316 = some ⟨.other, 1, 8, [.val (.nilFunc)]⟩ := by kernel_rfl
@[simp] theorem Tryz.ty317 : tyOf Tryz.prog 317 = some ⟨.other, 1, 8, [.val (.nilFunc)]⟩ := by kernel_rfl
@[simp] theorem Tryz.ty318 : tyOf Tryz.prog 318 = some ⟨.other, 1, 8, [.val (.pointer none)]⟩ := by kernel_rfl
@[simp] theorem Tryz.ty319 : tyOf Tryz.prog 319 = some ⟨(.int .u64), 1, 8, [.val (.int .u64 0)]⟩ := by kernel_rfl
@[simp] theorem Tryz.ty320 : tyOf Tryz.prog 320 = some ⟨(.st [(0, 1, 17), (1, 1, 318), (2, 1, 319)]), 3, 24, [.val (.pointer none), .val (.pointer none), .val (.int .u64 0)]⟩ := by kernel_rfl
@[simp] theorem Tryz.ty321 : tyOf Tryz.prog 321 = some ⟨(.st [(0, 1, 17), (1, 1, 318), (2, 1, 319)]), 3, 24, [.val (.pointer none), .val (.pointer none), .val (.int .u64 0)]⟩ := by kernel_rfl
@[simp] theorem Tryz.ty322 : tyOf Tryz.prog 322 = some ⟨.other, 1, 8, [.val (.nilFunc)]⟩ := by kernel_rfl
@[simp] theorem Tryz.ty323 : tyOf Tryz.prog 323 = some ⟨.other, 1, 8, [.val (.nilFunc)]⟩ := by kernel_rfl
@[simp] theorem Tryz.ty324 : tyOf Tryz.prog 324 = some ⟨(.int .u8), 1, 1, [.val (.int .u8 0)]⟩ := by kernel_rfl
@[simp] theorem Tryz.ty325 : tyOf Tryz.prog 325 = some ⟨.other, 1, 8, [.val (.nilFunc)]⟩ := by kernel_rfl
@[simp] theorem Tryz.ty326 : tyOf Tryz.prog 326 = some ⟨.other, 1, 8, [.val (.nilFunc)]⟩ := by kernel_rfl
@[simp] theorem Tryz.ty327 : tyOf Tryz.prog 327 = some ⟨.other, 1, 8, [.val (.nilFunc)]⟩ := by kernel_rfl
@[simp] theorem Tryz.ty329 : tyOf Tryz.prog 329 = some ⟨.other, 1, 8, [.val (.nilFunc)]⟩ := by kernel_rfl
@[simp] theorem Tryz.ty330 : tyOf Tryz.prog 330 = some ⟨.other, 1, 8, [.val (.nilFunc)]⟩ := by kernel_rfl
@[simp] theorem Tryz.ty331 : tyOf Tryz.prog 331 = some ⟨.other, 1, 8, [.val (.nilFunc)]⟩ := by kernel_rfl
@[simp] theorem Tryz.ty333 : tyOf Tryz.prog 333 = some ⟨.other, 1, 8, [.val (.nilFunc)]⟩ := by kernel_rfl
@[simp] theorem Tryz.ty334 : tyOf Tryz.prog 334 = some ⟨(.ptr 336), 1, 8, [.val (.pointer none)]⟩ := by kernel_rfl
@[simp] theorem Tryz.ty335 : tyOf Tryz.prog 335 = some ⟨(.st [(0, 1, 9), (1, 1, 3), (2, 1, 32)]), 3, 40, [.val (.string ByteArray.empty), .val (.int .i64 0), .val (.nilIface)]⟩ := by kernel_rfl
@[simp] theorem Tryz.ty336 : tyOf Tryz.prog 336 = some ⟨(.st [(0, 1, 9), (1, 1, 3), (2, 1, 32)]), 3, 40, [.val (.string ByteArray.empty), .val (.int .i64 0), .val (.nilIface)]⟩ := by kernel_rfl
@[simp] theorem Tryz.ty337 : tyOf Tryz.prog 337 = some ⟨.other, 1, 8, [.val (.nilFunc)]⟩ := by kernel_rfl
@[simp] theorem Tryz.ty338 : tyOf Tryz.prog 338 = some ⟨.other, 1, 8, [.val (.nilFunc)]⟩ := by kernel_rfl
@[simp] theorem Tryz.ty340 : tyOf Tryz.prog 340 = some ⟨.other, 1, 8, [.val (.nilFunc)]⟩ := by kernel_rfl
@[simp] theorem Tryz.ty341 : tyOf Tryz.prog 341 = some ⟨.other, 1, 8, [.val (.nilFunc)]⟩ := by kernel_rfl
@[simp] theorem Tryz.ty342 : tyOf Tryz.prog 342 = some ⟨.other, 1, 8, [.val (.nilFunc)]⟩ := by kernel_rfl
@[simp] theorem Tryz.ty343 : tyOf Tryz.prog 343 = some ⟨.other, 1, 8, [.val (.nilFunc)]⟩ := by kernel_rfl
@[simp] theorem Tryz.ty345 : tyOf Tryz.prog 345 = some ⟨.other, 1, 8, [.val (.nilFunc)]⟩ := by kernel_rfl
@[simp] theorem Tryz.ty346 : tyOf Tryz.prog 346 = some ⟨.other, 1, 8, [.val (.nilFunc)]⟩ := by kernel_rfl
@[simp] theorem Tryz.ty347 : tyOf Tryz.prog 347 = some ⟨.other, 1, 8, [.val (.nilFunc)]⟩ := by kernel_rfl
@[simp] theorem Tryz.ty348 : tyOf Tryz.prog 348 = some ⟨.other, 1, 8, [.val (.nilFunc)]⟩ := by kernel_rfl
@[simp] theorem Tryz.ty349 : tyOf Tryz.prog 349 = some ⟨.other, 1, 8, [.val (.nilFunc)]⟩ := by kernel_rfl
@[simp] theorem Tryz.ty350 : tyOf Tryz.prog 350 = some ⟨.other, 1, 8, [.val (.nilFunc)]⟩ := by kernel_rfl
@[simp] theorem Tryz.ty351 : tyOf Tryz.prog 351 = some ⟨.other, 1, 8, [.val (.nilFunc)]⟩ := by kernel_rfl
@[simp] theorem Tryz.ty352 : tyOf Tryz.prog 352 = some ⟨.other, 1, 8, [.val (.nilFunc)]⟩ := by kernel_rfl
@[simp] theorem Tryz.ty353 : tyOf Tryz.prog 353 = some ⟨.other, 1, 8, [.val (.nilFunc)]⟩ := by kernel_rfl
@[simp] theorem Tryz.ty354 : tyOf Tryz.prog 354 = some ⟨.other, 1, 8, [.val (.nilFunc)]⟩ := by kernel_rfl
@[simp] theorem Tryz.ty355 : tyOf Tryz.prog 355 = some ⟨(.st [(0, 1, 3), (1, 1, 4)]), 2, 16, [.val (.int .i64 0), .val (.bool false)]⟩ := by kernel_rfl
@[simp] theorem Tryz.ty356 : tyOf Tryz.prog 356 = some ⟨(.st [(0, 1, 3), (1, 1, 4)]), 2, 16, [.val (.int .i64 0), .val (.bool false)]⟩ := by kernel_rfl
@[simp] theorem Tryz.ty357 : tyOf Tryz.prog 357 = some ⟨.other, 1, 8, [.val (.nilFunc)]⟩ := by kernel_rfl
@[simp] theorem Tryz.ty358 : tyOf Tryz.prog 358 = some ⟨.other, 1, 8, [.val (.nilFunc)]⟩ := by kernel_rfl
@[simp] theorem Tryz.ty359 : tyOf Tryz.prog 359 = some ⟨.other, 1, 8, [.val (.nilFunc)]⟩ := by kernel_rfl
@[simp] theorem Tryz.ty360 : tyOf Tryz.prog 360 = some ⟨.other, 1, 8, [.val (.nilFunc)]⟩ := by kernel_rfl
@[simp] theorem Tryz.ty362 : tyOf Tryz.prog 362 = some ⟨.other, 1, 8, [.val (.nilFunc)]⟩ := by kernel_rfl
@[simp] theorem Tryz.ty363 : tyOf Tryz.prog 363 = some ⟨(.st [(0, 1, 17)]), 1, 8, [.val (.pointer none)]⟩ := by kernel_rfl
@[simp] theorem Tryz.ty364 : tyOf Tryz.prog 364 = some ⟨(.st [(0, 1, 17)]), 1, 8, [.val (.pointer none)]⟩ := by kernel_rfl
@[simp] theorem Tryz.ty365 : tyOf Tryz.prog 365 = some ⟨(.ptr 405), 1, 8, [.val (.pointer none)]⟩ := by kernel_rfl
@[simp] theorem Tryz.ty366 : tyOf Tryz.prog 366 = some ⟨.iface, 1, 16, [.val (.nilIface)]⟩ := by kernel_rfl
@[simp] theorem Tryz.ty368 : tyOf Tryz.prog 368 = some ⟨.other, 1, 8, [.val (.nilFunc)]⟩ := by kernel_rfl
@[simp] theorem Tryz.ty369 : tyOf Tryz.prog 369 = some ⟨.iface, 1, 16, [.val (.nilIface)]⟩ := by kernel_rfl
@[simp] theorem Tryz.ty370 : tyOf Tryz.prog 370 = some ⟨.other, 1, 8, [.val (.nilFunc)]⟩ := by kernel_rfl
@[simp] theorem Tryz.ty371 : tyOf Tryz.prog 371 = some ⟨.iface, 1, 16, [.val (.nilIface)]⟩ := by kernel_rfl
@[simp] theorem Tryz.ty372 : tyOf Tryz.prog 372 = some ⟨.other, 1, 8, [.val (.nilFunc)]⟩ := by kernel_rfl
@[simp] theorem Tryz.ty373 : tyOf Tryz.prog 373 = some ⟨.other, 1, 8, [.val (.nilFunc)]⟩ := by kernel_rfl
@[simp] theorem Tryz.ty374 : tyOf Tryz.prog 374 = some ⟨.other, 1, 8, [.val (.nilFunc)]⟩ := by kernel_rfl
@[simp] theorem Tryz.ty375 : tyOf Tryz.prog 375 = some ⟨.iface, 1, 16, [.val (.nilIface)]⟩ := by kernel_rfl
@[simp] theorem Tryz.ty377 : tyOf Tryz.prog 377 = some ⟨.other, 1, 8, [.val (.nilFunc)]⟩ := by kernel_rfl
@[simp] theorem Tryz.ty378 : tyOf Tryz.prog 378 = some ⟨.other, 1, 8, [.val (.nilFunc)]⟩ := by kernel_rfl
@[simp] theorem Tryz.ty379 : tyOf Tryz.prog 379 = some ⟨.other, 1, 8, [.val (.nilFunc)]⟩ := by kernel_rfl
@[simp] theorem Tryz.ty381 : tyOf Tryz.prog 381 = some ⟨.other, 1, 8, [.val (.nilFunc)]⟩ := by kernel_rfl
@[simp] theorem Tryz.ty382 : tyOf Tryz.prog 382 = some ⟨.other, 1, 8, [.val (.nilFunc)]⟩ := by kernel_rfl
@[simp] theorem Tryz.ty383 : tyOf Tryz.prog 383 = some ⟨.other, 1, 8, [.val (.nilFunc)]⟩ := by kernel_rfl
@[simp] theorem Tryz.ty384 : tyOf Tryz.prog 384 = some ⟨.other, 1, 8, [.val (.nilFunc)]⟩ := by kernel_rfl
@[simp] theorem Tryz.ty385 : tyOf Tryz.prog 385 = some ⟨.other, 1, 8, [.val (.nilFunc)]⟩ := by kernel_rfl
@[simp] theorem Tryz.ty386 : tyOf Tryz.prog 386 = some ⟨.other, 1, 8, [.val (.nilFunc)]⟩ := by kernel_rfl
@[simp] theorem Tryz.ty387 : tyOf Tryz.prog 387 = some ⟨.other, 1, 8, [.val (.nilFunc)]⟩ := by kernel_rfl
@[simp] theorem Tryz.ty388 : tyOf Tryz.prog 388 = some ⟨(.ptr 407), 1, 8, [.val (.pointer none)]⟩ := by kernel_rfl
@[simp] theorem Tryz.ty389 : tyOf Tryz.prog 389 = some ⟨(.st [(0, 1, 17), (1, 1, 17), (2, 1, 17), (3, 1, 9)]), 4, 40, [.val (.pointer none), .val (.pointer none), .val (.pointer none), .val (.string ByteArray.empty)]⟩ := by kernel_rfl
@[simp] theorem Tryz.ty390 : tyOf Tryz.prog 390 = some ⟨(.st [(0, 1, 17), (1, 1, 17), (2, 1, 17), (3, 1, 9)]), 4, 40, [.val (.pointer none), .val (.pointer none), .val (.pointer none), .val (.string ByteArray.empty)]⟩ := by kernel_rfl
@[simp] theorem Tryz.ty391 : tyOf Tryz.prog 391 = some ⟨(.arr 0 16), 0, 0, []⟩ := by kernel_rfl
@[simp] theorem Tryz.ty392 : tyOf Tryz.prog 392 = some ⟨(.st [(0, 0, 391)]), 0, 0, []⟩ := by kernel_rfl
@[simp] theorem Tryz.ty393 : tyOf Tryz.prog 393 = some ⟨(.st [(0, 0, 391)]), 0, 0, []⟩ := by kernel_rfl
@[simp] theorem Tryz.ty394 : tyOf Tryz.prog 394 = some ⟨.other, 1, 8, [.val (.nilFunc)]⟩ := by kernel_rfl
@[simp] theorem Tryz.ty395 : tyOf Tryz.prog 395 = some ⟨(.int .u8), 1, 1, [.val (.int .u8 0)]⟩ := by kernel_rfl
@[simp] theorem Tryz.ty396 : tyOf Tryz.prog 396 = some ⟨.other, 1, 8, [.val (.nilFunc)]⟩ := by kernel_rfl
@[simp] theorem Tryz.ty397 : tyOf Tryz.prog 397 = some ⟨(.ptr 5), 1, 8, [.val (.pointer none)]⟩ := by kernel_rfl
@[simp] theorem Tryz.ty398 : tyOf Tryz.prog 398 = some ⟨(.int .i32), 1, 4, [.val (.int .i32 0)]⟩ := by kernel_rfl
@[simp] theorem Tryz.ty399 : tyOf Tryz.prog 399 = some ⟨(.int .i32), 1, 4, [.val (.int .i32 0)]⟩ := by kernel_rfl
@[simp] theorem Tryz.ty400 : tyOf Tryz.prog 400 = some ⟨(.st [(0, 1, 12), (1, 1, 12), (2, 1, 254), (3, 1, 395), (4, 1, 5), (5, 1, 5), (6, 1, 324), (7, 1, 396), (8, 1, 397), (9, 1, 398), (10, 1, 399)]), 11, 48, [.val (.int .u64 0), .val (.int .u64 0), .val (.int .u32 0), .val (.int .u8 0), .val (.int .u8 0), .val (.int .u8 0), .val (.int .u8 0), .val (.nilFunc), .val (.pointer none), .val (.int .i32 0), .val (.int .i32 0)]⟩ := by kernel_rfl
@[simp] theorem Tryz.ty401 : tyOf Tryz.prog 401 = some ⟨(.st [(0, 1, 12), (1, 1, 12), (2, 1, 254), (3, 1, 395), (4, 1, 5), (5, 1, 5), (6, 1, 324), (7, 1, 396), (8, 1, 397), (9, 1, 398), (10, 1, 399)]), 11, 48, [.val (.int .u64 0), .val (.int .u64 0), .val (.int .u32 0), .val (.int .u8 0), .val (.int .u8 0), .val (.int .u8 0), .val (.int .u8 0), .val (.nilFunc), .val (.pointer none), .val (.int .i32 0), .val (.int .i32 0)]⟩ := by kernel_rfl
@[simp] theorem Tryz.ty402 : tyOf Tryz.prog 402 = some ⟨.other, 1, 8, [.val (.nilFunc)]⟩ := by kernel_rfl
@[simp] theorem Tryz.ty403 : tyOf Tryz.prog 403 = some ⟨.other, 1, 8, [.val (.nilFunc)]⟩ := by kernel_rfl
@[simp] theorem Tryz.ty404 : tyOf Tryz.prog 404 = some ⟨(.st [(0, 1, 9), (1, 1, 324)]), 2, 24, [.val (.string ByteArray.empty), .val (.int .u8 0)]⟩ := by kernel_rfl
@[simp] theorem Tryz.ty405 : tyOf Tryz.prog 405 = some ⟨(.st [(0, 1, 9), (1, 1, 324)]), 2, 24, [.val (.string ByteArray.empty), .val (.int .u8 0)]⟩ := by kernel_rfl
@[simp] theorem Tryz.ty406 : tyOf Tryz.prog 406 = some ⟨(.st [(0, 1, 9)]), 1, 16, [.val (.string ByteArray.empty)]⟩ := by kernel_rfl
@[simp] theorem Tryz.ty407 : tyOf Tryz.prog 407 = some ⟨(.st [(0, 1, 9)]), 1, 16, [.val (.string ByteArray.empty)]⟩ := by kernel_rfl
@[simp] theorem Tryz.ty408 : tyOf Tryz.prog 408 = some ⟨(.ptr 412), 1, 8, [.val (.pointer none)]⟩ := by kernel_rfl
@[simp] theorem Tryz.ty409 : tyOf Tryz.prog 409 = some ⟨.other, 1, 8, [.val (.nilFunc)]⟩ := by kernel_rfl
@[simp] theorem Tryz.ty410 : tyOf Tryz.prog 410 = some ⟨(.int .u16), 1, 2, [.val (.int .u16 0)]⟩ := by kernel_rfl
@[simp] theorem Tryz.ty411 : tyOf Tryz.prog 411 = some ⟨(.st [(0, 1, 398), (1, 1, 410), (2, 1, 410), (3, 1, 254), (4, 1, 254)]), 5, 16, [.val (.int .i32 0), .val (.int .u16 0), .val (.int .u16 0), .val (.int .u32 0), .val (.int .u32 0)]⟩ := by kernel_rfl
@[simp] theorem Tryz.ty412 : tyOf Tryz.prog 412 = some ⟨(.st [(0, 1, 398), (1, 1, 410), (2, 1, 410), (3, 1, 254), (4, 1, 254)]), 5, 16, [.val (.int .i32 0), .val (.int .u16 0), .val (.int .u16 0), .val (.int .u32 0), .val (.int .u32 0)]⟩ := by kernel_rfl
@[simp] theorem Tryz.ty413 : tyOf Tryz.prog 413 = some ⟨(.sl 416), 1, 24, [.val (.slice none 0 0)]⟩ := by kernel_rfl
@[simp] theorem Tryz.ty414 : tyOf Tryz.prog 414 = some ⟨(.int .i32), 1, 4, [.val (.int .i32 0)]⟩ := by kernel_rfl
@[simp] theorem Tryz.ty415 : tyOf Tryz.prog 415 = some ⟨(.st [(0, 1, 398), (1, 1, 399), (2, 1, 414), (3, 1, 414)]), 4, 16, [.val (.int .i32 0), .val (.int .i32 0), .val (.int .i32 0), .val (.int .i32 0)]⟩ := by kernel_rfl
@[simp] theorem Tryz.ty416 : tyOf Tryz.prog 416 = some ⟨(.st [(0, 1, 398), (1, 1, 399), (2, 1, 414), (3, 1, 414)]), 4, 16, [.val (.int .i32 0), .val (.int .i32 0), .val (.int .i32 0), .val (.int .i32 0)]⟩ := by kernel_rfl
@[simp] theorem Tryz.ty417 : tyOf Tryz.prog 417 = some ⟨.other, 1, 8, [.val (.nilFunc)]⟩ := by kernel_rfl
@[simp] theorem Tryz.ty418 : tyOf Tryz.prog 418 = some ⟨(.ptr 32), 1, 8, [.val (.pointer none)]⟩ := by kernel_rfl
@[simp] theorem Tryz.ok2 : callOK Tryz.prog 2 := fun a w => Tryz.call2 a w
@[simp] theorem Tryz.ok3 : callOK Tryz.prog 3 := fun a w => Tryz.call3 a w
@[simp] theorem Tryz.ok4 : callOK Tryz.prog 4 := fun a w => Tryz.call4 a w
@[simp] theorem Tryz.ok5 : callOK Tryz.prog 5 := fun a w => Tryz.call5 a w
@[simp] theorem Tryz.ok6 : callOK Tryz.prog 6 := fun a w => Tryz.call6 a w
@[simp] theorem Tryz.ok7 : callOK Tryz.prog 7 := fun a w => Tryz.call7 a w
@[simp] theorem Tryz.ok8 : callOK Tryz.prog 8 := fun a w => Tryz.call8 a w
@[simp] theorem Tryz.ok9 : callOK Tryz.prog 9 := fun a w => Tryz.call9 a w
@[simp] theorem Tryz.ok10 : callOK Tryz.prog 10 := fun a w => Tryz.call10 a w
@[simp] theorem Tryz.ok11 : callOK Tryz.prog 11 := fun a w => Tryz.call11 a w
@[simp] theorem Tryz.ok12 : callOK Tryz.prog 12 := fun a w => Tryz.call12 a w
@[simp] theorem Tryz.ok13 : callOK Tryz.prog 13 := fun a w => Tryz.call13 a w
@[simp] theorem Tryz.ok14 : callOK Tryz.prog 14 := fun a w => Tryz.call14 a w
@[simp] theorem Tryz.ok15 : callOK Tryz.prog 15 := fun a w => Tryz.call15 a w
@[simp] theorem Tryz.ok16 : callOK Tryz.prog 16 := fun a w => Tryz.call16 a w
@[simp] theorem Tryz.ok17 : callOK Tryz.prog 17 := fun a w => Tryz.call17 a w
@[simp] theorem Tryz.ok18 : callOK Tryz.prog 18 := fun a w => Tryz.call18 a w
@[simp] theorem Tryz.ok19 : callOK Tryz.prog 19 := fun a w => Tryz.call19 a w
@[simp] theorem Tryz.ok20 : callOK Tryz.prog 20 := fun a w => Tryz.call20 a w
@[simp] theorem Tryz.ok21 : callOK Tryz.prog 21 := fun a w => Tryz.call21 a w
@[simp] theorem Tryz.ok22 : callOK Tryz.prog 22 := fun a w => Tryz.call22 a w
@[simp] theorem Tryz.ok23 : callOK Tryz.prog 23 := fun a w => Tryz.call23 a w
@[simp] theorem Tryz.ok24 : callOK Tryz.prog 24 := fun a w => Tryz.call24 a w
@[simp] theorem Tryz.ok25 : callOK Tryz.prog 25 := fun a w => Tryz.call25 a w
@[simp] theorem Tryz.ok26 : callOK Tryz.prog 26 := fun a w => Tryz.call26 a w
@[simp] theorem Tryz.ok27 : callOK Tryz.prog 27 := fun a w => Tryz.call27 a w
@[simp] theorem Tryz.ok28 : callOK Tryz.prog 28 := fun a w => Tryz.call28 a w
@[simp] theorem Tryz.ok29 : callOK Tryz.prog 29 := fun a w => Tryz.call29 a w
@[simp] theorem Tryz.ok30 : callOK Tryz.prog 30 := fun a w => Tryz.call30 a w
@[simp] theorem Tryz.ok31 : callOK Tryz.prog 31 := fun a w => Tryz.call31 a w
@[simp] theorem Tryz.ok32 : callOK Tryz.prog 32 := fun a w => Tryz.call32 a w
@[simp] theorem Tryz.ok33 : callOK Tryz.prog 33 := fun a w => Tryz.call33 a w
@[simp] theorem Tryz.ok34 : callOK Tryz.prog 34 := fun a w => Tryz.call34 a w
@[simp] theorem Tryz.ok35 : callOK Tryz.prog 35 := fun a w => Tryz.call35 a w
@[simp] theorem Tryz.ok36 : callOK Tryz.prog 36 := fun a w => Tryz.call36 a w
@[simp] theorem Tryz.ok37 : callOK Tryz.prog 37 := fun a w => Tryz.call37 a w
@[simp] theorem Tryz.ok38 : callOK Tryz.prog 38 := fun a w => Tryz.call38 a w
@[simp] theorem Tryz.ok39 : callOK Tryz.prog 39 := fun a w => Tryz.call39 a w
@[simp] theorem Tryz.ok40 : callOK Tryz.prog 40 := fun a w => Tryz.call40 a w
@[simp] theorem Tryz.ok41 : callOK Tryz.prog 41 := fun a w => Tryz.call41 a w
@[simp] theorem Tryz.ok42 : callOK Tryz.prog 42 := fun a w => Tryz.call42 a w
@[simp] theorem Tryz.ok43 : callOK Tryz.prog 43 := fun a w => Tryz.call43 a w
@[simp] theorem Tryz.ok44 : callOK Tryz.prog 44 := fun a w => Tryz.call44 a w
@[simp] theorem Tryz.ok45 : callOK Tryz.prog 45 := fun a w => Tryz.call45 a w
@[simp] theorem Tryz.ok46 : callOK Tryz.prog 46 := fun a w => Tryz.call46 a w
@[simp] theorem Tryz.ok47 : callOK Tryz.prog 47 := fun a w => Tryz.call47 a w
@[simp] theorem Tryz.ok48 : callOK Tryz.prog 48 := fun a w => Tryz.call48 a w
@[simp] theorem Tryz.ok49 : callOK Tryz.prog 49 := fun a w => Tryz.call49 a w
@[simp] theorem Tryz.ok50 : callOK Tryz.prog 50 := fun a w => Tryz.call50 a w
@[simp] theorem Tryz.ok51 : callOK Tryz.prog 51 := fun a w => Tryz.call51 a w
@[simp] theorem Tryz.ok52 : callOK Tryz.prog 52 := fun a w => Tryz.call52 a w
@[simp] theorem Tryz.ok53 : callOK Tryz.prog 53 := fun a w => Tryz.call53 a w
@[simp] theorem Tryz.ok54 : callOK Tryz.prog 54 := fun a w => Tryz.call54 a w
@[simp] theorem Tryz.ok55 : callOK Tryz.prog 55 := fun a w => Tryz.call55 a w
@[simp] theorem Tryz.ok56 : callOK Tryz.prog 56 := fun a w => Tryz.call56 a w
@[simp] theorem Tryz.ok57 : callOK Tryz.prog 57 := fun a w => Tryz.call57 a w
@[simp] theorem Tryz.ok58 : callOK Tryz.prog 58 := fun a w => Tryz.call58 a w
@[simp] theorem Tryz.ok59 : callOK Tryz.prog 59 := fun a w => Tryz.call59 a w
@[simp] theorem Tryz.ok60 : callOK Tryz.prog 60 := fun a w => Tryz.call60 a w
@[simp] theorem Tryz.ok61 : callOK Tryz.prog 61 := fun a w => Tryz.call61 a w
@[simp] theorem Tryz.ok62 : callOK Tryz.prog 62 := fun a w => Tryz.call62 a w
@[simp] theorem Tryz.ok63 : callOK Tryz.prog 63 := fun a w => Tryz.call63 a w
@[simp] theorem Tryz.ok64 : callOK Tryz.prog 64 := fun a w => Tryz.call64 a w
@[simp] theorem Tryz.ok65 : callOK Tryz.prog 65 := fun a w => Tryz.call65 a w
@[simp] theorem Tryz.ok66 : callOK Tryz.prog 66 := fun a w => Tryz.call66 a w
@[simp] theorem Tryz.ok67 : callOK Tryz.prog 67 := fun a w => Tryz.call67 a w
@[simp] theorem Tryz.ok68 : callOK Tryz.prog 68 := fun a w => Tryz.call68 a w
@[simp] theorem Tryz.ok69 : callOK Tryz.prog 69 := fun a w => Tryz.call69 a w
@[simp] theorem Tryz.ok70 : callOK Tryz.prog 70 := fun a w => Tryz.call70 a w
@[simp] theorem Tryz.ok71 : callOK Tryz.prog 71 := fun a w => Tryz.call71 a w
@[simp] theorem Tryz.ok72 : callOK Tryz.prog 72 := fun a w => Tryz.call72 a w
@[simp] theorem Tryz.ok73 : callOK Tryz.prog 73 := fun a w => Tryz.call73 a w
@[simp] theorem Tryz.ok74 : callOK Tryz.prog 74 := fun a w => Tryz.call74 a w
@[simp] theorem Tryz.ok75 : callOK Tryz.prog 75 := fun a w => Tryz.call75 a w
@[simp] theorem Tryz.ok76 : callOK Tryz.prog 76 := fun a w => Tryz.call76 a w
@[simp] theorem Tryz.ok77 : callOK Tryz.prog 77 := fun a w => Tryz.call77 a w
@[simp] theorem Tryz.ok78 : callOK Tryz.prog 78 := fun a w => Tryz.call78 a w
@[simp] theorem Tryz.ok79 : callOK Tryz.prog 79 := fun a w => Tryz.call79 a w
@[simp] theorem Tryz.ok80 : callOK Tryz.prog 80 := fun a w => Tryz.call80 a w
@[simp] theorem Tryz.ok81 : callOK Tryz.prog 81 := fun a w => Tryz.call81 a w
@[simp] theorem Tryz.ok82 : callOK Tryz.prog 82 := fun a w => Tryz.call82 a w
@[simp] theorem Tryz.ok83 : callOK Tryz.prog 83 := fun a w => Tryz.call83 a w
@[simp] theorem Tryz.ok84 : callOK Tryz.prog 84 := fun a w => Tryz.call84 a w
@[simp] theorem Tryz.ok85 : callOK Tryz.prog 85 := fun a w => Tryz.call85 a w
@[simp] theorem Tryz.ok86 : callOK Tryz.prog 86 := fun a w => Tryz.call86 a w
@[simp] theorem Tryz.ok87 : callOK Tryz.prog 87 := fun a w => Tryz.call87 a w
@[simp] theorem Tryz.ok88 : callOK Tryz.prog 88 := fun a w => Tryz.call88 a w
@[simp] theorem Tryz.ok89 : callOK Tryz.prog 89 := fun a w => Tryz.call89 a w
@[simp] theorem Tryz.ok90 : callOK Tryz.prog 90 := fun a w => Tryz.call90 a w
@[simp] theorem Tryz.ok91 : callOK Tryz.prog 91 := fun a w => Tryz.call91 a w
@[simp] theorem Tryz.ok92 : callOK Tryz.prog 92 := fun a w => Tryz.call92 a w
@[simp] theorem Tryz.ok93 : callOK Tryz.prog 93 := fun a w => Tryz.call93 a w
@[simp] theorem Tryz.ok94 : callOK Tryz.prog 94 := fun a w => Tryz.call94 a w
@[simp] theorem Tryz.ok95 : callOK Tryz.prog 95 := fun a w => Tryz.call95 a w
@[simp] theorem Tryz.ok96 : callOK Tryz.prog 96 := fun a w => Tryz.call96 a w
@[simp] theorem Tryz.ok97 : callOK Tryz.prog 97 := fun a w => Tryz.call97 a w
@[simp] theorem Tryz.ok98 : callOK Tryz.prog 98 := fun a w => Tryz.call98 a w
@[simp] theorem Tryz.ok99 : callOK Tryz.prog 99 := fun a w => Tryz.call99 a w
@[simp] theorem Tryz.ok100 : callOK Tryz.prog 100 := fun a w => Tryz.call100 a w
@[simp] theorem Tryz.ok101 : callOK Tryz.prog 101 := fun a w => Tryz.call101 a w
@[simp] theorem Tryz.ok102 : callOK Tryz.prog 102 := fun a w => Tryz.call102 a w
@[simp] theorem Tryz.ok103 : callOK Tryz.prog 103 := fun a w => Tryz.call103 a w
@[simp] theorem Tryz.ok104 : callOK Tryz.prog 104 := fun a w => Tryz.call104 a w
@[simp] theorem Tryz.ok105 : callOK Tryz.prog 105 := fun a w => Tryz.call105 a w
@[simp] theorem Tryz.ok106 : callOK Tryz.prog 106 := fun a w => Tryz.call106 a w
@[simp] theorem Tryz.ok107 : callOK Tryz.prog 107 := fun a w => Tryz.call107 a w
@[simp] theorem Tryz.ok108 : callOK Tryz.prog 108 := fun a w => Tryz.call108 a w
@[simp] theorem Tryz.ok109 : callOK Tryz.prog 109 := fun a w => Tryz.call109 a w
@[simp] theorem Tryz.ok110 : callOK Tryz.prog 110 := fun a w => Tryz.call110 a w
@[simp] theorem Tryz.ok111 : callOK Tryz.prog 111 := fun a w => Tryz.call111 a w
@[simp] theorem Tryz.ok112 : callOK Tryz.prog 112 := fun a w => Tryz.call112 a w
@[simp] theorem Tryz.ok113 : callOK Tryz.prog 113 := fun a w => Tryz.call113 a w
@[simp] theorem Tryz.ok114 : callOK Tryz.prog 114 := fun a w => Tryz.call114 a w
@[simp] theorem Tryz.ok115 : callOK Tryz.prog 115 := fun a w => Tryz.call115 a w
@[simp] theorem Tryz.ok116 : callOK Tryz.prog 116 := fun a w => Tryz.call116 a w
@[simp] theorem Tryz.ok117 : callOK Tryz.prog 117 := fun a w => Tryz.call117 a w
@[simp] theorem Tryz.ok118 : callOK Tryz.prog 118 := fun a w => Tryz.call118 a w
@[simp] theorem Tryz.ok119 : callOK Tryz.prog 119 := fun a w => Tryz.call119 a w
@[simp] theorem Tryz.ok120 : callOK Tryz.prog 120 := fun a w => Tryz.call120 a w
@[simp] theorem Tryz.ok121 : callOK Tryz.prog 121 := fun a w => Tryz.call121 a w
@[simp] theorem Tryz.ok122 : callOK Tryz.prog 122 := fun a w => Tryz.call122 a w
@[simp] theorem Tryz.ok123 : callOK Tryz.prog 123 := fun a w => Tryz.call123 a w
@[simp] theorem Tryz.ok124 : callOK Tryz.prog 124 := fun a w => Tryz.call124 a w
@[simp] theorem Tryz.ok125 : callOK Tryz.prog 125 := fun a w => Tryz.call125 a w
@[simp] theorem Tryz.ok126 : callOK Tryz.prog 126 := fun a w => Tryz.call126 a w
@[simp] theorem Tryz.ok127 : callOK Tryz.prog 127 := fun a w => Tryz.call127 a w
@[simp] theorem Tryz.ok128 : callOK Tryz.prog 128 := fun a w => Tryz.call128 a w
@[simp] theorem Tryz.ok129 : callOK Tryz.prog 129 := fun a w => Tryz.call129 a w
@[simp] theorem Tryz.ok130 : callOK Tryz.prog 130 := fun a w => Tryz.call130 a w
@[simp] theorem Tryz.ok131 : callOK Tryz.prog 131 := fun a w => Tryz.call131 a w
@[simp] theorem Tryz.ok132 : callOK Tryz.prog 132 := fun a w => Tryz.call132 a w
@[simp] theorem Tryz.ok133 : callOK Tryz.prog 133 := fun a w => Tryz.call133 a w
@[simp] theorem Tryz.ok134 : callOK Tryz.prog 134 := fun a w => Tryz.call134 a w
@[simp] theorem Tryz.ok135 : callOK Tryz.prog 135 := fun a w => Tryz.call135 a w
@[simp] theorem Tryz.ok136 : callOK Tryz.prog 136 := fun a w => Tryz.call136 a w
@[simp] theorem Tryz.ok137 : callOK Tryz.prog 137 := fun a w => Tryz.call137 a w
@[simp] theorem Tryz.ok138 : callOK Tryz.prog 138 := fun a w => Tryz.call138 a w
@[simp] theorem Tryz.ok139 : callOK Tryz.prog 139 := fun a w => Tryz.call139 a w
@[simp] theorem Tryz.ok140 : callOK Tryz.prog 140 := fun a w => Tryz.call140 a w
@[simp] theorem Tryz.ok141 : callOK Tryz.prog 141 := fun a w => Tryz.call141 a w
@[simp] theorem Tryz.ok142 : callOK Tryz.prog 142 := fun a w => Tryz.call142 a w
@[simp] theorem Tryz.ok143 : callOK Tryz.prog 143 := fun a w => Tryz.call143 a w
@[simp] theorem Tryz.ok144 : callOK Tryz.prog 144 := fun a w => Tryz.call144 a w
@[simp] theorem Tryz.ok145 : callOK Tryz.prog 145 := fun a w => Tryz.call145 a w
@[simp] theorem Tryz.ok146 : callOK Tryz.prog 146 := fun a w => Tryz.call146 a w
@[simp] theorem Tryz.ok147 : callOK Tryz.prog 147 := fun a w => Tryz.call147 a w
@[simp] theorem Tryz.ok148 : callOK Tryz.prog 148 := fun a w => Tryz.call148 a w
@[simp] theorem Tryz.ok149 : callOK Tryz.prog 149 := fun a w => Tryz.call149 a w
@[simp] theorem Tryz.ok150 : callOK Tryz.prog 150 := fun a w => Tryz.call150 a w
@[simp] theorem Tryz.ok151 : callOK Tryz.prog 151 := fun a w => Tryz.call151 a w
@[simp] theorem Tryz.ok152 : callOK Tryz.prog 152 := fun a w => Tryz.call152 a w
@[simp] theorem Tryz.ok153 : callOK Tryz.prog 153 := fun a w => Tryz.call153 a w
@[simp] theorem Tryz.ok154 : callOK Tryz.prog 154 := fun a w => Tryz.call154 a w
@[simp] theorem Tryz.ok155 : callOK Tryz.prog 155 := fun a w => Tryz.call155 a w
@[simp] theorem Tryz.ok156 : callOK Tryz.prog 156 := fun a w => Tryz.call156 a w
@[simp] theorem Tryz.ok157 : callOK Tryz.prog 157 := fun a w => Tryz.call157 a w
@[simp] theorem Tryz.ok158 : callOK Tryz.prog 158 := fun a w => Tryz.call158 a w
@[simp] theorem Tryz.ok159 : callOK Tryz.prog 159 := fun a w => Tryz.call159 a w
@[simp] theorem Tryz.ok160 : callOK Tryz.prog 160 := fun a w => Tryz.call160 a w
@[simp] theorem Tryz.ok161 : callOK Tryz.prog 161 := fun a w => Tryz.call161 a w
@[simp] theorem Tryz.ok162 : callOK Tryz.prog 162 := fun a w => Tryz.call162 a w
@[simp] theorem Tryz.ok163 : callOK Tryz.prog 163 := fun a w => Tryz.call163 a w
@[simp] theorem Tryz.ok164 : callOK Tryz.prog 164 := fun a w => Tryz.call164 a w
@[simp] theorem Tryz.ok165 : callOK Tryz.prog 165 := fun a w => Tryz.call165 a w
@[simp] theorem Tryz.ok166 : callOK Tryz.prog 166 := fun a w => Tryz.call166 a w
@[simp] theorem Tryz.ok167 : callOK Tryz.prog 167 := fun a w => Tryz.call167 a w
@[simp] theorem Tryz.ok168 : callOK Tryz.prog 168 := fun a w => Tryz.call168 a w
@[simp] theorem Tryz.ok169 : callOK Tryz.prog 169 := fun a w => Tryz.call169 a w
@[simp] theorem Tryz.ok170 : callOK Tryz.prog 170 := fun a w => Tryz.call170 a w
@[simp] theorem Tryz.ok171 : callOK Tryz.prog 171 := fun a w => Tryz.call171 a w
@[simp] theorem Tryz.ok172 : callOK Tryz.prog 172 := fun a w => Tryz.call172 a w
@[simp] theorem Tryz.ok173 : callOK Tryz.prog 173 := fun a w => Tryz.call173 a w
@[simp] theorem Tryz.ok174 : callOK Tryz.prog 174 := fun a w => Tryz.call174 a w
@[simp] theorem Tryz.ok175 : callOK Tryz.prog 175 := fun a w => Tryz.call175 a w
@[simp] theorem Tryz.ok176 : callOK Tryz.prog 176 := fun a w => Tryz.call176 a w
@[simp] theorem Tryz.ok177 : callOK Tryz.prog 177 := fun a w => Tryz.call177 a w
@[simp] theorem Tryz.ok178 : callOK Tryz.prog 178 := fun a w => Tryz.call178 a w
@[simp] theorem Tryz.ok179 : callOK Tryz.prog 179 := fun a w => Tryz.call179 a w
@[simp] theorem Tryz.ok180 : callOK Tryz.prog 180 := fun a w => Tryz.call180 a w
@[simp] theorem Tryz.ok181 : callOK Tryz.prog 181 := fun a w => Tryz.call181 a w
@[simp] theorem Tryz.ok182 : callOK Tryz.prog 182 := fun a w => Tryz.call182 a w
@[simp] theorem Tryz.ok183 : callOK Tryz.prog 183 := fun a w => Tryz.call183 a w
@[simp] theorem Tryz.ok184 : callOK Tryz.prog 184 := fun a w => Tryz.call184 a w
@[simp] theorem Tryz.ok185 : callOK Tryz.prog 185 := fun a w => Tryz.call185 a w
@[simp] theorem Tryz.ok186 : callOK Tryz.prog 186 := fun a w => Tryz.call186 a w
@[simp] theorem Tryz.ok187 : callOK Tryz.prog 187 := fun a w => Tryz.call187 a w
@[simp] theorem Tryz.ok188 : callOK Tryz.prog 188 := fun a w => Tryz.call188 a w
@[simp] theorem Tryz.ok189 : callOK Tryz.prog 189 := fun a w => Tryz.call189 a w
@[simp] theorem Tryz.ok190 : callOK Tryz.prog 190 := fun a w => Tryz.call190 a w
@[simp] theorem Tryz.ok191 : callOK Tryz.prog 191 := fun a w => Tryz.call191 a w
@[simp] theorem Tryz.ok192 : callOK Tryz.prog 192 := fun a w => Tryz.call192 a w
@[simp] theorem Tryz.ok193 : callOK Tryz.prog 193 := fun a w => Tryz.call193 a w
@[simp] theorem Tryz.ok194 : callOK Tryz.prog 194 := fun a w => Tryz.call194 a w
@[simp] theorem Tryz.ok195 : callOK Tryz.prog 195 := fun a w => Tryz.call195 a w
@[simp] theorem Tryz.ok196 : callOK Tryz.prog 196 := fun a w => Tryz.call196 a w
@[simp] theorem Tryz.ok197 : callOK Tryz.prog 197 := fun a w => Tryz.call197 a w
@[simp] theorem Tryz.ok198 : callOK Tryz.prog 198 := fun a w => Tryz.call198 a w
@[simp] theorem Tryz.ok199 : callOK Tryz.prog 199 := fun a w => Tryz.call199 a w
@[simp] theorem Tryz.ok201 : callOK Tryz.prog 201 := fun a w => Tryz.call201 a w
@[simp] theorem Tryz.ok205 : callOK Tryz.prog 205 := fun a w => Tryz.call205 a w
@[simp] theorem Tryz.ok206 : callOK Tryz.prog 206 := fun a w => Tryz.call206 a w
@[simp] theorem Tryz.ok207 : callOK Tryz.prog 207 := fun a w => Tryz.call207 a w
@[simp] theorem Tryz.ok208 : callOK Tryz.prog 208 := fun a w => Tryz.call208 a w
@[simp] theorem Tryz.ok209 : callOK Tryz.prog 209 := fun a w => Tryz.call209 a w
@[simp] theorem Tryz.ok210 : callOK Tryz.prog 210 := fun a w => Tryz.call210 a w
@[simp] theorem Tryz.ok211 : callOK Tryz.prog 211 := fun a w => Tryz.call211 a w
@[simp] theorem Tryz.ok212 : callOK Tryz.prog 212 := fun a w => Tryz.call212 a w
@[simp] theorem Tryz.ok213 : callOK Tryz.prog 213 := fun a w => Tryz.call213 a w
@[simp] theorem Tryz.ok214 : callOK Tryz.prog 214 := fun a w => Tryz.call214 a w
@[simp] theorem Tryz.ok215 : callOK Tryz.prog 215 := fun a w => Tryz.call215 a w
@[simp] theorem Tryz.ok216 : callOK Tryz.prog 216 := fun a w => Tryz.call216 a w
@[simp] theorem Tryz.ok217 : callOK Tryz.prog 217 := fun a w => Tryz.call217 a w
@[simp] theorem Tryz.ok218 : callOK Tryz.prog 218 := fun a w => Tryz.call218 a w
@[simp] theorem Tryz.ok219 : callOK Tryz.prog 219 := fun a w => Tryz.call219 a w
@[simp] theorem Tryz.ok220 : callOK Tryz.prog 220 := fun a w => Tryz.call220 a w
@[simp] theorem Tryz.ok221 : callOK Tryz.prog 221 := fun a w => Tryz.call221 a w
@[simp] theorem Tryz.ok222 : callOK Tryz.prog 222 := fun a w => Tryz.call222 a w
@[simp] theorem Tryz.ok223 : callOK Tryz.prog 223 := fun a w => Tryz.call223 a w
@[simp] theorem Tryz.ok224 : callOK Tryz.prog 224 := fun a w => Tryz.call224 a w
@[simp] theorem Tryz.ok225 : callOK Tryz.prog 225 := fun a w => Tryz.call225 a w
@[simp] theorem Tryz.ok226 : callOK Tryz.prog 226 := fun a w => Tryz.call226 a w
@[simp] theorem Tryz.ok227 : callOK Tryz.prog 227 := fun a w => Tryz.call227 a w
@[simp] theorem Tryz.ok228 : callOK Tryz.prog 228 := fun a w => Tryz.call228 a w
@[simp] theorem Tryz.ok229 : callOK Tryz.prog 229 := fun a w => Tryz.call229 a w
@[simp] theorem Tryz.ok230 : callOK Tryz.prog 230 := fun a w => Tryz.call230 a w
@[simp] theorem Tryz.ok231 : callOK Tryz.prog 231 := fun a w => Tryz.call231 a w
@[simp] theorem Tryz.ok232 : callOK Tryz.prog 232 := fun a w => Tryz.call232 a w
@[simp] theorem Tryz.ok233 : callOK Tryz.prog 233 := fun a w => Tryz.call233 a w
@[simp] theorem Tryz.ok234 : callOK Tryz.prog 234 := fun a w => Tryz.call234 a w
@[simp] theorem Tryz.ok235 : callOK Tryz.prog 235 := fun a w => Tryz.call235 a w
@[simp] theorem Tryz.ok238 : callOK Tryz.prog 238 := fun a w => Tryz.call238 a w
@[simp] theorem Tryz.ok239 : callOK Tryz.prog 239 := fun a w => Tryz.call239 a w
@[simp] theorem Tryz.ok240 : callOK Tryz.prog 240 := fun a w => Tryz.call240 a w
@[simp] theorem Tryz.ok241 : callOK Tryz.prog 241 := fun a w => Tryz.call241 a w
@[simp] theorem Tryz.ok242 : callOK Tryz.prog 242 := fun a w => Tryz.call242 a w
@[simp] theorem Tryz.ok243 : callOK Tryz.prog 243 := fun a w => Tryz.call243 a w
@[simp] theorem Tryz.ok244 : callOK Tryz.prog 244 := fun a w => Tryz.call244 a w
@[simp] theorem Tryz.ok245 : callOK Tryz.prog 245 := fun a w => Tryz.call245 a w
@[simp] theorem Tryz.ok246 : callOK Tryz.prog 246 := fun a w => Tryz.call246 a w
@[simp] theorem Tryz.ok247 : callOK Tryz.prog 247 := fun a w => Tryz.call247 a w
@[simp] theorem Tryz.ok248 : callOK Tryz.prog 248 := fun a w => Tryz.call248 a w
@[simp] theorem Tryz.ok267 : callOK Tryz.prog 267 := fun a w => Tryz.call267 a w
@[simp] theorem Tryz.ok284 : callOK Tryz.prog 284 := fun a w => Tryz.call284 a w
@[simp] theorem Tryz.ok298 : callOK Tryz.prog 298 := fun a w => Tryz.call298 a w
end Go.Proofs

