/-
  The layout of the types of this seat's program, written by a program of mine.
-/
import Derived.Test.YtgghmjnbkbiffaaZqad
import Derived.Test.YtgghmjnbkbiffaaProg
namespace Go.Proofs.Ytgghmjnbkbiffaa.M
open Go.RowKit

@[simp] theorem aggB_3 : aggB Try.prog 3 = some false := by kernel_rfl
@[simp] theorem szOf_3 : szOf Try.prog 3 = some 1 := by kernel_rfl
@[simp] theorem byOf_3 : byOf Try.prog 3 = some 8 := by kernel_rfl
@[simp] theorem zeroOf_3 : zeroOf Try.prog 3 = some [.int .i64 0] := by kernel_rfl
@[simp] theorem zero1_3 : zero1 Try.prog 3 = some (.int .i64 0) := by kernel_rfl
@[simp] theorem strB_3 : strB Try.prog 3 = false := by kernel_rfl
@[simp] theorem boolB_3 : boolB Try.prog 3 = false := by kernel_rfl
@[simp] theorem intB_3 : intB Try.prog 3 = some .i64 := by kernel_rfl
@[simp] theorem aggB_4 : aggB Try.prog 4 = some false := by kernel_rfl
@[simp] theorem szOf_4 : szOf Try.prog 4 = some 1 := by kernel_rfl
@[simp] theorem byOf_4 : byOf Try.prog 4 = some 1 := by kernel_rfl
@[simp] theorem zeroOf_4 : zeroOf Try.prog 4 = some [.bool false] := by kernel_rfl
@[simp] theorem szOf_5 : szOf Try.prog 5 = some 1 := by kernel_rfl
@[simp] theorem zeroOf_5 : zeroOf Try.prog 5 = some [.int .u8 0] := by kernel_rfl
@[simp] theorem intB_5 : intB Try.prog 5 = some .u8 := by kernel_rfl
@[simp] theorem fldOf_7_0 : fldOf Try.prog 7 0 = some (0, 1, false) := by kernel_rfl
@[simp] theorem fldOf_7_1 : fldOf Try.prog 7 1 = some (1, 1, false) := by kernel_rfl
@[simp] theorem fldOf_7_2 : fldOf Try.prog 7 2 = some (2, 1, false) := by kernel_rfl
@[simp] theorem fldOf_7_3 : fldOf Try.prog 7 3 = some (3, 1, false) := by kernel_rfl
@[simp] theorem plOf_7 : plOf Try.prog 7 = some (fun i => [(0, 1), (1, 1), (2, 1), (3, 1)][i]?) := by kernel_rfl
@[simp] theorem aggB_9 : aggB Try.prog 9 = some false := by kernel_rfl
@[simp] theorem szOf_9 : szOf Try.prog 9 = some 1 := by kernel_rfl
@[simp] theorem byOf_9 : byOf Try.prog 9 = some 16 := by kernel_rfl
@[simp] theorem zeroOf_9 : zeroOf Try.prog 9 = some [.str ⟨#[]⟩] := by kernel_rfl
@[simp] theorem strB_9 : strB Try.prog 9 = true := by kernel_rfl
@[simp] theorem fldOf_13_0 : fldOf Try.prog 13 0 = some (0, 1, false) := by kernel_rfl
@[simp] theorem fldOf_13_1 : fldOf Try.prog 13 1 = some (1, 1, false) := by kernel_rfl
@[simp] theorem plOf_13 : plOf Try.prog 13 = some (fun i => [(0, 1), (1, 1)][i]?) := by kernel_rfl
@[simp] theorem fldOf_18_0 : fldOf Try.prog 18 0 = some (0, 1, false) := by kernel_rfl
@[simp] theorem plOf_18 : plOf Try.prog 18 = some (fun i => [(0, 1)][i]?) := by kernel_rfl
@[simp] theorem aggB_22 : aggB Try.prog 22 = some false := by kernel_rfl
@[simp] theorem szOf_22 : szOf Try.prog 22 = some 1 := by kernel_rfl
@[simp] theorem elOf_22 : elOf Try.prog 22 = some 31 := by kernel_rfl
@[simp] theorem aggB_31 : aggB Try.prog 31 = some false := by kernel_rfl
@[simp] theorem szOf_31 : szOf Try.prog 31 = some 1 := by kernel_rfl
@[simp] theorem byOf_31 : byOf Try.prog 31 = some 24 := by kernel_rfl
@[simp] theorem zeroOf_31 : zeroOf Try.prog 31 = some [.sl 0 []] := by kernel_rfl
@[simp] theorem elOf_31 : elOf Try.prog 31 = some 3 := by kernel_rfl
@[simp] theorem strB_31 : strB Try.prog 31 = false := by kernel_rfl
@[simp] theorem mpTy_59 : mpTy Try.prog 59 = some (3, 3) := by kernel_rfl
@[simp] theorem elOf_59 : elOf Try.prog 59 = none := by kernel_rfl
@[simp] theorem aggB_60 : aggB Try.prog 60 = some false := by kernel_rfl
@[simp] theorem szOf_60 : szOf Try.prog 60 = some 1 := by kernel_rfl
@[simp] theorem elOf_60 : elOf Try.prog 60 = some 4 := by kernel_rfl
@[simp] theorem fldOf_79_0 : fldOf Try.prog 79 0 = some (0, 1, false) := by kernel_rfl
@[simp] theorem fldOf_79_1 : fldOf Try.prog 79 1 = some (1, 1, false) := by kernel_rfl
@[simp] theorem plOf_79 : plOf Try.prog 79 = some (fun i => [(0, 1), (1, 1)][i]?) := by kernel_rfl
@[simp] theorem zeroOf_80 : zeroOf Try.prog 80 = some [.sl 0 [], .int .i64 0] := by kernel_rfl
@[simp] theorem fldOf_80_0 : fldOf Try.prog 80 0 = some (0, 1, false) := by kernel_rfl
@[simp] theorem fldOf_80_1 : fldOf Try.prog 80 1 = some (1, 1, false) := by kernel_rfl
@[simp] theorem plOf_80 : plOf Try.prog 80 = some (fun i => [(0, 1), (1, 1)][i]?) := by kernel_rfl
@[simp] theorem aggB_81 : aggB Try.prog 81 = some false := by kernel_rfl
@[simp] theorem szOf_81 : szOf Try.prog 81 = some 1 := by kernel_rfl
@[simp] theorem elOf_81 : elOf Try.prog 81 = some 9 := by kernel_rfl
@[simp] theorem fldOf_82_0 : fldOf Try.prog 82 0 = some (0, 1, false) := by kernel_rfl
@[simp] theorem fldOf_82_1 : fldOf Try.prog 82 1 = some (1, 1, false) := by kernel_rfl
@[simp] theorem fldOf_82_2 : fldOf Try.prog 82 2 = some (2, 1, false) := by kernel_rfl
@[simp] theorem fldOf_82_3 : fldOf Try.prog 82 3 = some (3, 1, false) := by kernel_rfl
@[simp] theorem fldOf_82_4 : fldOf Try.prog 82 4 = some (4, 1, false) := by kernel_rfl
@[simp] theorem fldOf_82_5 : fldOf Try.prog 82 5 = some (5, 1, false) := by kernel_rfl
@[simp] theorem plOf_82 : plOf Try.prog 82 = some (fun i => [(0, 1), (1, 1), (2, 1), (3, 1), (4, 1), (5, 1)][i]?) := by kernel_rfl
@[simp] theorem aggB_83 : aggB Try.prog 83 = some true := by kernel_rfl
@[simp] theorem szOf_83 : szOf Try.prog 83 = some 6 := by kernel_rfl
@[simp] theorem zeroOf_83 : zeroOf Try.prog 83 = some [.int .i64 0, .sl 0 [], .sl 0 [], .sl 0 [], .sl 0 [], .sl 0 []] := by kernel_rfl
@[simp] theorem fldOf_83_0 : fldOf Try.prog 83 0 = some (0, 1, false) := by kernel_rfl
@[simp] theorem fldOf_83_1 : fldOf Try.prog 83 1 = some (1, 1, false) := by kernel_rfl
@[simp] theorem fldOf_83_2 : fldOf Try.prog 83 2 = some (2, 1, false) := by kernel_rfl
@[simp] theorem fldOf_83_3 : fldOf Try.prog 83 3 = some (3, 1, false) := by kernel_rfl
@[simp] theorem fldOf_83_4 : fldOf Try.prog 83 4 = some (4, 1, false) := by kernel_rfl
@[simp] theorem fldOf_83_5 : fldOf Try.prog 83 5 = some (5, 1, false) := by kernel_rfl
@[simp] theorem plOf_83 : plOf Try.prog 83 = some (fun i => [(0, 1), (1, 1), (2, 1), (3, 1), (4, 1), (5, 1)][i]?) := by kernel_rfl
@[simp] theorem fldOf_86_0 : fldOf Try.prog 86 0 = some (0, 1, false) := by kernel_rfl
@[simp] theorem fldOf_86_1 : fldOf Try.prog 86 1 = some (1, 1, false) := by kernel_rfl
@[simp] theorem fldOf_86_2 : fldOf Try.prog 86 2 = some (2, 1, false) := by kernel_rfl
@[simp] theorem fldOf_86_3 : fldOf Try.prog 86 3 = some (3, 1, false) := by kernel_rfl
@[simp] theorem plOf_86 : plOf Try.prog 86 = some (fun i => [(0, 1), (1, 1), (2, 1), (3, 1)][i]?) := by kernel_rfl
@[simp] theorem aggB_87 : aggB Try.prog 87 = some true := by kernel_rfl
@[simp] theorem szOf_87 : szOf Try.prog 87 = some 4 := by kernel_rfl
@[simp] theorem zeroOf_87 : zeroOf Try.prog 87 = some [.int .i64 0, .int .i64 0, .sl 0 [], .sl 0 []] := by kernel_rfl
@[simp] theorem fldOf_87_0 : fldOf Try.prog 87 0 = some (0, 1, false) := by kernel_rfl
@[simp] theorem fldOf_87_1 : fldOf Try.prog 87 1 = some (1, 1, false) := by kernel_rfl
@[simp] theorem fldOf_87_2 : fldOf Try.prog 87 2 = some (2, 1, false) := by kernel_rfl
@[simp] theorem fldOf_87_3 : fldOf Try.prog 87 3 = some (3, 1, false) := by kernel_rfl
@[simp] theorem plOf_87 : plOf Try.prog 87 = some (fun i => [(0, 1), (1, 1), (2, 1), (3, 1)][i]?) := by kernel_rfl
@[simp] theorem aggB_92 : aggB Try.prog 92 = some false := by kernel_rfl
@[simp] theorem szOf_92 : szOf Try.prog 92 = some 1 := by kernel_rfl
@[simp] theorem elOf_92 : elOf Try.prog 92 = some 97 := by kernel_rfl
@[simp] theorem fldOf_93_0 : fldOf Try.prog 93 0 = some (0, 1, false) := by kernel_rfl
@[simp] theorem fldOf_93_1 : fldOf Try.prog 93 1 = some (1, 1, false) := by kernel_rfl
@[simp] theorem fldOf_93_2 : fldOf Try.prog 93 2 = some (2, 1, false) := by kernel_rfl
@[simp] theorem fldOf_93_3 : fldOf Try.prog 93 3 = some (3, 1, false) := by kernel_rfl
@[simp] theorem fldOf_93_4 : fldOf Try.prog 93 4 = some (4, 1, false) := by kernel_rfl
@[simp] theorem plOf_93 : plOf Try.prog 93 = some (fun i => [(0, 1), (1, 1), (2, 1), (3, 1), (4, 1)][i]?) := by kernel_rfl
@[simp] theorem zeroOf_94 : zeroOf Try.prog 94 = some [.sl 0 [], .sl 0 [], .sl 0 [], .sl 0 [], .sl 0 []] := by kernel_rfl
@[simp] theorem fldOf_94_0 : fldOf Try.prog 94 0 = some (0, 1, false) := by kernel_rfl
@[simp] theorem fldOf_94_1 : fldOf Try.prog 94 1 = some (1, 1, false) := by kernel_rfl
@[simp] theorem fldOf_94_2 : fldOf Try.prog 94 2 = some (2, 1, false) := by kernel_rfl
@[simp] theorem fldOf_94_3 : fldOf Try.prog 94 3 = some (3, 1, false) := by kernel_rfl
@[simp] theorem fldOf_94_4 : fldOf Try.prog 94 4 = some (4, 1, false) := by kernel_rfl
@[simp] theorem plOf_94 : plOf Try.prog 94 = some (fun i => [(0, 1), (1, 1), (2, 1), (3, 1), (4, 1)][i]?) := by kernel_rfl
@[simp] theorem aggB_97 : aggB Try.prog 97 = some true := by kernel_rfl
@[simp] theorem szOf_97 : szOf Try.prog 97 = some 2 := by kernel_rfl
@[simp] theorem byOf_97 : byOf Try.prog 97 = some 16 := by kernel_rfl
@[simp] theorem zeroOf_97 : zeroOf Try.prog 97 = some [.int .i64 0, .int .i64 0] := by kernel_rfl
@[simp] theorem elOf_97 : elOf Try.prog 97 = none := by kernel_rfl
@[simp] theorem arOf_97 : arOf Try.prog 97 = some (2, 3) := by kernel_rfl
@[simp] theorem plOf_97 : plOf Try.prog 97 = some (fun i => some (i * 1, 1)) := by kernel_rfl
@[simp] theorem fldOf_103_0 : fldOf Try.prog 103 0 = some (0, 1, false) := by kernel_rfl
@[simp] theorem fldOf_103_1 : fldOf Try.prog 103 1 = some (1, 1, false) := by kernel_rfl
@[simp] theorem fldOf_103_2 : fldOf Try.prog 103 2 = some (2, 1, false) := by kernel_rfl
@[simp] theorem fldOf_103_3 : fldOf Try.prog 103 3 = some (3, 1, false) := by kernel_rfl
@[simp] theorem plOf_103 : plOf Try.prog 103 = some (fun i => [(0, 1), (1, 1), (2, 1), (3, 1)][i]?) := by kernel_rfl
@[simp] theorem fldOf_104_0 : fldOf Try.prog 104 0 = some (0, 1, false) := by kernel_rfl
@[simp] theorem fldOf_104_1 : fldOf Try.prog 104 1 = some (1, 1, false) := by kernel_rfl
@[simp] theorem fldOf_104_2 : fldOf Try.prog 104 2 = some (2, 1, false) := by kernel_rfl
@[simp] theorem fldOf_104_3 : fldOf Try.prog 104 3 = some (3, 1, false) := by kernel_rfl
@[simp] theorem plOf_104 : plOf Try.prog 104 = some (fun i => [(0, 1), (1, 1), (2, 1), (3, 1)][i]?) := by kernel_rfl
@[simp] theorem fldOf_109_0 : fldOf Try.prog 109 0 = some (0, 1, false) := by kernel_rfl
@[simp] theorem fldOf_109_1 : fldOf Try.prog 109 1 = some (1, 1, false) := by kernel_rfl
@[simp] theorem fldOf_109_2 : fldOf Try.prog 109 2 = some (2, 1, false) := by kernel_rfl
@[simp] theorem fldOf_109_3 : fldOf Try.prog 109 3 = some (3, 1, false) := by kernel_rfl
@[simp] theorem fldOf_109_4 : fldOf Try.prog 109 4 = some (4, 1, false) := by kernel_rfl
@[simp] theorem plOf_109 : plOf Try.prog 109 = some (fun i => [(0, 1), (1, 1), (2, 1), (3, 1), (4, 1)][i]?) := by kernel_rfl
@[simp] theorem fldOf_110_0 : fldOf Try.prog 110 0 = some (0, 1, false) := by kernel_rfl
@[simp] theorem fldOf_110_1 : fldOf Try.prog 110 1 = some (1, 1, false) := by kernel_rfl
@[simp] theorem fldOf_110_2 : fldOf Try.prog 110 2 = some (2, 1, false) := by kernel_rfl
@[simp] theorem fldOf_110_3 : fldOf Try.prog 110 3 = some (3, 1, false) := by kernel_rfl
@[simp] theorem fldOf_110_4 : fldOf Try.prog 110 4 = some (4, 1, false) := by kernel_rfl
@[simp] theorem plOf_110 : plOf Try.prog 110 = some (fun i => [(0, 1), (1, 1), (2, 1), (3, 1), (4, 1)][i]?) := by kernel_rfl
@[simp] theorem plOf_111 : plOf Try.prog 111 = some (fun i => some (i * 1, 1)) := by kernel_rfl
@[simp] theorem plOf_112 : plOf Try.prog 112 = some (fun i => some (i * 1, 1)) := by kernel_rfl
@[simp] theorem aggB_126 : aggB Try.prog 126 = some false := by kernel_rfl
@[simp] theorem szOf_126 : szOf Try.prog 126 = some 1 := by kernel_rfl
@[simp] theorem elOf_126 : elOf Try.prog 126 = some 143 := by kernel_rfl
@[simp] theorem fldOf_127_0 : fldOf Try.prog 127 0 = some (0, 1, false) := by kernel_rfl
@[simp] theorem fldOf_127_1 : fldOf Try.prog 127 1 = some (1, 1, false) := by kernel_rfl
@[simp] theorem fldOf_127_2 : fldOf Try.prog 127 2 = some (2, 1, false) := by kernel_rfl
@[simp] theorem fldOf_127_3 : fldOf Try.prog 127 3 = some (3, 1, false) := by kernel_rfl
@[simp] theorem fldOf_127_4 : fldOf Try.prog 127 4 = some (4, 1, false) := by kernel_rfl
@[simp] theorem fldOf_127_5 : fldOf Try.prog 127 5 = some (5, 1, false) := by kernel_rfl
@[simp] theorem fldOf_127_6 : fldOf Try.prog 127 6 = some (6, 1, false) := by kernel_rfl
@[simp] theorem fldOf_127_7 : fldOf Try.prog 127 7 = some (7, 1, false) := by kernel_rfl
@[simp] theorem fldOf_127_8 : fldOf Try.prog 127 8 = some (8, 1, false) := by kernel_rfl
@[simp] theorem plOf_127 : plOf Try.prog 127 = some (fun i => [(0, 1), (1, 1), (2, 1), (3, 1), (4, 1), (5, 1), (6, 1), (7, 1), (8, 1)][i]?) := by kernel_rfl
@[simp] theorem aggB_128 : aggB Try.prog 128 = some true := by kernel_rfl
@[simp] theorem szOf_128 : szOf Try.prog 128 = some 9 := by kernel_rfl
@[simp] theorem zeroOf_128 : zeroOf Try.prog 128 = some [.int .i64 0, .bool false, .sl 0 [], .sl 0 [], .sl 0 [], .sl 0 [], .sl 0 [], .sl 0 [], .int .i64 0] := by kernel_rfl
@[simp] theorem fldOf_128_0 : fldOf Try.prog 128 0 = some (0, 1, false) := by kernel_rfl
@[simp] theorem fldOf_128_1 : fldOf Try.prog 128 1 = some (1, 1, false) := by kernel_rfl
@[simp] theorem fldOf_128_2 : fldOf Try.prog 128 2 = some (2, 1, false) := by kernel_rfl
@[simp] theorem fldOf_128_3 : fldOf Try.prog 128 3 = some (3, 1, false) := by kernel_rfl
@[simp] theorem fldOf_128_4 : fldOf Try.prog 128 4 = some (4, 1, false) := by kernel_rfl
@[simp] theorem fldOf_128_5 : fldOf Try.prog 128 5 = some (5, 1, false) := by kernel_rfl
@[simp] theorem fldOf_128_6 : fldOf Try.prog 128 6 = some (6, 1, false) := by kernel_rfl
@[simp] theorem fldOf_128_7 : fldOf Try.prog 128 7 = some (7, 1, false) := by kernel_rfl
@[simp] theorem fldOf_128_8 : fldOf Try.prog 128 8 = some (8, 1, false) := by kernel_rfl
@[simp] theorem plOf_128 : plOf Try.prog 128 = some (fun i => [(0, 1), (1, 1), (2, 1), (3, 1), (4, 1), (5, 1), (6, 1), (7, 1), (8, 1)][i]?) := by kernel_rfl
@[simp] theorem elOf_135 : elOf Try.prog 135 = some 5 := by kernel_rfl
@[simp] theorem plOf_136 : plOf Try.prog 136 = some (fun i => some (i * 2, 2)) := by kernel_rfl
@[simp] theorem fldOf_142_0 : fldOf Try.prog 142 0 = some (0, 1, false) := by kernel_rfl
@[simp] theorem fldOf_142_1 : fldOf Try.prog 142 1 = some (1, 1, false) := by kernel_rfl
@[simp] theorem plOf_142 : plOf Try.prog 142 = some (fun i => [(0, 1), (1, 1)][i]?) := by kernel_rfl
@[simp] theorem szOf_143 : szOf Try.prog 143 = some 2 := by kernel_rfl
@[simp] theorem byOf_143 : byOf Try.prog 143 = some 32 := by kernel_rfl
@[simp] theorem zeroOf_143 : zeroOf Try.prog 143 = some [.str ⟨#[]⟩, .str ⟨#[]⟩] := by kernel_rfl
@[simp] theorem fldOf_143_0 : fldOf Try.prog 143 0 = some (0, 1, false) := by kernel_rfl
@[simp] theorem fldOf_143_1 : fldOf Try.prog 143 1 = some (1, 1, false) := by kernel_rfl
@[simp] theorem plOf_143 : plOf Try.prog 143 = some (fun i => [(0, 1), (1, 1)][i]?) := by kernel_rfl
@[simp] theorem mpTy_144 : mpTy Try.prog 144 = some (9, 3) := by kernel_rfl
@[simp] theorem fldOf_146_0 : fldOf Try.prog 146 0 = some (0, 1, false) := by kernel_rfl
@[simp] theorem fldOf_146_1 : fldOf Try.prog 146 1 = some (1, 1, false) := by kernel_rfl
@[simp] theorem fldOf_146_2 : fldOf Try.prog 146 2 = some (2, 1, false) := by kernel_rfl
@[simp] theorem fldOf_146_3 : fldOf Try.prog 146 3 = some (3, 1, false) := by kernel_rfl
@[simp] theorem plOf_146 : plOf Try.prog 146 = some (fun i => [(0, 1), (1, 1), (2, 1), (3, 1)][i]?) := by kernel_rfl
@[simp] theorem plOf_148 : plOf Try.prog 148 = some (fun i => some (i * 1, 1)) := by kernel_rfl
@[simp] theorem fldOf_149_0 : fldOf Try.prog 149 0 = some (0, 0, true) := by kernel_rfl
@[simp] theorem plOf_149 : plOf Try.prog 149 = some (fun i => [(0, 0)][i]?) := by kernel_rfl
@[simp] theorem fldOf_159_0 : fldOf Try.prog 159 0 = some (0, 1, false) := by kernel_rfl
@[simp] theorem fldOf_159_1 : fldOf Try.prog 159 1 = some (1, 1, false) := by kernel_rfl
@[simp] theorem fldOf_159_2 : fldOf Try.prog 159 2 = some (2, 1, false) := by kernel_rfl
@[simp] theorem fldOf_159_3 : fldOf Try.prog 159 3 = some (3, 1, false) := by kernel_rfl
@[simp] theorem fldOf_159_4 : fldOf Try.prog 159 4 = some (4, 1, false) := by kernel_rfl
@[simp] theorem fldOf_159_5 : fldOf Try.prog 159 5 = some (5, 1, false) := by kernel_rfl
@[simp] theorem fldOf_159_6 : fldOf Try.prog 159 6 = some (6, 1, false) := by kernel_rfl
@[simp] theorem fldOf_159_7 : fldOf Try.prog 159 7 = some (7, 1, false) := by kernel_rfl
@[simp] theorem fldOf_159_8 : fldOf Try.prog 159 8 = some (8, 1, false) := by kernel_rfl
@[simp] theorem fldOf_159_9 : fldOf Try.prog 159 9 = some (9, 1, false) := by kernel_rfl
@[simp] theorem fldOf_159_10 : fldOf Try.prog 159 10 = some (10, 1, false) := by kernel_rfl
@[simp] theorem plOf_159 : plOf Try.prog 159 = some (fun i => [(0, 1), (1, 1), (2, 1), (3, 1), (4, 1), (5, 1), (6, 1), (7, 1), (8, 1), (9, 1), (10, 1)][i]?) := by kernel_rfl
end Go.Proofs.Ytgghmjnbkbiffaa.M
