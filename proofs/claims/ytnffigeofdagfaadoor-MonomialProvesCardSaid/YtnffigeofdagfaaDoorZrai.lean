/-
  The layout of the types of this seat's program, written by a program of mine.
-/
import Derived.Test.YtnffigeofdagfaaDoorZrah
import Derived.Test.YtnffigeofdagfaaDoorProg
namespace Go.Proofs.YtnffigeofdagfaaDoor.M
open Go.RowKit

@[simp] theorem aggB_3 : aggB Tryd.prog 3 = some false := by kernel_rfl
@[simp] theorem szOf_3 : szOf Tryd.prog 3 = some 1 := by kernel_rfl
@[simp] theorem byOf_3 : byOf Tryd.prog 3 = some 8 := by kernel_rfl
@[simp] theorem zeroOf_3 : zeroOf Tryd.prog 3 = some [.int .i64 0] := by kernel_rfl
@[simp] theorem elOf_3 : elOf Tryd.prog 3 = none := by kernel_rfl
@[simp] theorem boolB_3 : boolB Tryd.prog 3 = false := by kernel_rfl
@[simp] theorem intB_3 : intB Tryd.prog 3 = some .i64 := by kernel_rfl
@[simp] theorem aggB_4 : aggB Tryd.prog 4 = some false := by kernel_rfl
@[simp] theorem szOf_4 : szOf Tryd.prog 4 = some 1 := by kernel_rfl
@[simp] theorem byOf_4 : byOf Tryd.prog 4 = some 1 := by kernel_rfl
@[simp] theorem zeroOf_4 : zeroOf Tryd.prog 4 = some [.bool false] := by kernel_rfl
@[simp] theorem boolB_4 : boolB Tryd.prog 4 = true := by kernel_rfl
@[simp] theorem aggB_5 : aggB Tryd.prog 5 = some false := by kernel_rfl
@[simp] theorem szOf_5 : szOf Tryd.prog 5 = some 1 := by kernel_rfl
@[simp] theorem byOf_5 : byOf Tryd.prog 5 = some 1 := by kernel_rfl
@[simp] theorem zeroOf_5 : zeroOf Tryd.prog 5 = some [.int .u8 0] := by kernel_rfl
@[simp] theorem intB_5 : intB Tryd.prog 5 = some .u8 := by kernel_rfl
@[simp] theorem fldOf_7_0 : fldOf Tryd.prog 7 0 = some (0, 1, false) := by kernel_rfl
@[simp] theorem fldOf_7_1 : fldOf Tryd.prog 7 1 = some (1, 1, false) := by kernel_rfl
@[simp] theorem fldOf_7_2 : fldOf Tryd.prog 7 2 = some (2, 1, false) := by kernel_rfl
@[simp] theorem fldOf_7_3 : fldOf Tryd.prog 7 3 = some (3, 1, false) := by kernel_rfl
@[simp] theorem plOf_7 : plOf Tryd.prog 7 = some (fun i => [(0, 1), (1, 1), (2, 1), (3, 1)][i]?) := by kernel_rfl
@[simp] theorem aggB_9 : aggB Tryd.prog 9 = some false := by kernel_rfl
@[simp] theorem szOf_9 : szOf Tryd.prog 9 = some 1 := by kernel_rfl
@[simp] theorem byOf_9 : byOf Tryd.prog 9 = some 16 := by kernel_rfl
@[simp] theorem zeroOf_9 : zeroOf Tryd.prog 9 = some [.str ⟨#[]⟩] := by kernel_rfl
@[simp] theorem strB_9 : strB Tryd.prog 9 = true := by kernel_rfl
@[simp] theorem fldOf_13_0 : fldOf Tryd.prog 13 0 = some (0, 1, false) := by kernel_rfl
@[simp] theorem fldOf_13_1 : fldOf Tryd.prog 13 1 = some (1, 1, false) := by kernel_rfl
@[simp] theorem plOf_13 : plOf Tryd.prog 13 = some (fun i => [(0, 1), (1, 1)][i]?) := by kernel_rfl
@[simp] theorem fldOf_18_0 : fldOf Tryd.prog 18 0 = some (0, 1, false) := by kernel_rfl
@[simp] theorem plOf_18 : plOf Tryd.prog 18 = some (fun i => [(0, 1)][i]?) := by kernel_rfl
@[simp] theorem aggB_22 : aggB Tryd.prog 22 = some false := by kernel_rfl
@[simp] theorem szOf_22 : szOf Tryd.prog 22 = some 1 := by kernel_rfl
@[simp] theorem byOf_22 : byOf Tryd.prog 22 = some 24 := by kernel_rfl
@[simp] theorem zeroOf_22 : zeroOf Tryd.prog 22 = some [.sl 0 []] := by kernel_rfl
@[simp] theorem elOf_22 : elOf Tryd.prog 22 = some 3 := by kernel_rfl
@[simp] theorem strB_22 : strB Tryd.prog 22 = false := by kernel_rfl
@[simp] theorem aggB_26 : aggB Tryd.prog 26 = some false := by kernel_rfl
@[simp] theorem szOf_26 : szOf Tryd.prog 26 = some 1 := by kernel_rfl
@[simp] theorem elOf_26 : elOf Tryd.prog 26 = some 37 := by kernel_rfl
@[simp] theorem strB_26 : strB Tryd.prog 26 = false := by kernel_rfl
@[simp] theorem aggB_29 : aggB Tryd.prog 29 = some false := by kernel_rfl
@[simp] theorem szOf_29 : szOf Tryd.prog 29 = some 1 := by kernel_rfl
@[simp] theorem elOf_29 : elOf Tryd.prog 29 = some 4 := by kernel_rfl
@[simp] theorem strB_29 : strB Tryd.prog 29 = false := by kernel_rfl
@[simp] theorem aggB_30 : aggB Tryd.prog 30 = some false := by kernel_rfl
@[simp] theorem szOf_30 : szOf Tryd.prog 30 = some 1 := by kernel_rfl
@[simp] theorem elOf_30 : elOf Tryd.prog 30 = some 22 := by kernel_rfl
@[simp] theorem strB_30 : strB Tryd.prog 30 = false := by kernel_rfl
@[simp] theorem fldOf_31_0 : fldOf Tryd.prog 31 0 = some (0, 1, false) := by kernel_rfl
@[simp] theorem fldOf_31_1 : fldOf Tryd.prog 31 1 = some (1, 1, false) := by kernel_rfl
@[simp] theorem fldOf_31_2 : fldOf Tryd.prog 31 2 = some (2, 1, false) := by kernel_rfl
@[simp] theorem fldOf_31_3 : fldOf Tryd.prog 31 3 = some (3, 1, false) := by kernel_rfl
@[simp] theorem plOf_31 : plOf Tryd.prog 31 = some (fun i => [(0, 1), (1, 1), (2, 1), (3, 1)][i]?) := by kernel_rfl
@[simp] theorem aggB_32 : aggB Tryd.prog 32 = some true := by kernel_rfl
@[simp] theorem szOf_32 : szOf Tryd.prog 32 = some 4 := by kernel_rfl
@[simp] theorem zeroOf_32 : zeroOf Tryd.prog 32 = some [.int .i64 0, .int .i64 0, .sl 0 [], .sl 0 []] := by kernel_rfl
@[simp] theorem fldOf_32_0 : fldOf Tryd.prog 32 0 = some (0, 1, false) := by kernel_rfl
@[simp] theorem fldOf_32_1 : fldOf Tryd.prog 32 1 = some (1, 1, false) := by kernel_rfl
@[simp] theorem fldOf_32_2 : fldOf Tryd.prog 32 2 = some (2, 1, false) := by kernel_rfl
@[simp] theorem fldOf_32_3 : fldOf Tryd.prog 32 3 = some (3, 1, false) := by kernel_rfl
@[simp] theorem plOf_32 : plOf Tryd.prog 32 = some (fun i => [(0, 1), (1, 1), (2, 1), (3, 1)][i]?) := by kernel_rfl
@[simp] theorem fldOf_36_0 : fldOf Tryd.prog 36 0 = some (0, 1, false) := by kernel_rfl
@[simp] theorem fldOf_36_1 : fldOf Tryd.prog 36 1 = some (1, 1, false) := by kernel_rfl
@[simp] theorem plOf_36 : plOf Tryd.prog 36 = some (fun i => [(0, 1), (1, 1)][i]?) := by kernel_rfl
@[simp] theorem aggB_37 : aggB Tryd.prog 37 = some true := by kernel_rfl
@[simp] theorem szOf_37 : szOf Tryd.prog 37 = some 2 := by kernel_rfl
@[simp] theorem byOf_37 : byOf Tryd.prog 37 = some 48 := by kernel_rfl
@[simp] theorem zeroOf_37 : zeroOf Tryd.prog 37 = some [.sl 0 [], .sl 0 []] := by kernel_rfl
@[simp] theorem fldOf_37_0 : fldOf Tryd.prog 37 0 = some (0, 1, false) := by kernel_rfl
@[simp] theorem fldOf_37_1 : fldOf Tryd.prog 37 1 = some (1, 1, false) := by kernel_rfl
@[simp] theorem plOf_37 : plOf Tryd.prog 37 = some (fun i => [(0, 1), (1, 1)][i]?) := by kernel_rfl
@[simp] theorem fldOf_55_0 : fldOf Tryd.prog 55 0 = some (0, 1, false) := by kernel_rfl
@[simp] theorem fldOf_55_1 : fldOf Tryd.prog 55 1 = some (1, 1, false) := by kernel_rfl
@[simp] theorem plOf_55 : plOf Tryd.prog 55 = some (fun i => [(0, 1), (1, 1)][i]?) := by kernel_rfl
@[simp] theorem zeroOf_56 : zeroOf Tryd.prog 56 = some [.sl 0 [], .int .i64 0] := by kernel_rfl
@[simp] theorem fldOf_56_0 : fldOf Tryd.prog 56 0 = some (0, 1, false) := by kernel_rfl
@[simp] theorem fldOf_56_1 : fldOf Tryd.prog 56 1 = some (1, 1, false) := by kernel_rfl
@[simp] theorem plOf_56 : plOf Tryd.prog 56 = some (fun i => [(0, 1), (1, 1)][i]?) := by kernel_rfl
@[simp] theorem aggB_59 : aggB Tryd.prog 59 = some false := by kernel_rfl
@[simp] theorem szOf_59 : szOf Tryd.prog 59 = some 1 := by kernel_rfl
@[simp] theorem elOf_59 : elOf Tryd.prog 59 = some 5 := by kernel_rfl
@[simp] theorem aggB_62 : aggB Tryd.prog 62 = some false := by kernel_rfl
@[simp] theorem szOf_62 : szOf Tryd.prog 62 = some 1 := by kernel_rfl
@[simp] theorem byOf_62 : byOf Tryd.prog 62 = some 24 := by kernel_rfl
@[simp] theorem zeroOf_62 : zeroOf Tryd.prog 62 = some [.sl 0 []] := by kernel_rfl
@[simp] theorem elOf_62 : elOf Tryd.prog 62 = some 73 := by kernel_rfl
@[simp] theorem aggB_73 : aggB Tryd.prog 73 = some false := by kernel_rfl
@[simp] theorem szOf_73 : szOf Tryd.prog 73 = some 1 := by kernel_rfl
@[simp] theorem byOf_73 : byOf Tryd.prog 73 = some 8 := by kernel_rfl
@[simp] theorem zeroOf_73 : zeroOf Tryd.prog 73 = some [.int .u64 0] := by kernel_rfl
@[simp] theorem intB_73 : intB Tryd.prog 73 = some .u64 := by kernel_rfl
@[simp] theorem aggB_74 : aggB Tryd.prog 74 = some true := by kernel_rfl
@[simp] theorem szOf_74 : szOf Tryd.prog 74 = some 6 := by kernel_rfl
@[simp] theorem elOf_74 : elOf Tryd.prog 74 = none := by kernel_rfl
@[simp] theorem strB_74 : strB Tryd.prog 74 = false := by kernel_rfl
@[simp] theorem arOf_74 : arOf Tryd.prog 74 = some (6, 73) := by kernel_rfl
@[simp] theorem plOf_74 : plOf Tryd.prog 74 = some (fun i => some (i * 1, 1)) := by kernel_rfl
@[simp] theorem fldOf_75_0 : fldOf Tryd.prog 75 0 = some (0, 6, true) := by kernel_rfl
@[simp] theorem fldOf_75_1 : fldOf Tryd.prog 75 1 = some (6, 6, true) := by kernel_rfl
@[simp] theorem plOf_75 : plOf Tryd.prog 75 = some (fun i => [(0, 6), (6, 6)][i]?) := by kernel_rfl
@[simp] theorem aggB_76 : aggB Tryd.prog 76 = some true := by kernel_rfl
@[simp] theorem szOf_76 : szOf Tryd.prog 76 = some 12 := by kernel_rfl
@[simp] theorem byOf_76 : byOf Tryd.prog 76 = some 96 := by kernel_rfl
@[simp] theorem zeroOf_76 : zeroOf Tryd.prog 76 = some [.int .u64 0, .int .u64 0, .int .u64 0, .int .u64 0, .int .u64 0, .int .u64 0, .int .u64 0, .int .u64 0, .int .u64 0, .int .u64 0, .int .u64 0, .int .u64 0] := by kernel_rfl
@[simp] theorem fldOf_76_0 : fldOf Tryd.prog 76 0 = some (0, 6, true) := by kernel_rfl
@[simp] theorem fldOf_76_1 : fldOf Tryd.prog 76 1 = some (6, 6, true) := by kernel_rfl
@[simp] theorem plOf_76 : plOf Tryd.prog 76 = some (fun i => [(0, 6), (6, 6)][i]?) := by kernel_rfl
@[simp] theorem fldOf_84_0 : fldOf Tryd.prog 84 0 = some (0, 4, true) := by kernel_rfl
@[simp] theorem fldOf_84_1 : fldOf Tryd.prog 84 1 = some (4, 1, false) := by kernel_rfl
@[simp] theorem fldOf_84_2 : fldOf Tryd.prog 84 2 = some (5, 1, false) := by kernel_rfl
@[simp] theorem fldOf_84_3 : fldOf Tryd.prog 84 3 = some (6, 1, false) := by kernel_rfl
@[simp] theorem fldOf_84_4 : fldOf Tryd.prog 84 4 = some (7, 1, false) := by kernel_rfl
@[simp] theorem plOf_84 : plOf Tryd.prog 84 = some (fun i => [(0, 4), (4, 1), (5, 1), (6, 1), (7, 1)][i]?) := by kernel_rfl
@[simp] theorem zeroOf_85 : zeroOf Tryd.prog 85 = some [.int .i64 0, .int .i64 0, .sl 0 [], .sl 0 [], .sl 0 [], .sl 0 [], .sl 0 [], .sl 0 []] := by kernel_rfl
@[simp] theorem fldOf_85_0 : fldOf Tryd.prog 85 0 = some (0, 4, true) := by kernel_rfl
@[simp] theorem fldOf_85_1 : fldOf Tryd.prog 85 1 = some (4, 1, false) := by kernel_rfl
@[simp] theorem fldOf_85_2 : fldOf Tryd.prog 85 2 = some (5, 1, false) := by kernel_rfl
@[simp] theorem fldOf_85_3 : fldOf Tryd.prog 85 3 = some (6, 1, false) := by kernel_rfl
@[simp] theorem fldOf_85_4 : fldOf Tryd.prog 85 4 = some (7, 1, false) := by kernel_rfl
@[simp] theorem plOf_85 : plOf Tryd.prog 85 = some (fun i => [(0, 4), (4, 1), (5, 1), (6, 1), (7, 1)][i]?) := by kernel_rfl
@[simp] theorem elOf_93 : elOf Tryd.prog 93 = some 76 := by kernel_rfl
@[simp] theorem mpB_96 : mpB Tryd.prog 96 = true := by kernel_rfl
@[simp] theorem plOf_98 : plOf Tryd.prog 98 = some (fun i => some (i * 1, 1)) := by kernel_rfl
@[simp] theorem fldOf_99_0 : fldOf Tryd.prog 99 0 = some (0, 1, false) := by kernel_rfl
@[simp] theorem fldOf_99_1 : fldOf Tryd.prog 99 1 = some (1, 1, false) := by kernel_rfl
@[simp] theorem fldOf_99_2 : fldOf Tryd.prog 99 2 = some (2, 1, false) := by kernel_rfl
@[simp] theorem fldOf_99_3 : fldOf Tryd.prog 99 3 = some (3, 1, false) := by kernel_rfl
@[simp] theorem fldOf_99_4 : fldOf Tryd.prog 99 4 = some (4, 1, false) := by kernel_rfl
@[simp] theorem fldOf_99_5 : fldOf Tryd.prog 99 5 = some (5, 6, true) := by kernel_rfl
@[simp] theorem fldOf_99_6 : fldOf Tryd.prog 99 6 = some (11, 6, true) := by kernel_rfl
@[simp] theorem plOf_99 : plOf Tryd.prog 99 = some (fun i => [(0, 1), (1, 1), (2, 1), (3, 1), (4, 1), (5, 6), (11, 6)][i]?) := by kernel_rfl
@[simp] theorem fldOf_100_0 : fldOf Tryd.prog 100 0 = some (0, 1, false) := by kernel_rfl
@[simp] theorem fldOf_100_1 : fldOf Tryd.prog 100 1 = some (1, 1, false) := by kernel_rfl
@[simp] theorem fldOf_100_2 : fldOf Tryd.prog 100 2 = some (2, 1, false) := by kernel_rfl
@[simp] theorem fldOf_100_3 : fldOf Tryd.prog 100 3 = some (3, 1, false) := by kernel_rfl
@[simp] theorem fldOf_100_4 : fldOf Tryd.prog 100 4 = some (4, 1, false) := by kernel_rfl
@[simp] theorem fldOf_100_5 : fldOf Tryd.prog 100 5 = some (5, 6, true) := by kernel_rfl
@[simp] theorem fldOf_100_6 : fldOf Tryd.prog 100 6 = some (11, 6, true) := by kernel_rfl
@[simp] theorem plOf_100 : plOf Tryd.prog 100 = some (fun i => [(0, 1), (1, 1), (2, 1), (3, 1), (4, 1), (5, 6), (11, 6)][i]?) := by kernel_rfl
@[simp] theorem fldOf_105_0 : fldOf Tryd.prog 105 0 = some (0, 1, false) := by kernel_rfl
@[simp] theorem fldOf_105_1 : fldOf Tryd.prog 105 1 = some (1, 1, false) := by kernel_rfl
@[simp] theorem fldOf_105_2 : fldOf Tryd.prog 105 2 = some (2, 1, false) := by kernel_rfl
@[simp] theorem plOf_105 : plOf Tryd.prog 105 = some (fun i => [(0, 1), (1, 1), (2, 1)][i]?) := by kernel_rfl
@[simp] theorem fldOf_106_0 : fldOf Tryd.prog 106 0 = some (0, 1, false) := by kernel_rfl
@[simp] theorem fldOf_106_1 : fldOf Tryd.prog 106 1 = some (1, 1, false) := by kernel_rfl
@[simp] theorem fldOf_106_2 : fldOf Tryd.prog 106 2 = some (2, 1, false) := by kernel_rfl
@[simp] theorem plOf_106 : plOf Tryd.prog 106 = some (fun i => [(0, 1), (1, 1), (2, 1)][i]?) := by kernel_rfl
@[simp] theorem mpB_109 : mpB Tryd.prog 109 = true := by kernel_rfl
@[simp] theorem elOf_115 : elOf Tryd.prog 115 = some 9 := by kernel_rfl
@[simp] theorem aggB_121 : aggB Tryd.prog 121 = some false := by kernel_rfl
@[simp] theorem szOf_121 : szOf Tryd.prog 121 = some 1 := by kernel_rfl
@[simp] theorem elOf_121 : elOf Tryd.prog 121 = some 143 := by kernel_rfl
@[simp] theorem fldOf_122_0 : fldOf Tryd.prog 122 0 = some (0, 1, false) := by kernel_rfl
@[simp] theorem fldOf_122_1 : fldOf Tryd.prog 122 1 = some (1, 1, false) := by kernel_rfl
@[simp] theorem fldOf_122_2 : fldOf Tryd.prog 122 2 = some (2, 1, false) := by kernel_rfl
@[simp] theorem fldOf_122_3 : fldOf Tryd.prog 122 3 = some (3, 1, false) := by kernel_rfl
@[simp] theorem fldOf_122_4 : fldOf Tryd.prog 122 4 = some (4, 1, false) := by kernel_rfl
@[simp] theorem plOf_122 : plOf Tryd.prog 122 = some (fun i => [(0, 1), (1, 1), (2, 1), (3, 1), (4, 1)][i]?) := by kernel_rfl
@[simp] theorem aggB_123 : aggB Tryd.prog 123 = some true := by kernel_rfl
@[simp] theorem szOf_123 : szOf Tryd.prog 123 = some 5 := by kernel_rfl
@[simp] theorem zeroOf_123 : zeroOf Tryd.prog 123 = some [.int .i64 0, .int .i64 0, .int .u64 0, .int .u64 0, .sl 0 []] := by kernel_rfl
@[simp] theorem fldOf_123_0 : fldOf Tryd.prog 123 0 = some (0, 1, false) := by kernel_rfl
@[simp] theorem fldOf_123_1 : fldOf Tryd.prog 123 1 = some (1, 1, false) := by kernel_rfl
@[simp] theorem fldOf_123_2 : fldOf Tryd.prog 123 2 = some (2, 1, false) := by kernel_rfl
@[simp] theorem fldOf_123_3 : fldOf Tryd.prog 123 3 = some (3, 1, false) := by kernel_rfl
@[simp] theorem fldOf_123_4 : fldOf Tryd.prog 123 4 = some (4, 1, false) := by kernel_rfl
@[simp] theorem plOf_123 : plOf Tryd.prog 123 = some (fun i => [(0, 1), (1, 1), (2, 1), (3, 1), (4, 1)][i]?) := by kernel_rfl
@[simp] theorem fldOf_130_0 : fldOf Tryd.prog 130 0 = some (0, 2, true) := by kernel_rfl
@[simp] theorem fldOf_130_1 : fldOf Tryd.prog 130 1 = some (2, 2, true) := by kernel_rfl
@[simp] theorem fldOf_130_2 : fldOf Tryd.prog 130 2 = some (4, 1, false) := by kernel_rfl
@[simp] theorem fldOf_130_3 : fldOf Tryd.prog 130 3 = some (5, 1, false) := by kernel_rfl
@[simp] theorem fldOf_130_4 : fldOf Tryd.prog 130 4 = some (6, 1, false) := by kernel_rfl
@[simp] theorem plOf_130 : plOf Tryd.prog 130 = some (fun i => [(0, 2), (2, 2), (4, 1), (5, 1), (6, 1)][i]?) := by kernel_rfl
@[simp] theorem zeroOf_131 : zeroOf Tryd.prog 131 = some [.sl 0 [], .sl 0 [], .sl 0 [], .sl 0 [], .sl 0 [], .sl 0 [], .sl 0 []] := by kernel_rfl
@[simp] theorem fldOf_131_0 : fldOf Tryd.prog 131 0 = some (0, 2, true) := by kernel_rfl
@[simp] theorem fldOf_131_1 : fldOf Tryd.prog 131 1 = some (2, 2, true) := by kernel_rfl
@[simp] theorem fldOf_131_2 : fldOf Tryd.prog 131 2 = some (4, 1, false) := by kernel_rfl
@[simp] theorem fldOf_131_3 : fldOf Tryd.prog 131 3 = some (5, 1, false) := by kernel_rfl
@[simp] theorem fldOf_131_4 : fldOf Tryd.prog 131 4 = some (6, 1, false) := by kernel_rfl
@[simp] theorem plOf_131 : plOf Tryd.prog 131 = some (fun i => [(0, 2), (2, 2), (4, 1), (5, 1), (6, 1)][i]?) := by kernel_rfl
@[simp] theorem kagB_135 : kagB Tryd.prog 135 = some 3 := by kernel_rfl
@[simp] theorem fldOf_135_0 : fldOf Tryd.prog 135 0 = some (0, 1, false) := by kernel_rfl
@[simp] theorem fldOf_135_1 : fldOf Tryd.prog 135 1 = some (1, 1, false) := by kernel_rfl
@[simp] theorem fldOf_135_2 : fldOf Tryd.prog 135 2 = some (2, 1, false) := by kernel_rfl
@[simp] theorem plOf_135 : plOf Tryd.prog 135 = some (fun i => [(0, 1), (1, 1), (2, 1)][i]?) := by kernel_rfl
@[simp] theorem kagB_136 : kagB Tryd.prog 136 = some 3 := by kernel_rfl
@[simp] theorem fldOf_136_0 : fldOf Tryd.prog 136 0 = some (0, 1, false) := by kernel_rfl
@[simp] theorem fldOf_136_1 : fldOf Tryd.prog 136 1 = some (1, 1, false) := by kernel_rfl
@[simp] theorem fldOf_136_2 : fldOf Tryd.prog 136 2 = some (2, 1, false) := by kernel_rfl
@[simp] theorem plOf_136 : plOf Tryd.prog 136 = some (fun i => [(0, 1), (1, 1), (2, 1)][i]?) := by kernel_rfl
@[simp] theorem kagB_142 : kagB Tryd.prog 142 = some 3 := by kernel_rfl
@[simp] theorem fldOf_142_0 : fldOf Tryd.prog 142 0 = some (0, 1, false) := by kernel_rfl
@[simp] theorem fldOf_142_1 : fldOf Tryd.prog 142 1 = some (1, 1, false) := by kernel_rfl
@[simp] theorem fldOf_142_2 : fldOf Tryd.prog 142 2 = some (2, 1, false) := by kernel_rfl
@[simp] theorem plOf_142 : plOf Tryd.prog 142 = some (fun i => [(0, 1), (1, 1), (2, 1)][i]?) := by kernel_rfl
@[simp] theorem aggB_143 : aggB Tryd.prog 143 = some true := by kernel_rfl
@[simp] theorem szOf_143 : szOf Tryd.prog 143 = some 3 := by kernel_rfl
@[simp] theorem byOf_143 : byOf Tryd.prog 143 = some 24 := by kernel_rfl
@[simp] theorem zeroOf_143 : zeroOf Tryd.prog 143 = some [.int .i64 0, .int .i64 0, .int .i64 0] := by kernel_rfl
@[simp] theorem kagB_143 : kagB Tryd.prog 143 = some 3 := by kernel_rfl
@[simp] theorem fldOf_143_0 : fldOf Tryd.prog 143 0 = some (0, 1, false) := by kernel_rfl
@[simp] theorem fldOf_143_1 : fldOf Tryd.prog 143 1 = some (1, 1, false) := by kernel_rfl
@[simp] theorem fldOf_143_2 : fldOf Tryd.prog 143 2 = some (2, 1, false) := by kernel_rfl
@[simp] theorem plOf_143 : plOf Tryd.prog 143 = some (fun i => [(0, 1), (1, 1), (2, 1)][i]?) := by kernel_rfl
@[simp] theorem elOf_153 : elOf Tryd.prog 153 = none := by kernel_rfl
@[simp] theorem arOf_153 : arOf Tryd.prog 153 = some (64, 5) := by kernel_rfl
@[simp] theorem plOf_153 : plOf Tryd.prog 153 = some (fun i => some (i * 1, 1)) := by kernel_rfl
@[simp] theorem mpB_156 : mpB Tryd.prog 156 = true := by kernel_rfl
@[simp] theorem mpTy_156 : mpTy Tryd.prog 156 = some (158, 3) := by kernel_rfl
@[simp] theorem elOf_156 : elOf Tryd.prog 156 = none := by kernel_rfl
@[simp] theorem plOf_157 : plOf Tryd.prog 157 = some (fun i => some (i * 1, 1)) := by kernel_rfl
@[simp] theorem kagB_157 : kagB Tryd.prog 157 = some 7 := by kernel_rfl
@[simp] theorem aggB_158 : aggB Tryd.prog 158 = some true := by kernel_rfl
@[simp] theorem szOf_158 : szOf Tryd.prog 158 = some 7 := by kernel_rfl
@[simp] theorem zeroOf_158 : zeroOf Tryd.prog 158 = some [.int .i64 0, .int .i64 0, .int .i64 0, .int .i64 0, .int .i64 0, .int .i64 0, .int .i64 0] := by kernel_rfl
@[simp] theorem elOf_158 : elOf Tryd.prog 158 = none := by kernel_rfl
@[simp] theorem arOf_158 : arOf Tryd.prog 158 = some (7, 3) := by kernel_rfl
@[simp] theorem plOf_158 : plOf Tryd.prog 158 = some (fun i => some (i * 1, 1)) := by kernel_rfl
@[simp] theorem kagB_158 : kagB Tryd.prog 158 = some 7 := by kernel_rfl
@[simp] theorem aggB_159 : aggB Tryd.prog 159 = some false := by kernel_rfl
@[simp] theorem szOf_159 : szOf Tryd.prog 159 = some 1 := by kernel_rfl
@[simp] theorem mpB_159 : mpB Tryd.prog 159 = true := by kernel_rfl
@[simp] theorem mpTy_159 : mpTy Tryd.prog 159 = some (3, 3) := by kernel_rfl
@[simp] theorem aggB_168 : aggB Tryd.prog 168 = some false := by kernel_rfl
@[simp] theorem szOf_168 : szOf Tryd.prog 168 = some 1 := by kernel_rfl
@[simp] theorem mpB_168 : mpB Tryd.prog 168 = true := by kernel_rfl
@[simp] theorem mpTy_168 : mpTy Tryd.prog 168 = some (73, 3) := by kernel_rfl
@[simp] theorem fldOf_170_0 : fldOf Tryd.prog 170 0 = some (0, 1, false) := by kernel_rfl
@[simp] theorem fldOf_170_1 : fldOf Tryd.prog 170 1 = some (1, 1, false) := by kernel_rfl
@[simp] theorem plOf_170 : plOf Tryd.prog 170 = some (fun i => [(0, 1), (1, 1)][i]?) := by kernel_rfl
@[simp] theorem zeroOf_171 : zeroOf Tryd.prog 171 = some [.sl 0 [], .nilm] := by kernel_rfl
@[simp] theorem fldOf_171_0 : fldOf Tryd.prog 171 0 = some (0, 1, false) := by kernel_rfl
@[simp] theorem fldOf_171_1 : fldOf Tryd.prog 171 1 = some (1, 1, false) := by kernel_rfl
@[simp] theorem plOf_171 : plOf Tryd.prog 171 = some (fun i => [(0, 1), (1, 1)][i]?) := by kernel_rfl
@[simp] theorem fldOf_172_0 : fldOf Tryd.prog 172 0 = some (0, 1, false) := by kernel_rfl
@[simp] theorem fldOf_172_1 : fldOf Tryd.prog 172 1 = some (1, 1, false) := by kernel_rfl
@[simp] theorem plOf_172 : plOf Tryd.prog 172 = some (fun i => [(0, 1), (1, 1)][i]?) := by kernel_rfl
@[simp] theorem zeroOf_173 : zeroOf Tryd.prog 173 = some [.sl 0 [], .nilm] := by kernel_rfl
@[simp] theorem fldOf_173_0 : fldOf Tryd.prog 173 0 = some (0, 1, false) := by kernel_rfl
@[simp] theorem fldOf_173_1 : fldOf Tryd.prog 173 1 = some (1, 1, false) := by kernel_rfl
@[simp] theorem plOf_173 : plOf Tryd.prog 173 = some (fun i => [(0, 1), (1, 1)][i]?) := by kernel_rfl
@[simp] theorem aggB_174 : aggB Tryd.prog 174 = some false := by kernel_rfl
@[simp] theorem szOf_174 : szOf Tryd.prog 174 = some 1 := by kernel_rfl
@[simp] theorem zeroOf_174 : zeroOf Tryd.prog 174 = some [.sl 0 []] := by kernel_rfl
@[simp] theorem elOf_174 : elOf Tryd.prog 174 = some 62 := by kernel_rfl
@[simp] theorem fldOf_199_0 : fldOf Tryd.prog 199 0 = some (0, 1, false) := by kernel_rfl
@[simp] theorem fldOf_199_1 : fldOf Tryd.prog 199 1 = some (1, 1, false) := by kernel_rfl
@[simp] theorem fldOf_199_2 : fldOf Tryd.prog 199 2 = some (2, 1, false) := by kernel_rfl
@[simp] theorem fldOf_199_3 : fldOf Tryd.prog 199 3 = some (3, 1, false) := by kernel_rfl
@[simp] theorem plOf_199 : plOf Tryd.prog 199 = some (fun i => [(0, 1), (1, 1), (2, 1), (3, 1)][i]?) := by kernel_rfl
@[simp] theorem plOf_201 : plOf Tryd.prog 201 = some (fun i => some (i * 1, 1)) := by kernel_rfl
@[simp] theorem fldOf_202_0 : fldOf Tryd.prog 202 0 = some (0, 0, true) := by kernel_rfl
@[simp] theorem plOf_202 : plOf Tryd.prog 202 = some (fun i => [(0, 0)][i]?) := by kernel_rfl
@[simp] theorem fldOf_210_0 : fldOf Tryd.prog 210 0 = some (0, 1, false) := by kernel_rfl
@[simp] theorem fldOf_210_1 : fldOf Tryd.prog 210 1 = some (1, 1, false) := by kernel_rfl
@[simp] theorem fldOf_210_2 : fldOf Tryd.prog 210 2 = some (2, 1, false) := by kernel_rfl
@[simp] theorem fldOf_210_3 : fldOf Tryd.prog 210 3 = some (3, 1, false) := by kernel_rfl
@[simp] theorem fldOf_210_4 : fldOf Tryd.prog 210 4 = some (4, 1, false) := by kernel_rfl
@[simp] theorem fldOf_210_5 : fldOf Tryd.prog 210 5 = some (5, 1, false) := by kernel_rfl
@[simp] theorem fldOf_210_6 : fldOf Tryd.prog 210 6 = some (6, 1, false) := by kernel_rfl
@[simp] theorem fldOf_210_7 : fldOf Tryd.prog 210 7 = some (7, 1, false) := by kernel_rfl
@[simp] theorem fldOf_210_8 : fldOf Tryd.prog 210 8 = some (8, 1, false) := by kernel_rfl
@[simp] theorem fldOf_210_9 : fldOf Tryd.prog 210 9 = some (9, 1, false) := by kernel_rfl
@[simp] theorem fldOf_210_10 : fldOf Tryd.prog 210 10 = some (10, 1, false) := by kernel_rfl
@[simp] theorem plOf_210 : plOf Tryd.prog 210 = some (fun i => [(0, 1), (1, 1), (2, 1), (3, 1), (4, 1), (5, 1), (6, 1), (7, 1), (8, 1), (9, 1), (10, 1)][i]?) := by kernel_rfl
end Go.Proofs.YtnffigeofdagfaaDoor.M
