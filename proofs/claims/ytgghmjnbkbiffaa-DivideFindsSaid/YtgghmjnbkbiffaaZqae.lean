/-
  The layout of the types of this seat's program, written by a program of mine.
-/
import Derived.Test.YtgghmjnbkbiffaaZqad
import Derived.Test.YtgghmjnbkbiffaaProg
namespace Go.Proofs.Ytgghmjnbkbiffaa.M
open Go.RowKit

@[simp] theorem aggB_2 : aggB Try.prog 2 = some false := by kernel_rfl
@[simp] theorem szOf_2 : szOf Try.prog 2 = some 1 := by kernel_rfl
@[simp] theorem byOf_2 : byOf Try.prog 2 = some 8 := by kernel_rfl
@[simp] theorem zeroOf_2 : zeroOf Try.prog 2 = some [.int .i64 0] := by kernel_rfl
@[simp] theorem zero1_2 : zero1 Try.prog 2 = some (.int .i64 0) := by kernel_rfl
@[simp] theorem elOf_2 : elOf Try.prog 2 = none := by kernel_rfl
@[simp] theorem strB_2 : strB Try.prog 2 = false := by kernel_rfl
@[simp] theorem boolB_2 : boolB Try.prog 2 = false := by kernel_rfl
@[simp] theorem intB_2 : intB Try.prog 2 = some .i64 := by kernel_rfl
@[simp] theorem aggB_3 : aggB Try.prog 3 = some false := by kernel_rfl
@[simp] theorem szOf_3 : szOf Try.prog 3 = some 1 := by kernel_rfl
@[simp] theorem byOf_3 : byOf Try.prog 3 = some 8 := by kernel_rfl
@[simp] theorem zeroOf_3 : zeroOf Try.prog 3 = some [.int .i64 0] := by kernel_rfl
@[simp] theorem zero1_3 : zero1 Try.prog 3 = some (.int .i64 0) := by kernel_rfl
@[simp] theorem elOf_3 : elOf Try.prog 3 = none := by kernel_rfl
@[simp] theorem strB_3 : strB Try.prog 3 = false := by kernel_rfl
@[simp] theorem boolB_3 : boolB Try.prog 3 = false := by kernel_rfl
@[simp] theorem intB_3 : intB Try.prog 3 = some .i64 := by kernel_rfl
@[simp] theorem aggB_4 : aggB Try.prog 4 = some false := by kernel_rfl
@[simp] theorem szOf_4 : szOf Try.prog 4 = some 1 := by kernel_rfl
@[simp] theorem byOf_4 : byOf Try.prog 4 = some 1 := by kernel_rfl
@[simp] theorem zeroOf_4 : zeroOf Try.prog 4 = some [.bool false] := by kernel_rfl
@[simp] theorem zero1_4 : zero1 Try.prog 4 = some (.bool false) := by kernel_rfl
@[simp] theorem elOf_4 : elOf Try.prog 4 = none := by kernel_rfl
@[simp] theorem strB_4 : strB Try.prog 4 = false := by kernel_rfl
@[simp] theorem boolB_4 : boolB Try.prog 4 = true := by kernel_rfl
@[simp] theorem intB_4 : intB Try.prog 4 = none := by kernel_rfl
@[simp] theorem aggB_5 : aggB Try.prog 5 = some false := by kernel_rfl
@[simp] theorem szOf_5 : szOf Try.prog 5 = some 1 := by kernel_rfl
@[simp] theorem byOf_5 : byOf Try.prog 5 = some 1 := by kernel_rfl
@[simp] theorem zeroOf_5 : zeroOf Try.prog 5 = some [.int .u8 0] := by kernel_rfl
@[simp] theorem zero1_5 : zero1 Try.prog 5 = some (.int .u8 0) := by kernel_rfl
@[simp] theorem elOf_5 : elOf Try.prog 5 = none := by kernel_rfl
@[simp] theorem strB_5 : strB Try.prog 5 = false := by kernel_rfl
@[simp] theorem boolB_5 : boolB Try.prog 5 = false := by kernel_rfl
@[simp] theorem intB_5 : intB Try.prog 5 = some .u8 := by kernel_rfl
@[simp] theorem aggB_7 : aggB Try.prog 7 = some true := by kernel_rfl
@[simp] theorem szOf_7 : szOf Try.prog 7 = some 4 := by kernel_rfl
@[simp] theorem byOf_7 : byOf Try.prog 7 = some 24 := by kernel_rfl
@[simp] theorem zeroOf_7 : zeroOf Try.prog 7 = some [.int .i64 0, .int .i64 0, .bool false, .int .u8 0] := by kernel_rfl
@[simp] theorem elOf_7 : elOf Try.prog 7 = none := by kernel_rfl
@[simp] theorem strB_7 : strB Try.prog 7 = false := by kernel_rfl
@[simp] theorem boolB_7 : boolB Try.prog 7 = false := by kernel_rfl
@[simp] theorem intB_7 : intB Try.prog 7 = none := by kernel_rfl
@[simp] theorem fldOf_7_0 : fldOf Try.prog 7 0 = some (0, 1, false) := by kernel_rfl
@[simp] theorem fldOf_7_1 : fldOf Try.prog 7 1 = some (1, 1, false) := by kernel_rfl
@[simp] theorem fldOf_7_2 : fldOf Try.prog 7 2 = some (2, 1, false) := by kernel_rfl
@[simp] theorem fldOf_7_3 : fldOf Try.prog 7 3 = some (3, 1, false) := by kernel_rfl
@[simp] theorem plOf_7 : plOf Try.prog 7 = some (fun i => [(0, 1), (1, 1), (2, 1), (3, 1)][i]?) := by kernel_rfl
@[simp] theorem aggB_9 : aggB Try.prog 9 = some false := by kernel_rfl
@[simp] theorem szOf_9 : szOf Try.prog 9 = some 1 := by kernel_rfl
@[simp] theorem byOf_9 : byOf Try.prog 9 = some 16 := by kernel_rfl
@[simp] theorem zeroOf_9 : zeroOf Try.prog 9 = some [.str ⟨#[]⟩] := by kernel_rfl
@[simp] theorem zero1_9 : zero1 Try.prog 9 = some (.str ⟨#[]⟩) := by kernel_rfl
@[simp] theorem elOf_9 : elOf Try.prog 9 = none := by kernel_rfl
@[simp] theorem strB_9 : strB Try.prog 9 = true := by kernel_rfl
@[simp] theorem boolB_9 : boolB Try.prog 9 = false := by kernel_rfl
@[simp] theorem intB_9 : intB Try.prog 9 = none := by kernel_rfl
@[simp] theorem aggB_12 : aggB Try.prog 12 = some false := by kernel_rfl
@[simp] theorem szOf_12 : szOf Try.prog 12 = some 1 := by kernel_rfl
@[simp] theorem byOf_12 : byOf Try.prog 12 = some 8 := by kernel_rfl
@[simp] theorem zeroOf_12 : zeroOf Try.prog 12 = some [.int .u64 0] := by kernel_rfl
@[simp] theorem zero1_12 : zero1 Try.prog 12 = some (.int .u64 0) := by kernel_rfl
@[simp] theorem elOf_12 : elOf Try.prog 12 = none := by kernel_rfl
@[simp] theorem strB_12 : strB Try.prog 12 = false := by kernel_rfl
@[simp] theorem boolB_12 : boolB Try.prog 12 = false := by kernel_rfl
@[simp] theorem intB_12 : intB Try.prog 12 = some .u64 := by kernel_rfl
@[simp] theorem aggB_13 : aggB Try.prog 13 = some true := by kernel_rfl
@[simp] theorem szOf_13 : szOf Try.prog 13 = some 2 := by kernel_rfl
@[simp] theorem byOf_13 : byOf Try.prog 13 = some 24 := by kernel_rfl
@[simp] theorem zeroOf_13 : zeroOf Try.prog 13 = some [.str ⟨#[]⟩, .int .u64 0] := by kernel_rfl
@[simp] theorem elOf_13 : elOf Try.prog 13 = none := by kernel_rfl
@[simp] theorem strB_13 : strB Try.prog 13 = false := by kernel_rfl
@[simp] theorem boolB_13 : boolB Try.prog 13 = false := by kernel_rfl
@[simp] theorem intB_13 : intB Try.prog 13 = none := by kernel_rfl
@[simp] theorem fldOf_13_0 : fldOf Try.prog 13 0 = some (0, 1, false) := by kernel_rfl
@[simp] theorem fldOf_13_1 : fldOf Try.prog 13 1 = some (1, 1, false) := by kernel_rfl
@[simp] theorem plOf_13 : plOf Try.prog 13 = some (fun i => [(0, 1), (1, 1)][i]?) := by kernel_rfl
@[simp] theorem aggB_15 : aggB Try.prog 15 = some false := by kernel_rfl
@[simp] theorem szOf_15 : szOf Try.prog 15 = some 1 := by kernel_rfl
@[simp] theorem byOf_15 : byOf Try.prog 15 = some 8 := by kernel_rfl
@[simp] theorem zeroOf_15 : zeroOf Try.prog 15 = some [.nilp] := by kernel_rfl
@[simp] theorem zero1_15 : zero1 Try.prog 15 = some (.nilp) := by kernel_rfl
@[simp] theorem elOf_15 : elOf Try.prog 15 = none := by kernel_rfl
@[simp] theorem strB_15 : strB Try.prog 15 = false := by kernel_rfl
@[simp] theorem boolB_15 : boolB Try.prog 15 = false := by kernel_rfl
@[simp] theorem intB_15 : intB Try.prog 15 = none := by kernel_rfl
@[simp] theorem aggB_16 : aggB Try.prog 16 = some false := by kernel_rfl
@[simp] theorem szOf_16 : szOf Try.prog 16 = some 1 := by kernel_rfl
@[simp] theorem byOf_16 : byOf Try.prog 16 = some 8 := by kernel_rfl
@[simp] theorem zeroOf_16 : zeroOf Try.prog 16 = some [.nilp] := by kernel_rfl
@[simp] theorem zero1_16 : zero1 Try.prog 16 = some (.nilp) := by kernel_rfl
@[simp] theorem elOf_16 : elOf Try.prog 16 = none := by kernel_rfl
@[simp] theorem strB_16 : strB Try.prog 16 = false := by kernel_rfl
@[simp] theorem boolB_16 : boolB Try.prog 16 = false := by kernel_rfl
@[simp] theorem intB_16 : intB Try.prog 16 = none := by kernel_rfl
@[simp] theorem aggB_17 : aggB Try.prog 17 = some false := by kernel_rfl
@[simp] theorem szOf_17 : szOf Try.prog 17 = some 1 := by kernel_rfl
@[simp] theorem byOf_17 : byOf Try.prog 17 = some 8 := by kernel_rfl
@[simp] theorem zeroOf_17 : zeroOf Try.prog 17 = some [.nilp] := by kernel_rfl
@[simp] theorem zero1_17 : zero1 Try.prog 17 = some (.nilp) := by kernel_rfl
@[simp] theorem elOf_17 : elOf Try.prog 17 = none := by kernel_rfl
@[simp] theorem strB_17 : strB Try.prog 17 = false := by kernel_rfl
@[simp] theorem boolB_17 : boolB Try.prog 17 = false := by kernel_rfl
@[simp] theorem intB_17 : intB Try.prog 17 = none := by kernel_rfl
@[simp] theorem aggB_18 : aggB Try.prog 18 = some true := by kernel_rfl
@[simp] theorem szOf_18 : szOf Try.prog 18 = some 1 := by kernel_rfl
@[simp] theorem byOf_18 : byOf Try.prog 18 = some 8 := by kernel_rfl
@[simp] theorem zeroOf_18 : zeroOf Try.prog 18 = some [.nilp] := by kernel_rfl
@[simp] theorem elOf_18 : elOf Try.prog 18 = none := by kernel_rfl
@[simp] theorem strB_18 : strB Try.prog 18 = false := by kernel_rfl
@[simp] theorem boolB_18 : boolB Try.prog 18 = false := by kernel_rfl
@[simp] theorem intB_18 : intB Try.prog 18 = none := by kernel_rfl
@[simp] theorem fldOf_18_0 : fldOf Try.prog 18 0 = some (0, 1, false) := by kernel_rfl
@[simp] theorem plOf_18 : plOf Try.prog 18 = some (fun i => [(0, 1)][i]?) := by kernel_rfl
@[simp] theorem aggB_21 : aggB Try.prog 21 = some false := by kernel_rfl
@[simp] theorem szOf_21 : szOf Try.prog 21 = some 1 := by kernel_rfl
@[simp] theorem byOf_21 : byOf Try.prog 21 = some 4 := by kernel_rfl
@[simp] theorem zeroOf_21 : zeroOf Try.prog 21 = some [.int .i32 0] := by kernel_rfl
@[simp] theorem zero1_21 : zero1 Try.prog 21 = some (.int .i32 0) := by kernel_rfl
@[simp] theorem elOf_21 : elOf Try.prog 21 = none := by kernel_rfl
@[simp] theorem strB_21 : strB Try.prog 21 = false := by kernel_rfl
@[simp] theorem boolB_21 : boolB Try.prog 21 = false := by kernel_rfl
@[simp] theorem intB_21 : intB Try.prog 21 = some .i32 := by kernel_rfl
@[simp] theorem aggB_22 : aggB Try.prog 22 = some false := by kernel_rfl
@[simp] theorem szOf_22 : szOf Try.prog 22 = some 1 := by kernel_rfl
@[simp] theorem byOf_22 : byOf Try.prog 22 = some 24 := by kernel_rfl
@[simp] theorem zeroOf_22 : zeroOf Try.prog 22 = some [.sl 0 []] := by kernel_rfl
@[simp] theorem zero1_22 : zero1 Try.prog 22 = some (.sl 0 []) := by kernel_rfl
@[simp] theorem elOf_22 : elOf Try.prog 22 = some 31 := by kernel_rfl
@[simp] theorem strB_22 : strB Try.prog 22 = false := by kernel_rfl
@[simp] theorem boolB_22 : boolB Try.prog 22 = false := by kernel_rfl
@[simp] theorem intB_22 : intB Try.prog 22 = none := by kernel_rfl
@[simp] theorem aggB_23 : aggB Try.prog 23 = some false := by kernel_rfl
@[simp] theorem szOf_23 : szOf Try.prog 23 = some 1 := by kernel_rfl
@[simp] theorem byOf_23 : byOf Try.prog 23 = some 8 := by kernel_rfl
@[simp] theorem zeroOf_23 : zeroOf Try.prog 23 = some [.int .i64 0] := by kernel_rfl
@[simp] theorem zero1_23 : zero1 Try.prog 23 = some (.int .i64 0) := by kernel_rfl
@[simp] theorem elOf_23 : elOf Try.prog 23 = none := by kernel_rfl
@[simp] theorem strB_23 : strB Try.prog 23 = false := by kernel_rfl
@[simp] theorem boolB_23 : boolB Try.prog 23 = false := by kernel_rfl
@[simp] theorem intB_23 : intB Try.prog 23 = some .i64 := by kernel_rfl
@[simp] theorem aggB_31 : aggB Try.prog 31 = some false := by kernel_rfl
@[simp] theorem szOf_31 : szOf Try.prog 31 = some 1 := by kernel_rfl
@[simp] theorem byOf_31 : byOf Try.prog 31 = some 24 := by kernel_rfl
@[simp] theorem zeroOf_31 : zeroOf Try.prog 31 = some [.sl 0 []] := by kernel_rfl
@[simp] theorem zero1_31 : zero1 Try.prog 31 = some (.sl 0 []) := by kernel_rfl
@[simp] theorem elOf_31 : elOf Try.prog 31 = some 3 := by kernel_rfl
@[simp] theorem strB_31 : strB Try.prog 31 = false := by kernel_rfl
@[simp] theorem boolB_31 : boolB Try.prog 31 = false := by kernel_rfl
@[simp] theorem intB_31 : intB Try.prog 31 = none := by kernel_rfl
@[simp] theorem aggB_46 : aggB Try.prog 46 = some false := by kernel_rfl
@[simp] theorem szOf_46 : szOf Try.prog 46 = some 1 := by kernel_rfl
@[simp] theorem byOf_46 : byOf Try.prog 46 = some 8 := by kernel_rfl
@[simp] theorem zeroOf_46 : zeroOf Try.prog 46 = some [.nilp] := by kernel_rfl
@[simp] theorem zero1_46 : zero1 Try.prog 46 = some (.nilp) := by kernel_rfl
@[simp] theorem elOf_46 : elOf Try.prog 46 = none := by kernel_rfl
@[simp] theorem strB_46 : strB Try.prog 46 = false := by kernel_rfl
@[simp] theorem boolB_46 : boolB Try.prog 46 = false := by kernel_rfl
@[simp] theorem intB_46 : intB Try.prog 46 = none := by kernel_rfl
@[simp] theorem aggB_59 : aggB Try.prog 59 = some false := by kernel_rfl
@[simp] theorem szOf_59 : szOf Try.prog 59 = some 1 := by kernel_rfl
@[simp] theorem byOf_59 : byOf Try.prog 59 = some 8 := by kernel_rfl
@[simp] theorem mpTy_59 : mpTy Try.prog 59 = some (3, 3) := by kernel_rfl
@[simp] theorem elOf_59 : elOf Try.prog 59 = none := by kernel_rfl
@[simp] theorem strB_59 : strB Try.prog 59 = false := by kernel_rfl
@[simp] theorem boolB_59 : boolB Try.prog 59 = false := by kernel_rfl
@[simp] theorem intB_59 : intB Try.prog 59 = none := by kernel_rfl
@[simp] theorem aggB_60 : aggB Try.prog 60 = some false := by kernel_rfl
@[simp] theorem szOf_60 : szOf Try.prog 60 = some 1 := by kernel_rfl
@[simp] theorem byOf_60 : byOf Try.prog 60 = some 24 := by kernel_rfl
@[simp] theorem zeroOf_60 : zeroOf Try.prog 60 = some [.sl 0 []] := by kernel_rfl
@[simp] theorem zero1_60 : zero1 Try.prog 60 = some (.sl 0 []) := by kernel_rfl
@[simp] theorem elOf_60 : elOf Try.prog 60 = some 4 := by kernel_rfl
@[simp] theorem strB_60 : strB Try.prog 60 = false := by kernel_rfl
@[simp] theorem boolB_60 : boolB Try.prog 60 = false := by kernel_rfl
@[simp] theorem intB_60 : intB Try.prog 60 = none := by kernel_rfl
@[simp] theorem aggB_79 : aggB Try.prog 79 = some true := by kernel_rfl
@[simp] theorem szOf_79 : szOf Try.prog 79 = some 2 := by kernel_rfl
@[simp] theorem byOf_79 : byOf Try.prog 79 = some 32 := by kernel_rfl
@[simp] theorem zeroOf_79 : zeroOf Try.prog 79 = some [.sl 0 [], .int .i64 0] := by kernel_rfl
@[simp] theorem elOf_79 : elOf Try.prog 79 = none := by kernel_rfl
@[simp] theorem strB_79 : strB Try.prog 79 = false := by kernel_rfl
@[simp] theorem boolB_79 : boolB Try.prog 79 = false := by kernel_rfl
@[simp] theorem intB_79 : intB Try.prog 79 = none := by kernel_rfl
@[simp] theorem fldOf_79_0 : fldOf Try.prog 79 0 = some (0, 1, false) := by kernel_rfl
@[simp] theorem fldOf_79_1 : fldOf Try.prog 79 1 = some (1, 1, false) := by kernel_rfl
@[simp] theorem plOf_79 : plOf Try.prog 79 = some (fun i => [(0, 1), (1, 1)][i]?) := by kernel_rfl
@[simp] theorem aggB_80 : aggB Try.prog 80 = some true := by kernel_rfl
@[simp] theorem szOf_80 : szOf Try.prog 80 = some 2 := by kernel_rfl
@[simp] theorem byOf_80 : byOf Try.prog 80 = some 32 := by kernel_rfl
@[simp] theorem zeroOf_80 : zeroOf Try.prog 80 = some [.sl 0 [], .int .i64 0] := by kernel_rfl
@[simp] theorem elOf_80 : elOf Try.prog 80 = none := by kernel_rfl
@[simp] theorem strB_80 : strB Try.prog 80 = false := by kernel_rfl
@[simp] theorem boolB_80 : boolB Try.prog 80 = false := by kernel_rfl
@[simp] theorem intB_80 : intB Try.prog 80 = none := by kernel_rfl
@[simp] theorem fldOf_80_0 : fldOf Try.prog 80 0 = some (0, 1, false) := by kernel_rfl
@[simp] theorem fldOf_80_1 : fldOf Try.prog 80 1 = some (1, 1, false) := by kernel_rfl
@[simp] theorem plOf_80 : plOf Try.prog 80 = some (fun i => [(0, 1), (1, 1)][i]?) := by kernel_rfl
@[simp] theorem aggB_81 : aggB Try.prog 81 = some false := by kernel_rfl
@[simp] theorem szOf_81 : szOf Try.prog 81 = some 1 := by kernel_rfl
@[simp] theorem byOf_81 : byOf Try.prog 81 = some 24 := by kernel_rfl
@[simp] theorem zeroOf_81 : zeroOf Try.prog 81 = some [.sl 0 []] := by kernel_rfl
@[simp] theorem zero1_81 : zero1 Try.prog 81 = some (.sl 0 []) := by kernel_rfl
@[simp] theorem elOf_81 : elOf Try.prog 81 = some 9 := by kernel_rfl
@[simp] theorem strB_81 : strB Try.prog 81 = false := by kernel_rfl
@[simp] theorem boolB_81 : boolB Try.prog 81 = false := by kernel_rfl
@[simp] theorem intB_81 : intB Try.prog 81 = none := by kernel_rfl
@[simp] theorem aggB_82 : aggB Try.prog 82 = some true := by kernel_rfl
@[simp] theorem szOf_82 : szOf Try.prog 82 = some 6 := by kernel_rfl
@[simp] theorem byOf_82 : byOf Try.prog 82 = some 128 := by kernel_rfl
@[simp] theorem zeroOf_82 : zeroOf Try.prog 82 = some [.int .i64 0, .sl 0 [], .sl 0 [], .sl 0 [], .sl 0 [], .sl 0 []] := by kernel_rfl
@[simp] theorem elOf_82 : elOf Try.prog 82 = none := by kernel_rfl
@[simp] theorem strB_82 : strB Try.prog 82 = false := by kernel_rfl
@[simp] theorem boolB_82 : boolB Try.prog 82 = false := by kernel_rfl
@[simp] theorem intB_82 : intB Try.prog 82 = none := by kernel_rfl
@[simp] theorem fldOf_82_0 : fldOf Try.prog 82 0 = some (0, 1, false) := by kernel_rfl
@[simp] theorem fldOf_82_1 : fldOf Try.prog 82 1 = some (1, 1, false) := by kernel_rfl
@[simp] theorem fldOf_82_2 : fldOf Try.prog 82 2 = some (2, 1, false) := by kernel_rfl
@[simp] theorem fldOf_82_3 : fldOf Try.prog 82 3 = some (3, 1, false) := by kernel_rfl
@[simp] theorem fldOf_82_4 : fldOf Try.prog 82 4 = some (4, 1, false) := by kernel_rfl
@[simp] theorem fldOf_82_5 : fldOf Try.prog 82 5 = some (5, 1, false) := by kernel_rfl
@[simp] theorem plOf_82 : plOf Try.prog 82 = some (fun i => [(0, 1), (1, 1), (2, 1), (3, 1), (4, 1), (5, 1)][i]?) := by kernel_rfl
@[simp] theorem aggB_83 : aggB Try.prog 83 = some true := by kernel_rfl
@[simp] theorem szOf_83 : szOf Try.prog 83 = some 6 := by kernel_rfl
@[simp] theorem byOf_83 : byOf Try.prog 83 = some 128 := by kernel_rfl
@[simp] theorem zeroOf_83 : zeroOf Try.prog 83 = some [.int .i64 0, .sl 0 [], .sl 0 [], .sl 0 [], .sl 0 [], .sl 0 []] := by kernel_rfl
@[simp] theorem elOf_83 : elOf Try.prog 83 = none := by kernel_rfl
@[simp] theorem strB_83 : strB Try.prog 83 = false := by kernel_rfl
@[simp] theorem boolB_83 : boolB Try.prog 83 = false := by kernel_rfl
@[simp] theorem intB_83 : intB Try.prog 83 = none := by kernel_rfl
@[simp] theorem fldOf_83_0 : fldOf Try.prog 83 0 = some (0, 1, false) := by kernel_rfl
@[simp] theorem fldOf_83_1 : fldOf Try.prog 83 1 = some (1, 1, false) := by kernel_rfl
@[simp] theorem fldOf_83_2 : fldOf Try.prog 83 2 = some (2, 1, false) := by kernel_rfl
@[simp] theorem fldOf_83_3 : fldOf Try.prog 83 3 = some (3, 1, false) := by kernel_rfl
@[simp] theorem fldOf_83_4 : fldOf Try.prog 83 4 = some (4, 1, false) := by kernel_rfl
@[simp] theorem fldOf_83_5 : fldOf Try.prog 83 5 = some (5, 1, false) := by kernel_rfl
@[simp] theorem plOf_83 : plOf Try.prog 83 = some (fun i => [(0, 1), (1, 1), (2, 1), (3, 1), (4, 1), (5, 1)][i]?) := by kernel_rfl
@[simp] theorem aggB_86 : aggB Try.prog 86 = some true := by kernel_rfl
@[simp] theorem szOf_86 : szOf Try.prog 86 = some 4 := by kernel_rfl
@[simp] theorem byOf_86 : byOf Try.prog 86 = some 64 := by kernel_rfl
@[simp] theorem zeroOf_86 : zeroOf Try.prog 86 = some [.int .i64 0, .int .i64 0, .sl 0 [], .sl 0 []] := by kernel_rfl
@[simp] theorem elOf_86 : elOf Try.prog 86 = none := by kernel_rfl
@[simp] theorem strB_86 : strB Try.prog 86 = false := by kernel_rfl
@[simp] theorem boolB_86 : boolB Try.prog 86 = false := by kernel_rfl
@[simp] theorem intB_86 : intB Try.prog 86 = none := by kernel_rfl
@[simp] theorem fldOf_86_0 : fldOf Try.prog 86 0 = some (0, 1, false) := by kernel_rfl
@[simp] theorem fldOf_86_1 : fldOf Try.prog 86 1 = some (1, 1, false) := by kernel_rfl
@[simp] theorem fldOf_86_2 : fldOf Try.prog 86 2 = some (2, 1, false) := by kernel_rfl
@[simp] theorem fldOf_86_3 : fldOf Try.prog 86 3 = some (3, 1, false) := by kernel_rfl
@[simp] theorem plOf_86 : plOf Try.prog 86 = some (fun i => [(0, 1), (1, 1), (2, 1), (3, 1)][i]?) := by kernel_rfl
@[simp] theorem aggB_87 : aggB Try.prog 87 = some true := by kernel_rfl
@[simp] theorem szOf_87 : szOf Try.prog 87 = some 4 := by kernel_rfl
@[simp] theorem byOf_87 : byOf Try.prog 87 = some 64 := by kernel_rfl
@[simp] theorem zeroOf_87 : zeroOf Try.prog 87 = some [.int .i64 0, .int .i64 0, .sl 0 [], .sl 0 []] := by kernel_rfl
@[simp] theorem elOf_87 : elOf Try.prog 87 = none := by kernel_rfl
@[simp] theorem strB_87 : strB Try.prog 87 = false := by kernel_rfl
@[simp] theorem boolB_87 : boolB Try.prog 87 = false := by kernel_rfl
@[simp] theorem intB_87 : intB Try.prog 87 = none := by kernel_rfl
@[simp] theorem fldOf_87_0 : fldOf Try.prog 87 0 = some (0, 1, false) := by kernel_rfl
@[simp] theorem fldOf_87_1 : fldOf Try.prog 87 1 = some (1, 1, false) := by kernel_rfl
@[simp] theorem fldOf_87_2 : fldOf Try.prog 87 2 = some (2, 1, false) := by kernel_rfl
@[simp] theorem fldOf_87_3 : fldOf Try.prog 87 3 = some (3, 1, false) := by kernel_rfl
@[simp] theorem plOf_87 : plOf Try.prog 87 = some (fun i => [(0, 1), (1, 1), (2, 1), (3, 1)][i]?) := by kernel_rfl
@[simp] theorem aggB_90 : aggB Try.prog 90 = some false := by kernel_rfl
@[simp] theorem szOf_90 : szOf Try.prog 90 = some 1 := by kernel_rfl
@[simp] theorem byOf_90 : byOf Try.prog 90 = some 8 := by kernel_rfl
@[simp] theorem zeroOf_90 : zeroOf Try.prog 90 = some [.nilp] := by kernel_rfl
@[simp] theorem zero1_90 : zero1 Try.prog 90 = some (.nilp) := by kernel_rfl
@[simp] theorem elOf_90 : elOf Try.prog 90 = none := by kernel_rfl
@[simp] theorem strB_90 : strB Try.prog 90 = false := by kernel_rfl
@[simp] theorem boolB_90 : boolB Try.prog 90 = false := by kernel_rfl
@[simp] theorem intB_90 : intB Try.prog 90 = none := by kernel_rfl
@[simp] theorem aggB_92 : aggB Try.prog 92 = some false := by kernel_rfl
@[simp] theorem szOf_92 : szOf Try.prog 92 = some 1 := by kernel_rfl
@[simp] theorem byOf_92 : byOf Try.prog 92 = some 24 := by kernel_rfl
@[simp] theorem zeroOf_92 : zeroOf Try.prog 92 = some [.sl 0 []] := by kernel_rfl
@[simp] theorem zero1_92 : zero1 Try.prog 92 = some (.sl 0 []) := by kernel_rfl
@[simp] theorem elOf_92 : elOf Try.prog 92 = some 97 := by kernel_rfl
@[simp] theorem strB_92 : strB Try.prog 92 = false := by kernel_rfl
@[simp] theorem boolB_92 : boolB Try.prog 92 = false := by kernel_rfl
@[simp] theorem intB_92 : intB Try.prog 92 = none := by kernel_rfl
@[simp] theorem aggB_93 : aggB Try.prog 93 = some true := by kernel_rfl
@[simp] theorem szOf_93 : szOf Try.prog 93 = some 5 := by kernel_rfl
@[simp] theorem byOf_93 : byOf Try.prog 93 = some 120 := by kernel_rfl
@[simp] theorem zeroOf_93 : zeroOf Try.prog 93 = some [.sl 0 [], .sl 0 [], .sl 0 [], .sl 0 [], .sl 0 []] := by kernel_rfl
@[simp] theorem elOf_93 : elOf Try.prog 93 = none := by kernel_rfl
@[simp] theorem strB_93 : strB Try.prog 93 = false := by kernel_rfl
@[simp] theorem boolB_93 : boolB Try.prog 93 = false := by kernel_rfl
@[simp] theorem intB_93 : intB Try.prog 93 = none := by kernel_rfl
@[simp] theorem fldOf_93_0 : fldOf Try.prog 93 0 = some (0, 1, false) := by kernel_rfl
@[simp] theorem fldOf_93_1 : fldOf Try.prog 93 1 = some (1, 1, false) := by kernel_rfl
@[simp] theorem fldOf_93_2 : fldOf Try.prog 93 2 = some (2, 1, false) := by kernel_rfl
@[simp] theorem fldOf_93_3 : fldOf Try.prog 93 3 = some (3, 1, false) := by kernel_rfl
@[simp] theorem fldOf_93_4 : fldOf Try.prog 93 4 = some (4, 1, false) := by kernel_rfl
@[simp] theorem plOf_93 : plOf Try.prog 93 = some (fun i => [(0, 1), (1, 1), (2, 1), (3, 1), (4, 1)][i]?) := by kernel_rfl
@[simp] theorem aggB_94 : aggB Try.prog 94 = some true := by kernel_rfl
@[simp] theorem szOf_94 : szOf Try.prog 94 = some 5 := by kernel_rfl
@[simp] theorem byOf_94 : byOf Try.prog 94 = some 120 := by kernel_rfl
@[simp] theorem zeroOf_94 : zeroOf Try.prog 94 = some [.sl 0 [], .sl 0 [], .sl 0 [], .sl 0 [], .sl 0 []] := by kernel_rfl
@[simp] theorem elOf_94 : elOf Try.prog 94 = none := by kernel_rfl
@[simp] theorem strB_94 : strB Try.prog 94 = false := by kernel_rfl
@[simp] theorem boolB_94 : boolB Try.prog 94 = false := by kernel_rfl
@[simp] theorem intB_94 : intB Try.prog 94 = none := by kernel_rfl
@[simp] theorem fldOf_94_0 : fldOf Try.prog 94 0 = some (0, 1, false) := by kernel_rfl
@[simp] theorem fldOf_94_1 : fldOf Try.prog 94 1 = some (1, 1, false) := by kernel_rfl
@[simp] theorem fldOf_94_2 : fldOf Try.prog 94 2 = some (2, 1, false) := by kernel_rfl
@[simp] theorem fldOf_94_3 : fldOf Try.prog 94 3 = some (3, 1, false) := by kernel_rfl
@[simp] theorem fldOf_94_4 : fldOf Try.prog 94 4 = some (4, 1, false) := by kernel_rfl
@[simp] theorem plOf_94 : plOf Try.prog 94 = some (fun i => [(0, 1), (1, 1), (2, 1), (3, 1), (4, 1)][i]?) := by kernel_rfl
@[simp] theorem aggB_97 : aggB Try.prog 97 = some true := by kernel_rfl
@[simp] theorem szOf_97 : szOf Try.prog 97 = some 2 := by kernel_rfl
@[simp] theorem byOf_97 : byOf Try.prog 97 = some 16 := by kernel_rfl
@[simp] theorem zeroOf_97 : zeroOf Try.prog 97 = some [.int .i64 0, .int .i64 0] := by kernel_rfl
@[simp] theorem elOf_97 : elOf Try.prog 97 = none := by kernel_rfl
@[simp] theorem strB_97 : strB Try.prog 97 = false := by kernel_rfl
@[simp] theorem boolB_97 : boolB Try.prog 97 = false := by kernel_rfl
@[simp] theorem intB_97 : intB Try.prog 97 = none := by kernel_rfl
@[simp] theorem arOf_97 : arOf Try.prog 97 = some (2, 3) := by kernel_rfl
@[simp] theorem plOf_97 : plOf Try.prog 97 = some (fun i => some (i * 1, 1)) := by kernel_rfl
@[simp] theorem aggB_100 : aggB Try.prog 100 = some false := by kernel_rfl
@[simp] theorem szOf_100 : szOf Try.prog 100 = some 1 := by kernel_rfl
@[simp] theorem byOf_100 : byOf Try.prog 100 = some 8 := by kernel_rfl
@[simp] theorem zeroOf_100 : zeroOf Try.prog 100 = some [.nilp] := by kernel_rfl
@[simp] theorem zero1_100 : zero1 Try.prog 100 = some (.nilp) := by kernel_rfl
@[simp] theorem elOf_100 : elOf Try.prog 100 = none := by kernel_rfl
@[simp] theorem strB_100 : strB Try.prog 100 = false := by kernel_rfl
@[simp] theorem boolB_100 : boolB Try.prog 100 = false := by kernel_rfl
@[simp] theorem intB_100 : intB Try.prog 100 = none := by kernel_rfl
@[simp] theorem aggB_103 : aggB Try.prog 103 = some true := by kernel_rfl
@[simp] theorem szOf_103 : szOf Try.prog 103 = some 4 := by kernel_rfl
@[simp] theorem byOf_103 : byOf Try.prog 103 = some 96 := by kernel_rfl
@[simp] theorem zeroOf_103 : zeroOf Try.prog 103 = some [.sl 0 [], .sl 0 [], .sl 0 [], .sl 0 []] := by kernel_rfl
@[simp] theorem elOf_103 : elOf Try.prog 103 = none := by kernel_rfl
@[simp] theorem strB_103 : strB Try.prog 103 = false := by kernel_rfl
@[simp] theorem boolB_103 : boolB Try.prog 103 = false := by kernel_rfl
@[simp] theorem intB_103 : intB Try.prog 103 = none := by kernel_rfl
@[simp] theorem fldOf_103_0 : fldOf Try.prog 103 0 = some (0, 1, false) := by kernel_rfl
@[simp] theorem fldOf_103_1 : fldOf Try.prog 103 1 = some (1, 1, false) := by kernel_rfl
@[simp] theorem fldOf_103_2 : fldOf Try.prog 103 2 = some (2, 1, false) := by kernel_rfl
@[simp] theorem fldOf_103_3 : fldOf Try.prog 103 3 = some (3, 1, false) := by kernel_rfl
@[simp] theorem plOf_103 : plOf Try.prog 103 = some (fun i => [(0, 1), (1, 1), (2, 1), (3, 1)][i]?) := by kernel_rfl
@[simp] theorem aggB_104 : aggB Try.prog 104 = some true := by kernel_rfl
@[simp] theorem szOf_104 : szOf Try.prog 104 = some 4 := by kernel_rfl
@[simp] theorem byOf_104 : byOf Try.prog 104 = some 96 := by kernel_rfl
@[simp] theorem zeroOf_104 : zeroOf Try.prog 104 = some [.sl 0 [], .sl 0 [], .sl 0 [], .sl 0 []] := by kernel_rfl
@[simp] theorem elOf_104 : elOf Try.prog 104 = none := by kernel_rfl
@[simp] theorem strB_104 : strB Try.prog 104 = false := by kernel_rfl
@[simp] theorem boolB_104 : boolB Try.prog 104 = false := by kernel_rfl
@[simp] theorem intB_104 : intB Try.prog 104 = none := by kernel_rfl
@[simp] theorem fldOf_104_0 : fldOf Try.prog 104 0 = some (0, 1, false) := by kernel_rfl
@[simp] theorem fldOf_104_1 : fldOf Try.prog 104 1 = some (1, 1, false) := by kernel_rfl
@[simp] theorem fldOf_104_2 : fldOf Try.prog 104 2 = some (2, 1, false) := by kernel_rfl
@[simp] theorem fldOf_104_3 : fldOf Try.prog 104 3 = some (3, 1, false) := by kernel_rfl
@[simp] theorem plOf_104 : plOf Try.prog 104 = some (fun i => [(0, 1), (1, 1), (2, 1), (3, 1)][i]?) := by kernel_rfl
@[simp] theorem aggB_109 : aggB Try.prog 109 = some true := by kernel_rfl
@[simp] theorem szOf_109 : szOf Try.prog 109 = some 5 := by kernel_rfl
@[simp] theorem byOf_109 : byOf Try.prog 109 = some 88 := by kernel_rfl
@[simp] theorem zeroOf_109 : zeroOf Try.prog 109 = some [.sl 0 [], .sl 0 [], .bool false, .int .i64 0, .sl 0 []] := by kernel_rfl
@[simp] theorem elOf_109 : elOf Try.prog 109 = none := by kernel_rfl
@[simp] theorem strB_109 : strB Try.prog 109 = false := by kernel_rfl
@[simp] theorem boolB_109 : boolB Try.prog 109 = false := by kernel_rfl
@[simp] theorem intB_109 : intB Try.prog 109 = none := by kernel_rfl
@[simp] theorem fldOf_109_0 : fldOf Try.prog 109 0 = some (0, 1, false) := by kernel_rfl
@[simp] theorem fldOf_109_1 : fldOf Try.prog 109 1 = some (1, 1, false) := by kernel_rfl
@[simp] theorem fldOf_109_2 : fldOf Try.prog 109 2 = some (2, 1, false) := by kernel_rfl
@[simp] theorem fldOf_109_3 : fldOf Try.prog 109 3 = some (3, 1, false) := by kernel_rfl
@[simp] theorem fldOf_109_4 : fldOf Try.prog 109 4 = some (4, 1, false) := by kernel_rfl
@[simp] theorem plOf_109 : plOf Try.prog 109 = some (fun i => [(0, 1), (1, 1), (2, 1), (3, 1), (4, 1)][i]?) := by kernel_rfl
@[simp] theorem aggB_110 : aggB Try.prog 110 = some true := by kernel_rfl
@[simp] theorem szOf_110 : szOf Try.prog 110 = some 5 := by kernel_rfl
@[simp] theorem byOf_110 : byOf Try.prog 110 = some 88 := by kernel_rfl
@[simp] theorem zeroOf_110 : zeroOf Try.prog 110 = some [.sl 0 [], .sl 0 [], .bool false, .int .i64 0, .sl 0 []] := by kernel_rfl
@[simp] theorem elOf_110 : elOf Try.prog 110 = none := by kernel_rfl
@[simp] theorem strB_110 : strB Try.prog 110 = false := by kernel_rfl
@[simp] theorem boolB_110 : boolB Try.prog 110 = false := by kernel_rfl
@[simp] theorem intB_110 : intB Try.prog 110 = none := by kernel_rfl
@[simp] theorem fldOf_110_0 : fldOf Try.prog 110 0 = some (0, 1, false) := by kernel_rfl
@[simp] theorem fldOf_110_1 : fldOf Try.prog 110 1 = some (1, 1, false) := by kernel_rfl
@[simp] theorem fldOf_110_2 : fldOf Try.prog 110 2 = some (2, 1, false) := by kernel_rfl
@[simp] theorem fldOf_110_3 : fldOf Try.prog 110 3 = some (3, 1, false) := by kernel_rfl
@[simp] theorem fldOf_110_4 : fldOf Try.prog 110 4 = some (4, 1, false) := by kernel_rfl
@[simp] theorem plOf_110 : plOf Try.prog 110 = some (fun i => [(0, 1), (1, 1), (2, 1), (3, 1), (4, 1)][i]?) := by kernel_rfl
@[simp] theorem aggB_111 : aggB Try.prog 111 = some true := by kernel_rfl
@[simp] theorem szOf_111 : szOf Try.prog 111 = some 8 := by kernel_rfl
@[simp] theorem byOf_111 : byOf Try.prog 111 = some 64 := by kernel_rfl
@[simp] theorem zeroOf_111 : zeroOf Try.prog 111 = some [.int .i64 0, .int .i64 0, .int .i64 0, .int .i64 0, .int .i64 0, .int .i64 0, .int .i64 0, .int .i64 0] := by kernel_rfl
@[simp] theorem elOf_111 : elOf Try.prog 111 = none := by kernel_rfl
@[simp] theorem strB_111 : strB Try.prog 111 = false := by kernel_rfl
@[simp] theorem boolB_111 : boolB Try.prog 111 = false := by kernel_rfl
@[simp] theorem intB_111 : intB Try.prog 111 = none := by kernel_rfl
@[simp] theorem arOf_111 : arOf Try.prog 111 = some (8, 3) := by kernel_rfl
@[simp] theorem plOf_111 : plOf Try.prog 111 = some (fun i => some (i * 1, 1)) := by kernel_rfl
@[simp] theorem aggB_112 : aggB Try.prog 112 = some true := by kernel_rfl
@[simp] theorem szOf_112 : szOf Try.prog 112 = some 8 := by kernel_rfl
@[simp] theorem byOf_112 : byOf Try.prog 112 = some 64 := by kernel_rfl
@[simp] theorem zeroOf_112 : zeroOf Try.prog 112 = some [.int .i64 0, .int .i64 0, .int .i64 0, .int .i64 0, .int .i64 0, .int .i64 0, .int .i64 0, .int .i64 0] := by kernel_rfl
@[simp] theorem elOf_112 : elOf Try.prog 112 = none := by kernel_rfl
@[simp] theorem strB_112 : strB Try.prog 112 = false := by kernel_rfl
@[simp] theorem boolB_112 : boolB Try.prog 112 = false := by kernel_rfl
@[simp] theorem intB_112 : intB Try.prog 112 = none := by kernel_rfl
@[simp] theorem arOf_112 : arOf Try.prog 112 = some (8, 3) := by kernel_rfl
@[simp] theorem plOf_112 : plOf Try.prog 112 = some (fun i => some (i * 1, 1)) := by kernel_rfl
@[simp] theorem aggB_119 : aggB Try.prog 119 = some false := by kernel_rfl
@[simp] theorem szOf_119 : szOf Try.prog 119 = some 1 := by kernel_rfl
@[simp] theorem byOf_119 : byOf Try.prog 119 = some 8 := by kernel_rfl
@[simp] theorem zeroOf_119 : zeroOf Try.prog 119 = some [.nilp] := by kernel_rfl
@[simp] theorem zero1_119 : zero1 Try.prog 119 = some (.nilp) := by kernel_rfl
@[simp] theorem elOf_119 : elOf Try.prog 119 = none := by kernel_rfl
@[simp] theorem strB_119 : strB Try.prog 119 = false := by kernel_rfl
@[simp] theorem boolB_119 : boolB Try.prog 119 = false := by kernel_rfl
@[simp] theorem intB_119 : intB Try.prog 119 = none := by kernel_rfl
@[simp] theorem aggB_126 : aggB Try.prog 126 = some false := by kernel_rfl
@[simp] theorem szOf_126 : szOf Try.prog 126 = some 1 := by kernel_rfl
@[simp] theorem byOf_126 : byOf Try.prog 126 = some 24 := by kernel_rfl
@[simp] theorem zeroOf_126 : zeroOf Try.prog 126 = some [.sl 0 []] := by kernel_rfl
@[simp] theorem zero1_126 : zero1 Try.prog 126 = some (.sl 0 []) := by kernel_rfl
@[simp] theorem elOf_126 : elOf Try.prog 126 = some 143 := by kernel_rfl
@[simp] theorem strB_126 : strB Try.prog 126 = false := by kernel_rfl
@[simp] theorem boolB_126 : boolB Try.prog 126 = false := by kernel_rfl
@[simp] theorem intB_126 : intB Try.prog 126 = none := by kernel_rfl
@[simp] theorem aggB_127 : aggB Try.prog 127 = some true := by kernel_rfl
@[simp] theorem szOf_127 : szOf Try.prog 127 = some 9 := by kernel_rfl
@[simp] theorem byOf_127 : byOf Try.prog 127 = some 168 := by kernel_rfl
@[simp] theorem zeroOf_127 : zeroOf Try.prog 127 = some [.int .i64 0, .bool false, .sl 0 [], .sl 0 [], .sl 0 [], .sl 0 [], .sl 0 [], .sl 0 [], .int .i64 0] := by kernel_rfl
@[simp] theorem elOf_127 : elOf Try.prog 127 = none := by kernel_rfl
@[simp] theorem strB_127 : strB Try.prog 127 = false := by kernel_rfl
@[simp] theorem boolB_127 : boolB Try.prog 127 = false := by kernel_rfl
@[simp] theorem intB_127 : intB Try.prog 127 = none := by kernel_rfl
@[simp] theorem fldOf_127_0 : fldOf Try.prog 127 0 = some (0, 1, false) := by kernel_rfl
@[simp] theorem fldOf_127_1 : fldOf Try.prog 127 1 = some (1, 1, false) := by kernel_rfl
@[simp] theorem fldOf_127_2 : fldOf Try.prog 127 2 = some (2, 1, false) := by kernel_rfl
@[simp] theorem fldOf_127_3 : fldOf Try.prog 127 3 = some (3, 1, false) := by kernel_rfl
@[simp] theorem fldOf_127_4 : fldOf Try.prog 127 4 = some (4, 1, false) := by kernel_rfl
@[simp] theorem fldOf_127_5 : fldOf Try.prog 127 5 = some (5, 1, false) := by kernel_rfl
@[simp] theorem fldOf_127_6 : fldOf Try.prog 127 6 = some (6, 1, false) := by kernel_rfl
@[simp] theorem fldOf_127_7 : fldOf Try.prog 127 7 = some (7, 1, false) := by kernel_rfl
@[simp] theorem fldOf_127_8 : fldOf Try.prog 127 8 = some (8, 1, false) := by kernel_rfl
@[simp] theorem plOf_127 : plOf Try.prog 127 = some (fun i => [(0, 1), (1, 1), (2, 1), (3, 1), (4, 1), (5, 1), (6, 1), (7, 1), (8, 1)][i]?) := by kernel_rfl
@[simp] theorem aggB_128 : aggB Try.prog 128 = some true := by kernel_rfl
@[simp] theorem szOf_128 : szOf Try.prog 128 = some 9 := by kernel_rfl
@[simp] theorem byOf_128 : byOf Try.prog 128 = some 168 := by kernel_rfl
@[simp] theorem zeroOf_128 : zeroOf Try.prog 128 = some [.int .i64 0, .bool false, .sl 0 [], .sl 0 [], .sl 0 [], .sl 0 [], .sl 0 [], .sl 0 [], .int .i64 0] := by kernel_rfl
@[simp] theorem elOf_128 : elOf Try.prog 128 = none := by kernel_rfl
@[simp] theorem strB_128 : strB Try.prog 128 = false := by kernel_rfl
@[simp] theorem boolB_128 : boolB Try.prog 128 = false := by kernel_rfl
@[simp] theorem intB_128 : intB Try.prog 128 = none := by kernel_rfl
@[simp] theorem fldOf_128_0 : fldOf Try.prog 128 0 = some (0, 1, false) := by kernel_rfl
@[simp] theorem fldOf_128_1 : fldOf Try.prog 128 1 = some (1, 1, false) := by kernel_rfl
@[simp] theorem fldOf_128_2 : fldOf Try.prog 128 2 = some (2, 1, false) := by kernel_rfl
@[simp] theorem fldOf_128_3 : fldOf Try.prog 128 3 = some (3, 1, false) := by kernel_rfl
@[simp] theorem fldOf_128_4 : fldOf Try.prog 128 4 = some (4, 1, false) := by kernel_rfl
@[simp] theorem fldOf_128_5 : fldOf Try.prog 128 5 = some (5, 1, false) := by kernel_rfl
@[simp] theorem fldOf_128_6 : fldOf Try.prog 128 6 = some (6, 1, false) := by kernel_rfl
@[simp] theorem fldOf_128_7 : fldOf Try.prog 128 7 = some (7, 1, false) := by kernel_rfl
@[simp] theorem fldOf_128_8 : fldOf Try.prog 128 8 = some (8, 1, false) := by kernel_rfl
@[simp] theorem plOf_128 : plOf Try.prog 128 = some (fun i => [(0, 1), (1, 1), (2, 1), (3, 1), (4, 1), (5, 1), (6, 1), (7, 1), (8, 1)][i]?) := by kernel_rfl
@[simp] theorem aggB_135 : aggB Try.prog 135 = some false := by kernel_rfl
@[simp] theorem szOf_135 : szOf Try.prog 135 = some 1 := by kernel_rfl
@[simp] theorem byOf_135 : byOf Try.prog 135 = some 24 := by kernel_rfl
@[simp] theorem zeroOf_135 : zeroOf Try.prog 135 = some [.sl 0 []] := by kernel_rfl
@[simp] theorem zero1_135 : zero1 Try.prog 135 = some (.sl 0 []) := by kernel_rfl
@[simp] theorem elOf_135 : elOf Try.prog 135 = some 5 := by kernel_rfl
@[simp] theorem strB_135 : strB Try.prog 135 = false := by kernel_rfl
@[simp] theorem boolB_135 : boolB Try.prog 135 = false := by kernel_rfl
@[simp] theorem intB_135 : intB Try.prog 135 = none := by kernel_rfl
@[simp] theorem aggB_136 : aggB Try.prog 136 = some true := by kernel_rfl
@[simp] theorem szOf_136 : szOf Try.prog 136 = some 4 := by kernel_rfl
@[simp] theorem byOf_136 : byOf Try.prog 136 = some 32 := by kernel_rfl
@[simp] theorem zeroOf_136 : zeroOf Try.prog 136 = some [.int .i64 0, .int .i64 0, .int .i64 0, .int .i64 0] := by kernel_rfl
@[simp] theorem elOf_136 : elOf Try.prog 136 = none := by kernel_rfl
@[simp] theorem strB_136 : strB Try.prog 136 = false := by kernel_rfl
@[simp] theorem boolB_136 : boolB Try.prog 136 = false := by kernel_rfl
@[simp] theorem intB_136 : intB Try.prog 136 = none := by kernel_rfl
@[simp] theorem arOf_136 : arOf Try.prog 136 = some (2, 97) := by kernel_rfl
@[simp] theorem plOf_136 : plOf Try.prog 136 = some (fun i => some (i * 2, 2)) := by kernel_rfl
@[simp] theorem aggB_142 : aggB Try.prog 142 = some true := by kernel_rfl
@[simp] theorem szOf_142 : szOf Try.prog 142 = some 2 := by kernel_rfl
@[simp] theorem byOf_142 : byOf Try.prog 142 = some 32 := by kernel_rfl
@[simp] theorem zeroOf_142 : zeroOf Try.prog 142 = some [.str ⟨#[]⟩, .str ⟨#[]⟩] := by kernel_rfl
@[simp] theorem elOf_142 : elOf Try.prog 142 = none := by kernel_rfl
@[simp] theorem strB_142 : strB Try.prog 142 = false := by kernel_rfl
@[simp] theorem boolB_142 : boolB Try.prog 142 = false := by kernel_rfl
@[simp] theorem intB_142 : intB Try.prog 142 = none := by kernel_rfl
@[simp] theorem fldOf_142_0 : fldOf Try.prog 142 0 = some (0, 1, false) := by kernel_rfl
@[simp] theorem fldOf_142_1 : fldOf Try.prog 142 1 = some (1, 1, false) := by kernel_rfl
@[simp] theorem plOf_142 : plOf Try.prog 142 = some (fun i => [(0, 1), (1, 1)][i]?) := by kernel_rfl
@[simp] theorem aggB_143 : aggB Try.prog 143 = some true := by kernel_rfl
@[simp] theorem szOf_143 : szOf Try.prog 143 = some 2 := by kernel_rfl
@[simp] theorem byOf_143 : byOf Try.prog 143 = some 32 := by kernel_rfl
@[simp] theorem zeroOf_143 : zeroOf Try.prog 143 = some [.str ⟨#[]⟩, .str ⟨#[]⟩] := by kernel_rfl
@[simp] theorem elOf_143 : elOf Try.prog 143 = none := by kernel_rfl
@[simp] theorem strB_143 : strB Try.prog 143 = false := by kernel_rfl
@[simp] theorem boolB_143 : boolB Try.prog 143 = false := by kernel_rfl
@[simp] theorem intB_143 : intB Try.prog 143 = none := by kernel_rfl
@[simp] theorem fldOf_143_0 : fldOf Try.prog 143 0 = some (0, 1, false) := by kernel_rfl
@[simp] theorem fldOf_143_1 : fldOf Try.prog 143 1 = some (1, 1, false) := by kernel_rfl
@[simp] theorem plOf_143 : plOf Try.prog 143 = some (fun i => [(0, 1), (1, 1)][i]?) := by kernel_rfl
@[simp] theorem aggB_144 : aggB Try.prog 144 = some false := by kernel_rfl
@[simp] theorem szOf_144 : szOf Try.prog 144 = some 1 := by kernel_rfl
@[simp] theorem byOf_144 : byOf Try.prog 144 = some 8 := by kernel_rfl
@[simp] theorem mpTy_144 : mpTy Try.prog 144 = some (9, 3) := by kernel_rfl
@[simp] theorem elOf_144 : elOf Try.prog 144 = none := by kernel_rfl
@[simp] theorem strB_144 : strB Try.prog 144 = false := by kernel_rfl
@[simp] theorem boolB_144 : boolB Try.prog 144 = false := by kernel_rfl
@[simp] theorem intB_144 : intB Try.prog 144 = none := by kernel_rfl
@[simp] theorem aggB_146 : aggB Try.prog 146 = some true := by kernel_rfl
@[simp] theorem szOf_146 : szOf Try.prog 146 = some 4 := by kernel_rfl
@[simp] theorem byOf_146 : byOf Try.prog 146 = some 40 := by kernel_rfl
@[simp] theorem zeroOf_146 : zeroOf Try.prog 146 = some [.nilp, .nilp, .nilp, .str ⟨#[]⟩] := by kernel_rfl
@[simp] theorem elOf_146 : elOf Try.prog 146 = none := by kernel_rfl
@[simp] theorem strB_146 : strB Try.prog 146 = false := by kernel_rfl
@[simp] theorem boolB_146 : boolB Try.prog 146 = false := by kernel_rfl
@[simp] theorem intB_146 : intB Try.prog 146 = none := by kernel_rfl
@[simp] theorem fldOf_146_0 : fldOf Try.prog 146 0 = some (0, 1, false) := by kernel_rfl
@[simp] theorem fldOf_146_1 : fldOf Try.prog 146 1 = some (1, 1, false) := by kernel_rfl
@[simp] theorem fldOf_146_2 : fldOf Try.prog 146 2 = some (2, 1, false) := by kernel_rfl
@[simp] theorem fldOf_146_3 : fldOf Try.prog 146 3 = some (3, 1, false) := by kernel_rfl
@[simp] theorem plOf_146 : plOf Try.prog 146 = some (fun i => [(0, 1), (1, 1), (2, 1), (3, 1)][i]?) := by kernel_rfl
@[simp] theorem aggB_148 : aggB Try.prog 148 = some true := by kernel_rfl
@[simp] theorem szOf_148 : szOf Try.prog 148 = some 0 := by kernel_rfl
@[simp] theorem byOf_148 : byOf Try.prog 148 = some 0 := by kernel_rfl
@[simp] theorem zeroOf_148 : zeroOf Try.prog 148 = some [] := by kernel_rfl
@[simp] theorem elOf_148 : elOf Try.prog 148 = none := by kernel_rfl
@[simp] theorem strB_148 : strB Try.prog 148 = false := by kernel_rfl
@[simp] theorem boolB_148 : boolB Try.prog 148 = false := by kernel_rfl
@[simp] theorem intB_148 : intB Try.prog 148 = none := by kernel_rfl
@[simp] theorem arOf_148 : arOf Try.prog 148 = some (0, 16) := by kernel_rfl
@[simp] theorem plOf_148 : plOf Try.prog 148 = some (fun i => some (i * 1, 1)) := by kernel_rfl
@[simp] theorem aggB_149 : aggB Try.prog 149 = some true := by kernel_rfl
@[simp] theorem szOf_149 : szOf Try.prog 149 = some 0 := by kernel_rfl
@[simp] theorem byOf_149 : byOf Try.prog 149 = some 0 := by kernel_rfl
@[simp] theorem zeroOf_149 : zeroOf Try.prog 149 = some [] := by kernel_rfl
@[simp] theorem elOf_149 : elOf Try.prog 149 = none := by kernel_rfl
@[simp] theorem strB_149 : strB Try.prog 149 = false := by kernel_rfl
@[simp] theorem boolB_149 : boolB Try.prog 149 = false := by kernel_rfl
@[simp] theorem intB_149 : intB Try.prog 149 = none := by kernel_rfl
@[simp] theorem fldOf_149_0 : fldOf Try.prog 149 0 = some (0, 0, true) := by kernel_rfl
@[simp] theorem plOf_149 : plOf Try.prog 149 = some (fun i => [(0, 0)][i]?) := by kernel_rfl
@[simp] theorem aggB_152 : aggB Try.prog 152 = some false := by kernel_rfl
@[simp] theorem szOf_152 : szOf Try.prog 152 = some 1 := by kernel_rfl
@[simp] theorem byOf_152 : byOf Try.prog 152 = some 4 := by kernel_rfl
@[simp] theorem zeroOf_152 : zeroOf Try.prog 152 = some [.int .u32 0] := by kernel_rfl
@[simp] theorem zero1_152 : zero1 Try.prog 152 = some (.int .u32 0) := by kernel_rfl
@[simp] theorem elOf_152 : elOf Try.prog 152 = none := by kernel_rfl
@[simp] theorem strB_152 : strB Try.prog 152 = false := by kernel_rfl
@[simp] theorem boolB_152 : boolB Try.prog 152 = false := by kernel_rfl
@[simp] theorem intB_152 : intB Try.prog 152 = some .u32 := by kernel_rfl
@[simp] theorem aggB_156 : aggB Try.prog 156 = some false := by kernel_rfl
@[simp] theorem szOf_156 : szOf Try.prog 156 = some 1 := by kernel_rfl
@[simp] theorem byOf_156 : byOf Try.prog 156 = some 8 := by kernel_rfl
@[simp] theorem zeroOf_156 : zeroOf Try.prog 156 = some [.nilp] := by kernel_rfl
@[simp] theorem zero1_156 : zero1 Try.prog 156 = some (.nilp) := by kernel_rfl
@[simp] theorem elOf_156 : elOf Try.prog 156 = none := by kernel_rfl
@[simp] theorem strB_156 : strB Try.prog 156 = false := by kernel_rfl
@[simp] theorem boolB_156 : boolB Try.prog 156 = false := by kernel_rfl
@[simp] theorem intB_156 : intB Try.prog 156 = none := by kernel_rfl
@[simp] theorem aggB_159 : aggB Try.prog 159 = some true := by kernel_rfl
@[simp] theorem szOf_159 : szOf Try.prog 159 = some 11 := by kernel_rfl
@[simp] theorem byOf_159 : byOf Try.prog 159 = some 48 := by kernel_rfl
@[simp] theorem elOf_159 : elOf Try.prog 159 = none := by kernel_rfl
@[simp] theorem strB_159 : strB Try.prog 159 = false := by kernel_rfl
@[simp] theorem boolB_159 : boolB Try.prog 159 = false := by kernel_rfl
@[simp] theorem intB_159 : intB Try.prog 159 = none := by kernel_rfl
@[simp] theorem fldOf_159_0 : fldOf Try.prog 159 0 = some (0, 1, false) := by kernel_rfl
@[simp] theorem fldOf_159_1 : fldOf Try.prog 159 1 = some (1, 1, false) := by kernel_rfl
@[simp] theorem fldOf_159_2 : fldOf Try.prog 159 2 = some (2, 1, false) := by kernel_rfl
@[simp] theorem fldOf_159_3 : fldOf Try.prog 159 3 = some (3, 1, false) := by kernel_rfl
@[simp] theorem fldOf_159_4 : fldOf Try.prog 159 4 = some (4, 1, false) := by kernel_rfl
@[simp] theorem fldOf_159_5 : fldOf Try.prog 159 5 = some (5, 1, false) := by kernel_rfl
@[simp] theorem fldOf_159_6 : fldOf Try.prog 159 6 = some (6, 1, false) := by kernel_rfl
@[simp] theorem fldOf_159_7 : fldOf Try.prog 159 7 = some (7, 1, false) := by kernel_rfl
@[simp] theorem fldOf_159_8 : fldOf Try.prog 159 8 = some (8, 1, false) := by kernel_rfl
@[simp] theorem fldOf_159_9 : fldOf Try.prog 159 9 = some (9, 1, false) := by kernel_rfl
@[simp] theorem fldOf_159_10 : fldOf Try.prog 159 10 = some (10, 1, false) := by kernel_rfl
@[simp] theorem plOf_159 : plOf Try.prog 159 = some (fun i => [(0, 1), (1, 1), (2, 1), (3, 1), (4, 1), (5, 1), (6, 1), (7, 1), (8, 1), (9, 1), (10, 1)][i]?) := by kernel_rfl
end Go.Proofs.Ytgghmjnbkbiffaa.M
