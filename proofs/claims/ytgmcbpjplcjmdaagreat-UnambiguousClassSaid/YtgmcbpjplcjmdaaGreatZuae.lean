/- Lemmas for the law unambiguousClass. No conditions. -/
import Derived.Test.YtgmcbpjplcjmdaaGreatProg
import Derived.Test.YtgmcbpjplcjmdaaGreatZuad
set_option linter.all false
namespace Go.Proofs.YtgmcbpjplcjmdaaGreat.M
open Go.RowKit

@[simp] theorem zWA:aggB Tryz.prog 3=some false/\zA6 Tryz.prog 3=some 1/\zGM Tryz.prog 3=some 8/\zeroOf Tryz.prog 3=some [.int .i64 0]/\zCH Tryz.prog 3=some (.int .i64 0)/\intB Tryz.prog 3=some .i64/\aggB Tryz.prog 4=some false/\zA6 Tryz.prog 4=some 1/\zGM Tryz.prog 4=some 1/\zeroOf Tryz.prog 4=some [.bool false]/\boolB Tryz.prog 4=true/\zA6 Tryz.prog 5=some 1/\zGM Tryz.prog 5=some 1/\zeroOf Tryz.prog 5=some [.int .u8 0]/\intB Tryz.prog 5=some .u8/\fldOf Tryz.prog 7 0=some (0,1,false)/\fldOf Tryz.prog 7 1=some (1,1,false)/\fldOf Tryz.prog 7 2=some (2,1,false)/\fldOf Tryz.prog 7 3=some (3,1,false)/\plOf Tryz.prog 7=some (fun i=>[(0,1),(1,1),(2,1),(3,1)][i]?)/\aggB Tryz.prog 9=some false/\zA6 Tryz.prog 9=some 1/\zGM Tryz.prog 9=some 16/\zeroOf Tryz.prog 9=some [.str ⟨#[]⟩]/\strB Tryz.prog 9=true:=by and_intros<;>kernel_rfl
@[simp] theorem zV9:intB Tryz.prog 9=none/\fldOf Tryz.prog 13 0=some (0,1,false)/\fldOf Tryz.prog 13 1=some (1,1,false)/\plOf Tryz.prog 13=some (fun i=>[(0,1),(1,1)][i]?)/\fldOf Tryz.prog 18 0=some (0,1,false)/\plOf Tryz.prog 18=some (fun i=>[(0,1)][i]?)/\intB Tryz.prog 21=some .i32/\aggB Tryz.prog 22=some false/\zA6 Tryz.prog 22=some 1/\zGM Tryz.prog 22=some 24/\zeroOf Tryz.prog 22=some [.sl 0 []]/\elOf Tryz.prog 22=some 3/\strB Tryz.prog 22=false/\aggB Tryz.prog 25=some false/\zA6 Tryz.prog 25=some 1/\elOf Tryz.prog 25=some 22/\aggB Tryz.prog 26=some false/\zA6 Tryz.prog 26=some 1/\zGM Tryz.prog 26=some 24/\zeroOf Tryz.prog 26=some [.sl 0 []]/\elOf Tryz.prog 26=some 9/\aggB Tryz.prog 27=some false/\zA6 Tryz.prog 27=some 1/\zGM Tryz.prog 27=some 24/\zeroOf Tryz.prog 27=some [.sl 0 []]:=by and_intros<;>kernel_rfl
@[simp] theorem zV2:elOf Tryz.prog 27=some 4/\fldOf Tryz.prog 28 0=some (0,1,false)/\fldOf Tryz.prog 28 1=some (1,1,false)/\fldOf Tryz.prog 28 2=some (2,1,false)/\fldOf Tryz.prog 28 3=some (3,1,false)/\fldOf Tryz.prog 28 4=some (4,1,false)/\fldOf Tryz.prog 28 5=some (5,1,false)/\plOf Tryz.prog 28=some (fun i=>[(0,1),(1,1),(2,1),(3,1),(4,1),(5,1)][i]?)/\aggB Tryz.prog 29=some true/\zA6 Tryz.prog 29=some 6/\zeroOf Tryz.prog 29=some [.int .i64 0,.sl 0 [],.sl 0 [],.sl 0 [],.sl 0 [],.sl 0 []]/\fldOf Tryz.prog 29 0=some (0,1,false)/\fldOf Tryz.prog 29 1=some (1,1,false)/\fldOf Tryz.prog 29 2=some (2,1,false)/\fldOf Tryz.prog 29 3=some (3,1,false)/\fldOf Tryz.prog 29 4=some (4,1,false)/\fldOf Tryz.prog 29 5=some (5,1,false)/\plOf Tryz.prog 29=some (fun i=>[(0,1),(1,1),(2,1),(3,1),(4,1),(5,1)][i]?)/\fldOf Tryz.prog 33 0=some (0,1,false)/\fldOf Tryz.prog 33 1=some (1,1,false)/\fldOf Tryz.prog 33 2=some (2,1,false)/\fldOf Tryz.prog 33 3=some (3,1,false)/\plOf Tryz.prog 33=some (fun i=>[(0,1),(1,1),(2,1),(3,1)][i]?)/\aggB Tryz.prog 34=some true/\zA6 Tryz.prog 34=some 4:=by and_intros<;>kernel_rfl
@[simp] theorem zWB:zeroOf Tryz.prog 34=some [.int .i64 0,.int .i64 0,.sl 0 [],.sl 0 []]/\fldOf Tryz.prog 34 0=some (0,1,false)/\fldOf Tryz.prog 34 1=some (1,1,false)/\fldOf Tryz.prog 34 2=some (2,1,false)/\fldOf Tryz.prog 34 3=some (3,1,false)/\plOf Tryz.prog 34=some (fun i=>[(0,1),(1,1),(2,1),(3,1)][i]?)/\elOf Tryz.prog 40=some 46/\aggB Tryz.prog 46=some false/\zA6 Tryz.prog 46=some 1/\zGM Tryz.prog 46=some 24/\zeroOf Tryz.prog 46=some [.sl 0 []]/\elOf Tryz.prog 46=some 85/\fldOf Tryz.prog 51 0=some (0,1,false)/\fldOf Tryz.prog 51 1=some (1,1,false)/\plOf Tryz.prog 51=some (fun i=>[(0,1),(1,1)][i]?)/\zeroOf Tryz.prog 52=some [.sl 0 [],.int .i64 0]/\fldOf Tryz.prog 52 0=some (0,1,false)/\fldOf Tryz.prog 52 1=some (1,1,false)/\plOf Tryz.prog 52=some (fun i=>[(0,1),(1,1)][i]?)/\aggB Tryz.prog 61=some false/\zA6 Tryz.prog 61=some 1/\elOf Tryz.prog 61=some 73/\fldOf Tryz.prog 62 0=some (0,1,false)/\fldOf Tryz.prog 62 1=some (1,1,false)/\fldOf Tryz.prog 62 2=some (2,1,false):=by and_intros<;>kernel_rfl
@[simp] theorem zV8:fldOf Tryz.prog 62 3=some (3,1,false)/\fldOf Tryz.prog 62 4=some (4,1,false)/\plOf Tryz.prog 62=some (fun i=>[(0,1),(1,1),(2,1),(3,1),(4,1)][i]?)/\aggB Tryz.prog 63=some true/\zA6 Tryz.prog 63=some 5/\zeroOf Tryz.prog 63=some [.str ⟨#[]⟩,.bool false,.sl 0 [],.int .i64 0,.int .i64 0]/\fldOf Tryz.prog 63 0=some (0,1,false)/\fldOf Tryz.prog 63 1=some (1,1,false)/\fldOf Tryz.prog 63 2=some (2,1,false)/\fldOf Tryz.prog 63 3=some (3,1,false)/\fldOf Tryz.prog 63 4=some (4,1,false)/\plOf Tryz.prog 63=some (fun i=>[(0,1),(1,1),(2,1),(3,1),(4,1)][i]?)/\fldOf Tryz.prog 64 0=some (0,1,false)/\fldOf Tryz.prog 64 1=some (1,1,false)/\fldOf Tryz.prog 64 2=some (2,1,false)/\fldOf Tryz.prog 64 3=some (3,1,false)/\fldOf Tryz.prog 64 4=some (4,1,false)/\fldOf Tryz.prog 64 5=some (5,1,false)/\plOf Tryz.prog 64=some (fun i=>[(0,1),(1,1),(2,1),(3,1),(4,1),(5,1)][i]?)/\aggB Tryz.prog 65=some true/\zA6 Tryz.prog 65=some 6/\zeroOf Tryz.prog 65=some [.str ⟨#[]⟩,.bool false,.int .i64 0,.int .i64 0,.str ⟨#[]⟩,.str ⟨#[]⟩]/\fldOf Tryz.prog 65 0=some (0,1,false)/\fldOf Tryz.prog 65 1=some (1,1,false)/\fldOf Tryz.prog 65 2=some (2,1,false):=by and_intros<;>kernel_rfl
@[simp] theorem zV4:fldOf Tryz.prog 65 3=some (3,1,false)/\fldOf Tryz.prog 65 4=some (4,1,false)/\fldOf Tryz.prog 65 5=some (5,1,false)/\plOf Tryz.prog 65=some (fun i=>[(0,1),(1,1),(2,1),(3,1),(4,1),(5,1)][i]?)/\elOf Tryz.prog 66=some 65/\aggB Tryz.prog 69=some false/\zA6 Tryz.prog 69=some 1/\elOf Tryz.prog 69=some 71/\fldOf Tryz.prog 70 0=some (0,1,false)/\fldOf Tryz.prog 70 1=some (1,1,false)/\fldOf Tryz.prog 70 2=some (2,1,false)/\plOf Tryz.prog 70=some (fun i=>[(0,1),(1,1),(2,1)][i]?)/\aggB Tryz.prog 71=some true/\zA6 Tryz.prog 71=some 3/\zGM Tryz.prog 71=some 40/\zeroOf Tryz.prog 71=some [.int .i64 0,.int .i64 0,.sl 0 []]/\fldOf Tryz.prog 71 0=some (0,1,false)/\fldOf Tryz.prog 71 1=some (1,1,false)/\fldOf Tryz.prog 71 2=some (2,1,false)/\plOf Tryz.prog 71=some (fun i=>[(0,1),(1,1),(2,1)][i]?)/\fldOf Tryz.prog 72 0=some (0,3,true)/\fldOf Tryz.prog 72 1=some (3,3,true)/\plOf Tryz.prog 72=some (fun i=>[(0,3),(3,3)][i]?)/\aggB Tryz.prog 73=some true/\zA6 Tryz.prog 73=some 6:=by and_intros<;>kernel_rfl
@[simp] theorem zV5:zGM Tryz.prog 73=some 80/\zeroOf Tryz.prog 73=some [.int .i64 0,.int .i64 0,.sl 0 [],.int .i64 0,.int .i64 0,.sl 0 []]/\fldOf Tryz.prog 73 0=some (0,3,true)/\fldOf Tryz.prog 73 1=some (3,3,true)/\plOf Tryz.prog 73=some (fun i=>[(0,3),(3,3)][i]?)/\aggB Tryz.prog 77=some false/\zA6 Tryz.prog 77=some 1/\aggB Tryz.prog 78=some false/\zA6 Tryz.prog 78=some 1/\mpB Tryz.prog 78=true/\mpTy Tryz.prog 78=some (3,81)/\fldOf Tryz.prog 79 0=some (0,6,true)/\fldOf Tryz.prog 79 1=some (6,1,false)/\plOf Tryz.prog 79=some (fun i=>[(0,6),(6,1)][i]?)/\zeroOf Tryz.prog 80=some [.int .i64 0,.sl 0 [],.sl 0 [],.sl 0 [],.sl 0 [],.sl 0 [],.zFJ]/\fldOf Tryz.prog 80 0=some (0,6,true)/\fldOf Tryz.prog 80 1=some (6,1,false)/\plOf Tryz.prog 80=some (fun i=>[(0,6),(6,1)][i]?)/\aggB Tryz.prog 81=some false/\zA6 Tryz.prog 81=some 1/\elOf Tryz.prog 81=some 26/\fldOf Tryz.prog 84 0=some (0,1,false)/\fldOf Tryz.prog 84 1=some (1,1,false)/\plOf Tryz.prog 84=some (fun i=>[(0,1),(1,1)][i]?)/\aggB Tryz.prog 85=some true:=by and_intros<;>kernel_rfl
@[simp] theorem zV6:zA6 Tryz.prog 85=some 2/\zGM Tryz.prog 85=some 48/\zeroOf Tryz.prog 85=some [.sl 0 [],.sl 0 []]/\fldOf Tryz.prog 85 0=some (0,1,false)/\fldOf Tryz.prog 85 1=some (1,1,false)/\plOf Tryz.prog 85=some (fun i=>[(0,1),(1,1)][i]?)/\mpB Tryz.prog 91=true/\mpB Tryz.prog 92=true/\fldOf Tryz.prog 93 0=some (0,6,true)/\fldOf Tryz.prog 93 1=some (6,1,false)/\fldOf Tryz.prog 93 2=some (7,1,false)/\fldOf Tryz.prog 93 3=some (8,1,false)/\plOf Tryz.prog 93=some (fun i=>[(0,6),(6,1),(7,1),(8,1)][i]?)/\fldOf Tryz.prog 94 0=some (0,6,true)/\fldOf Tryz.prog 94 1=some (6,1,false)/\fldOf Tryz.prog 94 2=some (7,1,false)/\fldOf Tryz.prog 94 3=some (8,1,false)/\plOf Tryz.prog 94=some (fun i=>[(0,6),(6,1),(7,1),(8,1)][i]?)/\aggB Tryz.prog 103=some false/\zA6 Tryz.prog 103=some 1/\elOf Tryz.prog 103=some 214/\fldOf Tryz.prog 104 0=some (0,1,false)/\fldOf Tryz.prog 104 1=some (1,1,false)/\fldOf Tryz.prog 104 2=some (2,1,false)/\fldOf Tryz.prog 104 3=some (3,1,false):=by and_intros<;>kernel_rfl
@[simp] theorem zV7:fldOf Tryz.prog 104 4=some (4,1,false)/\fldOf Tryz.prog 104 5=some (5,1,false)/\fldOf Tryz.prog 104 6=some (6,1,false)/\fldOf Tryz.prog 104 7=some (7,1,false)/\fldOf Tryz.prog 104 8=some (8,1,false)/\plOf Tryz.prog 104=some (fun i=>[(0,1),(1,1),(2,1),(3,1),(4,1),(5,1),(6,1),(7,1),(8,1)][i]?)/\aggB Tryz.prog 105=some true/\zA6 Tryz.prog 105=some 9/\zeroOf Tryz.prog 105=some [.int .i64 0,.bool false,.sl 0 [],.sl 0 [],.sl 0 [],.sl 0 [],.sl 0 [],.sl 0 [],.int .i64 0]/\fldOf Tryz.prog 105 0=some (0,1,false)/\fldOf Tryz.prog 105 1=some (1,1,false)/\fldOf Tryz.prog 105 2=some (2,1,false)/\fldOf Tryz.prog 105 3=some (3,1,false)/\fldOf Tryz.prog 105 4=some (4,1,false)/\fldOf Tryz.prog 105 5=some (5,1,false)/\fldOf Tryz.prog 105 6=some (6,1,false)/\fldOf Tryz.prog 105 7=some (7,1,false)/\fldOf Tryz.prog 105 8=some (8,1,false)/\plOf Tryz.prog 105=some (fun i=>[(0,1),(1,1),(2,1),(3,1),(4,1),(5,1),(6,1),(7,1),(8,1)][i]?)/\elOf Tryz.prog 114=some 5/\zeroOf Tryz.prog 115=some [.str ⟨#[]⟩,.str ⟨#[]⟩]/\strB Tryz.prog 115=false/\arOf Tryz.prog 115=some (2,9)/\plOf Tryz.prog 115=some (fun i=>some (i*1,1))/\aggB Tryz.prog 128=some false:=by and_intros<;>kernel_rfl
@[simp] theorem zV3:zA6 Tryz.prog 128=some 1/\elOf Tryz.prog 128=some 184/\fldOf Tryz.prog 129 0=some (0,1,false)/\fldOf Tryz.prog 129 1=some (1,1,false)/\fldOf Tryz.prog 129 2=some (2,1,false)/\fldOf Tryz.prog 129 3=some (3,1,false)/\fldOf Tryz.prog 129 4=some (4,1,false)/\fldOf Tryz.prog 129 5=some (5,1,false)/\fldOf Tryz.prog 129 6=some (6,1,false)/\fldOf Tryz.prog 129 7=some (7,1,false)/\fldOf Tryz.prog 129 8=some (8,1,false)/\fldOf Tryz.prog 129 9=some (9,1,false)/\plOf Tryz.prog 129=some (fun i=>[(0,1),(1,1),(2,1),(3,1),(4,1),(5,1),(6,1),(7,1),(8,1),(9,1)][i]?)/\zeroOf Tryz.prog 130=some [.nilp,.sl 0 [],.sl 0 [],.int .i64 0,.sl 0 [],.sl 0 [],.sl 0 [],.sl 0 [],.sl 0 [],.sl 0 []]/\fldOf Tryz.prog 130 0=some (0,1,false)/\fldOf Tryz.prog 130 1=some (1,1,false)/\fldOf Tryz.prog 130 2=some (2,1,false)/\fldOf Tryz.prog 130 3=some (3,1,false)/\fldOf Tryz.prog 130 4=some (4,1,false)/\fldOf Tryz.prog 130 5=some (5,1,false)/\fldOf Tryz.prog 130 6=some (6,1,false)/\fldOf Tryz.prog 130 7=some (7,1,false)/\fldOf Tryz.prog 130 8=some (8,1,false)/\fldOf Tryz.prog 130 9=some (9,1,false)/\plOf Tryz.prog 130=some (fun i=>[(0,1),(1,1),(2,1),(3,1),(4,1),(5,1),(6,1),(7,1),(8,1),(9,1)][i]?):=by and_intros<;>kernel_rfl
@[simp] theorem zVn:fldOf Tryz.prog 143 0=some (0,1,false)/\fldOf Tryz.prog 143 1=some (1,1,false)/\fldOf Tryz.prog 143 2=some (2,1,false)/\plOf Tryz.prog 143=some (fun i=>[(0,1),(1,1),(2,1)][i]?)/\fldOf Tryz.prog 144 0=some (0,1,false)/\fldOf Tryz.prog 144 1=some (1,1,false)/\fldOf Tryz.prog 144 2=some (2,1,false)/\plOf Tryz.prog 144=some (fun i=>[(0,1),(1,1),(2,1)][i]?)/\fldOf Tryz.prog 156 0=some (0,1,false)/\fldOf Tryz.prog 156 1=some (1,1,false)/\plOf Tryz.prog 156=some (fun i=>[(0,1),(1,1)][i]?)/\zA6 Tryz.prog 157=some 2/\zeroOf Tryz.prog 157=some [.str ⟨#[]⟩,.int .i64 0]/\fldOf Tryz.prog 157 0=some (0,1,false)/\fldOf Tryz.prog 157 1=some (1,1,false)/\plOf Tryz.prog 157=some (fun i=>[(0,1),(1,1)][i]?)/\aggB Tryz.prog 166=some false/\zA6 Tryz.prog 166=some 1/\zeroOf Tryz.prog 166=some [.sl 0 []]/\elOf Tryz.prog 166=some 224/\aggB Tryz.prog 169=some false/\zA6 Tryz.prog 169=some 1/\fldOf Tryz.prog 170 0=some (0,1,false)/\fldOf Tryz.prog 170 1=some (1,1,false)/\fldOf Tryz.prog 170 2=some (2,1,false):=by and_intros<;>kernel_rfl
@[simp] theorem zVv:fldOf Tryz.prog 170 3=some (3,1,false)/\fldOf Tryz.prog 170 4=some (4,1,false)/\plOf Tryz.prog 170=some (fun i=>[(0,1),(1,1),(2,1),(3,1),(4,1)][i]?)/\zeroOf Tryz.prog 171=some [.nilp,.sl 0 [],.sl 0 [],.sl 0 [],.sl 0 []]/\fldOf Tryz.prog 171 0=some (0,1,false)/\fldOf Tryz.prog 171 1=some (1,1,false)/\fldOf Tryz.prog 171 2=some (2,1,false)/\fldOf Tryz.prog 171 3=some (3,1,false)/\fldOf Tryz.prog 171 4=some (4,1,false)/\plOf Tryz.prog 171=some (fun i=>[(0,1),(1,1),(2,1),(3,1),(4,1)][i]?)/\aggB Tryz.prog 176=some false/\zA6 Tryz.prog 176=some 1/\elOf Tryz.prog 176=some 236/\fldOf Tryz.prog 177 0=some (0,1,false)/\fldOf Tryz.prog 177 1=some (1,1,false)/\fldOf Tryz.prog 177 2=some (2,1,false)/\plOf Tryz.prog 177=some (fun i=>[(0,1),(1,1),(2,1)][i]?)/\zeroOf Tryz.prog 178=some [.sl 0 [],.sl 0 [],.int .i64 0]/\fldOf Tryz.prog 178 0=some (0,1,false)/\fldOf Tryz.prog 178 1=some (1,1,false)/\fldOf Tryz.prog 178 2=some (2,1,false)/\plOf Tryz.prog 178=some (fun i=>[(0,1),(1,1),(2,1)][i]?)/\elOf Tryz.prog 179=some 27/\fldOf Tryz.prog 183 0=some (0,1,false)/\fldOf Tryz.prog 183 1=some (1,1,false):=by and_intros<;>kernel_rfl
@[simp] theorem zVs:plOf Tryz.prog 183=some (fun i=>[(0,1),(1,1)][i]?)/\aggB Tryz.prog 184=some true/\zA6 Tryz.prog 184=some 2/\zGM Tryz.prog 184=some 24/\zeroOf Tryz.prog 184=some [.str ⟨#[]⟩,.int .i64 0]/\fldOf Tryz.prog 184 0=some (0,1,false)/\fldOf Tryz.prog 184 1=some (1,1,false)/\plOf Tryz.prog 184=some (fun i=>[(0,1),(1,1)][i]?)/\fldOf Tryz.prog 201 0=some (0,1,false)/\fldOf Tryz.prog 201 1=some (1,1,false)/\fldOf Tryz.prog 201 2=some (2,1,false)/\fldOf Tryz.prog 201 3=some (3,1,false)/\fldOf Tryz.prog 201 4=some (4,1,false)/\plOf Tryz.prog 201=some (fun i=>[(0,1),(1,1),(2,1),(3,1),(4,1)][i]?)/\fldOf Tryz.prog 202 0=some (0,1,false)/\fldOf Tryz.prog 202 1=some (1,1,false)/\fldOf Tryz.prog 202 2=some (2,1,false)/\fldOf Tryz.prog 202 3=some (3,1,false)/\fldOf Tryz.prog 202 4=some (4,1,false)/\plOf Tryz.prog 202=some (fun i=>[(0,1),(1,1),(2,1),(3,1),(4,1)][i]?)/\aggB Tryz.prog 209=some false/\zA6 Tryz.prog 209=some 1/\mpB Tryz.prog 209=true/\mpTy Tryz.prog 209=some (3,3)/\elOf Tryz.prog 209=none:=by and_intros<;>kernel_rfl
@[simp] theorem zVm:fldOf Tryz.prog 213 0=some (0,1,false)/\fldOf Tryz.prog 213 1=some (1,1,false)/\plOf Tryz.prog 213=some (fun i=>[(0,1),(1,1)][i]?)/\zA6 Tryz.prog 214=some 2/\zGM Tryz.prog 214=some 32/\zeroOf Tryz.prog 214=some [.str ⟨#[]⟩,.str ⟨#[]⟩]/\fldOf Tryz.prog 214 0=some (0,1,false)/\fldOf Tryz.prog 214 1=some (1,1,false)/\plOf Tryz.prog 214=some (fun i=>[(0,1),(1,1)][i]?)/\aggB Tryz.prog 215=some false/\zA6 Tryz.prog 215=some 1/\mpB Tryz.prog 215=true/\mpTy Tryz.prog 215=some (9,3)/\kagB Tryz.prog 223=some 2/\fldOf Tryz.prog 223 0=some (0,1,false)/\fldOf Tryz.prog 223 1=some (1,1,false)/\plOf Tryz.prog 223=some (fun i=>[(0,1),(1,1)][i]?)/\aggB Tryz.prog 224=some true/\zA6 Tryz.prog 224=some 2/\zGM Tryz.prog 224=some 16/\zeroOf Tryz.prog 224=some [.int .i64 0,.int .i64 0]/\kagB Tryz.prog 224=some 2/\fldOf Tryz.prog 224 0=some (0,1,false)/\fldOf Tryz.prog 224 1=some (1,1,false)/\plOf Tryz.prog 224=some (fun i=>[(0,1),(1,1)][i]?):=by and_intros<;>kernel_rfl
@[simp] theorem zVl:zeroOf Tryz.prog 225=some [.bool false,.bool false,.bool false,.bool false,.bool false,.bool false]/\elOf Tryz.prog 225=none/\arOf Tryz.prog 225=some (6,4)/\plOf Tryz.prog 225=some (fun i=>some (i*1,1))/\elOf Tryz.prog 227=some 166/\elOf Tryz.prog 228=none/\arOf Tryz.prog 228=some (11,22)/\plOf Tryz.prog 228=some (fun i=>some (i*1,1))/\fldOf Tryz.prog 229 0=some (0,1,false)/\fldOf Tryz.prog 229 1=some (1,1,false)/\fldOf Tryz.prog 229 2=some (2,11,true)/\plOf Tryz.prog 229=some (fun i=>[(0,1),(1,1),(2,11)][i]?)/\zeroOf Tryz.prog 230=some [.sl 0 [],.int .i64 0,.sl 0 [],.sl 0 [],.sl 0 [],.sl 0 [],.sl 0 [],.sl 0 [],.sl 0 [],.sl 0 [],.sl 0 [],.sl 0 [],.sl 0 []]/\fldOf Tryz.prog 230 0=some (0,1,false)/\fldOf Tryz.prog 230 1=some (1,1,false)/\fldOf Tryz.prog 230 2=some (2,11,true)/\plOf Tryz.prog 230=some (fun i=>[(0,1),(1,1),(2,11)][i]?)/\zeroOf Tryz.prog 233=some [.int .i64 0,.int .i64 0,.int .i64 0,.int .i64 0,.int .i64 0,.int .i64 0,.int .i64 0,.int .i64 0,.int .i64 0,.int .i64 0,.int .i64 0,.int .i64 0,.int .i64 0,.int .i64 0,.int .i64 0,.int .i64 0,.int .i64 0,.int .i64 0,.int .i64 0,.int .i64 0,.int .i64 0,.int .i64 0,.int .i64 0,.int .i64 0,.int .i64 0,.int .i64 0,.int .i64 0,.int .i64 0,.int .i64 0,.int .i64 0,.int .i64 0,.int .i64 0,.int .i64 0,.int .i64 0,.int .i64 0,.int .i64 0,.int .i64 0,.int .i64 0,.int .i64 0,.int .i64 0,.int .i64 0,.int .i64 0,.int .i64 0,.int .i64 0,.int .i64 0,.int .i64 0,.int .i64 0,.int .i64 0,.int .i64 0,.int .i64 0,.int .i64 0,.int .i64 0,.int .i64 0,.int .i64 0,.int .i64 0,.int .i64 0,.int .i64 0,.int .i64 0,.int .i64 0,.int .i64 0,.int .i64 0]/\elOf Tryz.prog 233=none/\arOf Tryz.prog 233=some (61,3)/\plOf Tryz.prog 233=some (fun i=>some (i*1,1))/\kagB Tryz.prog 233=some 61/\fldOf Tryz.prog 235 0=some (0,1,false)/\fldOf Tryz.prog 235 1=some (1,1,false)/\fldOf Tryz.prog 235 2=some (2,1,false):=by and_intros<;>kernel_rfl
@[simp] theorem zVj:plOf Tryz.prog 235=some (fun i=>[(0,1),(1,1),(2,1)][i]?)/\aggB Tryz.prog 236=some true/\zA6 Tryz.prog 236=some 3/\zGM Tryz.prog 236=some 40/\zeroOf Tryz.prog 236=some [.int .i64 0,.sl 0 [],.int .i64 0]/\fldOf Tryz.prog 236 0=some (0,1,false)/\fldOf Tryz.prog 236 1=some (1,1,false)/\fldOf Tryz.prog 236 2=some (2,1,false)/\plOf Tryz.prog 236=some (fun i=>[(0,1),(1,1),(2,1)][i]?)/\fldOf Tryz.prog 243 0=some (0,1,false)/\fldOf Tryz.prog 243 1=some (1,1,false)/\fldOf Tryz.prog 243 2=some (2,1,false)/\plOf Tryz.prog 243=some (fun i=>[(0,1),(1,1),(2,1)][i]?)/\fldOf Tryz.prog 244 0=some (0,1,false)/\fldOf Tryz.prog 244 1=some (1,1,false)/\fldOf Tryz.prog 244 2=some (2,1,false)/\plOf Tryz.prog 244=some (fun i=>[(0,1),(1,1),(2,1)][i]?)/\fldOf Tryz.prog 256 0=some (0,9,true)/\fldOf Tryz.prog 256 1=some (9,1,false)/\fldOf Tryz.prog 256 2=some (10,1,false)/\fldOf Tryz.prog 256 3=some (11,1,false)/\fldOf Tryz.prog 256 4=some (12,1,false)/\plOf Tryz.prog 256=some (fun i=>[(0,9),(9,1),(10,1),(11,1),(12,1)][i]?)/\zeroOf Tryz.prog 257=some [.int .i64 0,.bool false,.sl 0 [],.sl 0 [],.sl 0 [],.sl 0 [],.sl 0 [],.sl 0 [],.int .i64 0,.zFJ,.sl 0 [],.sl 0 [],.sl 0 []]/\fldOf Tryz.prog 257 0=some (0,9,true):=by and_intros<;>kernel_rfl
@[simp] theorem zVt:fldOf Tryz.prog 257 1=some (9,1,false)/\fldOf Tryz.prog 257 2=some (10,1,false)/\fldOf Tryz.prog 257 3=some (11,1,false)/\fldOf Tryz.prog 257 4=some (12,1,false)/\plOf Tryz.prog 257=some (fun i=>[(0,9),(9,1),(10,1),(11,1),(12,1)][i]?)/\mpB Tryz.prog 267=true/\mpTy Tryz.prog 267=some (269,3)/\elOf Tryz.prog 267=none/\plOf Tryz.prog 268=some (fun i=>some (i*1,1))/\kagB Tryz.prog 268=some 7/\aggB Tryz.prog 269=some true/\zA6 Tryz.prog 269=some 7/\zeroOf Tryz.prog 269=some [.int .i64 0,.int .i64 0,.int .i64 0,.int .i64 0,.int .i64 0,.int .i64 0,.int .i64 0]/\elOf Tryz.prog 269=none/\arOf Tryz.prog 269=some (7,3)/\plOf Tryz.prog 269=some (fun i=>some (i*1,1))/\kagB Tryz.prog 269=some 7/\fldOf Tryz.prog 274 0=some (0,1,false)/\fldOf Tryz.prog 274 1=some (1,1,false)/\plOf Tryz.prog 274=some (fun i=>[(0,1),(1,1)][i]?)/\zeroOf Tryz.prog 275=some [.sl 0 [],.zFJ]/\fldOf Tryz.prog 275 0=some (0,1,false)/\fldOf Tryz.prog 275 1=some (1,1,false)/\plOf Tryz.prog 275=some (fun i=>[(0,1),(1,1)][i]?)/\fldOf Tryz.prog 279 0=some (0,1,false):=by and_intros<;>kernel_rfl
@[simp] theorem zVz:fldOf Tryz.prog 279 1=some (1,1,false)/\fldOf Tryz.prog 279 2=some (2,1,false)/\fldOf Tryz.prog 279 3=some (3,1,false)/\plOf Tryz.prog 279=some (fun i=>[(0,1),(1,1),(2,1),(3,1)][i]?)/\plOf Tryz.prog 281=some (fun i=>some (i*1,1))/\fldOf Tryz.prog 282 0=some (0,0,true)/\plOf Tryz.prog 282=some (fun i=>[(0,0)][i]?)/\fldOf Tryz.prog 290 0=some (0,1,false)/\fldOf Tryz.prog 290 1=some (1,1,false)/\fldOf Tryz.prog 290 2=some (2,1,false)/\fldOf Tryz.prog 290 3=some (3,1,false)/\fldOf Tryz.prog 290 4=some (4,1,false)/\fldOf Tryz.prog 290 5=some (5,1,false)/\fldOf Tryz.prog 290 6=some (6,1,false)/\fldOf Tryz.prog 290 7=some (7,1,false)/\fldOf Tryz.prog 290 8=some (8,1,false)/\fldOf Tryz.prog 290 9=some (9,1,false)/\fldOf Tryz.prog 290 10=some (10,1,false)/\plOf Tryz.prog 290=some (fun i=>[(0,1),(1,1),(2,1),(3,1),(4,1),(5,1),(6,1),(7,1),(8,1),(9,1),(10,1)][i]?):=by and_intros<;>kernel_rfl
end Go.Proofs.YtgmcbpjplcjmdaaGreat.M

namespace Go.Proofs.YtgmcbpjplcjmdaaGreat.M
open Go.RowKit
set_option maxRecDepth 100000
set_option maxHeartbeats 32000000

section
variable{P:Program}{Q Q':Exit->ASt->Prop}{σ σ':ASt}{id:Nat}{ops:Array Oper}{x y:Code}{c:Operand}{A1 A2 A3 A4 A5 A6:Prop}
theorem rg0(h:awp P y Q σ')(hv: ∀K:ASt->Prop,K σ'->awpL P ops σ.nxt ops.toList 0 σ K:=by
 intro K hK;simp(disch:=omega)[ints,rows,scal,zBs,wr8]
 (repeat' first|exact hK|apply And.intro)<;>try first|omega|rfl|(simp;done)|(simp;omega)):awp P (.seq (.region id ops false) y) Q σ:=zF fun K hK=>hv K (hK _ h)
theorem rr0(h:Q .normal σ')(hv: ∀K:ASt->Prop,K σ'->awpL P ops σ.nxt ops.toList 0 σ K:=by
 intro K hK;simp(disch:=omega)[ints,rows,scal,zBs,wr8]
 (repeat' first|exact hK|apply And.intro)<;>try first|omega|rfl|(simp;done)|(simp;omega)):awp P (.region id ops false) Q σ:=zAT fun K hK=>hv K (hK _ h)
theorem rd0(h:awp P y Q σ')(hv: ∀K:ASt->Prop,K σ'->zJt P ops σ.nxt ops.toList 0 σ [] K:=by
 intro K hK;simp(disch:=omega)[ints,rows,scal,zBs,wr8]
 (repeat' first|exact hK|apply And.intro)<;>try first|(show zAY _ _=true;kernel_rfl)|(show okH _ _ _=true;kernel_rfl)|omega|rfl|(simp;done)|(simp;omega)) (hm:P.follows .mixedOrders=true:=by kernel_rfl):awp P (.seq (.region id ops true) y) Q σ:=zg hm fun K hK=>hv K (hK _ h)
theorem re0(h:Q .normal σ')(hv: ∀K:ASt->Prop,K σ'->zJt P ops σ.nxt ops.toList 0 σ [] K:=by
 intro K hK;simp(disch:=omega)[ints,rows,scal,zBs,wr8]
 (repeat' first|exact hK|apply And.intro)<;>try first|(show zAY _ _=true;kernel_rfl)|(show okH _ _ _=true;kernel_rfl)|omega|rfl|(simp;done)|(simp;omega)) (hm:P.follows .mixedOrders=true:=by kernel_rfl):awp P (.region id ops true) Q σ:=zAW hm fun K hK=>hv K (hK _ h)
theorem rc0{f:FuncId}{args:List AV}{res:AV}(s:FnS P f args [] res [])(h:awp P y Q σ')(hv:let s:=s;∀K:ASt->Prop,K σ'->awpL P ops σ.nxt ops.toList 0 σ K:=by
 intro s K hK;simp(disch:=omega)[ints,rows,scal,zBs,wr8]
 (repeat' apply And.intro)
 all_goals (try omega)
 refine zD (caps:=[]) s [] [] 2 (by first|rfl|simp[gd]) rfl rfl rfl (by kernel_rfl) (by simp[zAt]) ?_ trivial trivial rfl trivial trivial (by simp[okO]) ?_
 ·simp[scal,rows,ints]
 simp(disch:=omega)[ints,rows,scal,zBs,wr8]
 (repeat' first|exact hK|apply And.intro)<;>try first|omega|rfl|(simp;done)|(simp;omega)):awp P (.seq (.region id ops false) y) Q σ:=zF fun K hK=>hv K (hK _ h)
theorem cF0(h:awp P y Q σ)(hb:σ.eval c= .t 2 (.bool false):=by
 simp[scal]<;>omega):awp P (.cond c x y) Q σ:=zk hb h
theorem cT0(h:awp P x Q σ)(hb:σ.eval c= .t 2 (.bool true):=by
 simp[scal]<;>omega):awp P (.cond c x y) Q σ:=zk hb h
theorem cS0(h:awp P y Q σ)(hb:σ.eval c= .t 2 (.bool false):=by
 simp[scal]<;>omega):awp P (.cond c x .skip) (zMJ (awp P y Q) Q) σ:=zk (b:=false) hb (zQ h)
theorem cK0(h:awp P y Q σ)(hb:σ.eval c= .t 2 (.bool true):=by
 simp[scal]<;>omega):awp P (.cond c .skip x) (zMJ (awp P y Q) Q) σ:=zk (b:=true) hb (zQ h)
theorem cY0(h:Q .normal σ)(hb:σ.eval c= .t 2 (.bool false):=by
 simp[scal]<;>omega):awp P (.cond c x .skip) Q σ:=zk (b:=false) hb (zQ h)
theorem cZ0(h:Q .normal σ)(hb:σ.eval c= .t 2 (.bool true):=by
 simp[scal]<;>omega):awp P (.cond c .skip x) Q σ:=zk (b:=true) hb (zQ h)
theorem rt0{B:Prop}(h:B:=by
 refine⟨⟨.inr rfl,_,[],rfl,trivial,trivial,by simp[ghA,ghA1,wkPs,wkP,mkS,zCJ],?_⟩,by simp[ghA,ghA1,mkS,zCJ]⟩;simp[wkP,wkPs,zCK,unm,mkS]):B:=h
theorem kw0{el:List (Nat×AV)}{hl:List (Nat×AObj)}{nx nt:Nat}{gh:List AV}(mp:List (Nat×Option Nat))(he:wkE σ (mpOf mp) (unm mp) nx el:=by
 simp[ints]) (hh:wkH σ (mpOf mp) (unm mp) nx hl mp:=by
 simp[ints]) (hn:keysNd mp:=by
 simp[ints]) (hg:wkPs σ.heap (mpOf mp) (unm mp) nx σ.gh gh:=by
 simp[ints]) (hnt:nt=σ.nt:=by rfl):Wk σ (mkS el hl nx nt gh):=zH mp hnt he hh hn hg
theorem rg1(a1:A1)(h:awp P y Q σ')(hv:let b1:=a1;∀K:ASt->Prop,K σ'->awpL P ops σ.nxt ops.toList 0 σ K:=by
 intro b1 K hK;simp(disch:=omega)[b1,ints,rows,scal,zBs,wr8]
 (repeat' first|exact hK|apply And.intro)<;>try first|omega|rfl|(simp;done)|(simp;omega)):awp P (.seq (.region id ops false) y) Q σ:=zF fun K hK=>hv K (hK _ h)
theorem rr1(a1:A1)(h:Q .normal σ')(hv:let b1:=a1;∀K:ASt->Prop,K σ'->awpL P ops σ.nxt ops.toList 0 σ K:=by
 intro b1 K hK;simp(disch:=omega)[b1,ints,rows,scal,zBs,wr8]
 (repeat' first|exact hK|apply And.intro)<;>try first|omega|rfl|(simp;done)|(simp;omega)):awp P (.region id ops false) Q σ:=zAT fun K hK=>hv K (hK _ h)
theorem rd1(a1:A1)(h:awp P y Q σ')(hv:let b1:=a1;∀K:ASt->Prop,K σ'->zJt P ops σ.nxt ops.toList 0 σ [] K:=by
 intro b1 K hK;simp(disch:=omega)[b1,ints,rows,scal,zBs,wr8]
 (repeat' first|exact hK|apply And.intro)<;>try first|(show zAY _ _=true;kernel_rfl)|(show okH _ _ _=true;kernel_rfl)|omega|rfl|(simp;done)|(simp;omega)) (hm:P.follows .mixedOrders=true:=by kernel_rfl):awp P (.seq (.region id ops true) y) Q σ:=zg hm fun K hK=>hv K (hK _ h)
theorem re1(a1:A1)(h:Q .normal σ')(hv:let b1:=a1;∀K:ASt->Prop,K σ'->zJt P ops σ.nxt ops.toList 0 σ [] K:=by
 intro b1 K hK;simp(disch:=omega)[b1,ints,rows,scal,zBs,wr8]
 (repeat' first|exact hK|apply And.intro)<;>try first|(show zAY _ _=true;kernel_rfl)|(show okH _ _ _=true;kernel_rfl)|omega|rfl|(simp;done)|(simp;omega)) (hm:P.follows .mixedOrders=true:=by kernel_rfl):awp P (.region id ops true) Q σ:=zAW hm fun K hK=>hv K (hK _ h)
theorem rc1{f:FuncId}{args:List AV}{res:AV}(s:FnS P f args [] res [])(a1:A1)(h:awp P y Q σ')(hv:let s:=s;let b1:=a1;∀K:ASt->Prop,K σ'->awpL P ops σ.nxt ops.toList 0 σ K:=by
 intro s b1 K hK;simp(disch:=omega)[b1,ints,rows,scal,zBs,wr8]
 (repeat' apply And.intro)
 all_goals (try omega)
 refine zD (caps:=[]) s [] [] 2 (by first|rfl|simp[b1,gd]) rfl rfl rfl (by kernel_rfl) (by simp[zAt]) ?_ trivial trivial rfl trivial trivial (by simp[okO]) ?_
 ·simp[b1,scal,rows,ints]
 simp(disch:=omega)[b1,ints,rows,scal,zBs,wr8]
 (repeat' first|exact hK|apply And.intro)<;>try first|omega|rfl|(simp;done)|(simp;omega)):awp P (.seq (.region id ops false) y) Q σ:=zF fun K hK=>hv K (hK _ h)
theorem rq1{f:FuncId}{args:List AV}{res:AV}(s:FnS P f args [] res [])(a1:A1)(h:awp P y Q σ')(hv:let s:=s;let b1:=a1;∀K:ASt->Prop,K σ'->zJt P ops σ.nxt ops.toList 0 σ [] K:=by
 intro s b1 K hK;simp(disch:=omega)[b1,ints,rows,scal,zBs,wr8]
 (repeat' apply And.intro)
 all_goals (try omega)
 refine zM (caps:=[]) s [] [] 2 (by first|rfl|simp[b1,gd]) rfl rfl rfl (by kernel_rfl) (by simp[zAt]) ?_ trivial trivial rfl trivial trivial (by simp[okO]) ?_
 ·simp[b1,scal,rows,ints]
 simp(disch:=omega)[b1,ints,rows,scal,zBs,wr8]
 (repeat' first|exact hK|apply And.intro)<;>try first|(show zAY _ _=true;kernel_rfl)|(show okH _ _ _=true;kernel_rfl)|omega|rfl|(simp;done)|(simp;omega)) (hm:P.follows .mixedOrders=true:=by kernel_rfl):awp P (.seq (.region id ops true) y) Q σ:=zg hm fun K hK=>hv K (hK _ h)
theorem cF1(a1:A1)(h:awp P y Q σ)(hb:let b1:=a1;σ.eval c= .t 2 (.bool false):=by
 intro b1;simp[b1,scal]<;>omega):awp P (.cond c x y) Q σ:=zk hb h
theorem cT1(a1:A1)(h:awp P x Q σ)(hb:let b1:=a1;σ.eval c= .t 2 (.bool true):=by
 intro b1;simp[b1,scal]<;>omega):awp P (.cond c x y) Q σ:=zk hb h
theorem cS1(a1:A1)(h:awp P y Q σ)(hb:let b1:=a1;σ.eval c= .t 2 (.bool false):=by
 intro b1;simp[b1,scal]<;>omega):awp P (.cond c x .skip) (zMJ (awp P y Q) Q) σ:=zk (b:=false) hb (zQ h)
theorem cK1(a1:A1)(h:awp P y Q σ)(hb:let b1:=a1;σ.eval c= .t 2 (.bool true):=by
 intro b1;simp[b1,scal]<;>omega):awp P (.cond c .skip x) (zMJ (awp P y Q) Q) σ:=zk (b:=true) hb (zQ h)
theorem cY1(a1:A1)(h:Q .normal σ)(hb:let b1:=a1;σ.eval c= .t 2 (.bool false):=by
 intro b1;simp[b1,scal]<;>omega):awp P (.cond c x .skip) Q σ:=zk (b:=false) hb (zQ h)
theorem rt1{B:Prop}(a1:A1)(h:let b1:=a1;B:=by
 intro b1;refine⟨⟨.inr rfl,_,[],rfl,trivial,trivial,by simp[b1,ghA,ghA1,wkPs,wkP,mkS,zCJ],?_⟩,by simp[b1,ghA,ghA1,mkS,zCJ]⟩;simp[b1,wkP,wkPs,zCK,unm,mkS]):B:=h
theorem kw1{el:List (Nat×AV)}{hl:List (Nat×AObj)}{nx nt:Nat}{gh:List AV}(mp:List (Nat×Option Nat))(a1:A1)(he:let b1:=a1;wkE σ (mpOf mp) (unm mp) nx el:=by
 intro b1;simp[b1,ints]) (hh:let b1:=a1;wkH σ (mpOf mp) (unm mp) nx hl mp:=by
 intro b1;simp[b1,ints]) (hn:let b1:=a1;keysNd mp:=by
 intro b1;simp[b1,ints]) (hg:let b1:=a1;wkPs σ.heap (mpOf mp) (unm mp) nx σ.gh gh:=by
 intro b1;simp[b1,ints]) (hnt:nt=σ.nt:=by rfl):Wk σ (mkS el hl nx nt gh):=zH mp hnt he hh hn hg
theorem zCx{B:Prop}(a1:A1)(h:let b1:=a1;B:=by
 intro b1;refine⟨⟨.inr rfl,_,[(0,some 0)],(by first|rfl|(simp[b1,ints,rows,scal];rfl)),?_,?_,?_,?_⟩,?_⟩<;>first|(simp[b1,ints,rows,scal];done)|rfl|trivial|omega):B:=h
theorem zSe{B:Prop}(a1:A1)(h:let b1:=a1;B:=by
 intro b1;refine⟨⟨.inr rfl,_,[(0,some 0),(1,some 1),(2,some 2)],(by first|rfl|(simp[b1,ints,rows,scal];rfl)),?_,?_,?_,?_⟩,?_⟩<;>first|(simp[b1,ints,rows,scal];done)|rfl|trivial|omega):B:=h
theorem kf1{el:List (Nat×AV)}{hl:List (Nat×AObj)}{base n:Nat}{F:Nat->AObj}{nx nt:Nat}{gh:List AV}(mp:List (Nat×Option Nat))(g:Nat->Nat)(a1:A1)(he:let b1:=a1;wkE σ (zBm mp base n g) (zCI mp n g) nx el:=by
 intro b1;first|(simp +contextual (disch:=omega)[b1,wkE,wkP,wkPs,wkH,wkO,keysNd,unm,zAi,zAL,dels,zCK,mkS,mkF,zAH,zAA,zAC,zx,zA5,zBE,zCI,zAu,zBF,zB3,zBk,zL,zJ,ze,zW,zAN,Qm,Ql,Qd,zCJ,callS,callF,zBn,addL,delL,outV,outVs,outO,ghA,ghA1,ints,scal,zAE,zI];done)|omega|(simp +contextual (disch:=omega)[b1,wkE,wkP,wkPs,wkH,wkO,keysNd,unm,zAi,zAL,dels,zCK,mkS,mkF,zAH,zAA,zAC,zx,zA5,zBE,zCI,zAu,zBF,zB3,zBk,zL,zJ,ze,zW,zAN,Qm,Ql,Qd,zCJ,callS,callF,zBn,addL,delL,outV,outVs,outO,ghA,ghA1,ints,scal,zAE,zI]<;>omega)) (hh:let b1:=a1;wkH σ (zBm mp base n g) (zCI mp n g) nx hl mp:=by
 intro b1;first|(simp +contextual (disch:=omega)[b1,wkE,wkP,wkPs,wkH,wkO,keysNd,unm,zAi,zAL,dels,zCK,mkS,mkF,zAH,zAA,zAC,zx,zA5,zBE,zCI,zAu,zBF,zB3,zBk,zL,zJ,ze,zW,zAN,Qm,Ql,Qd,zCJ,callS,callF,zBn,addL,delL,outV,outVs,outO,ghA,ghA1,ints,scal,zAE,zI];done)|omega|(simp +contextual (disch:=omega)[b1,wkE,wkP,wkPs,wkH,wkO,keysNd,unm,zAi,zAL,dels,zCK,mkS,mkF,zAH,zAA,zAC,zx,zA5,zBE,zCI,zAu,zBF,zB3,zBk,zL,zJ,ze,zW,zAN,Qm,Ql,Qd,zCJ,callS,callF,zBn,addL,delL,outV,outVs,outO,ghA,ghA1,ints,scal,zAE,zI]<;>omega)) (hn:let b1:=a1;keysNd mp:=by
 intro b1;first|(simp +contextual (disch:=omega)[b1,wkE,wkP,wkPs,wkH,wkO,keysNd,unm,zAi,zAL,dels,zCK,mkS,mkF,zAH,zAA,zAC,zx,zA5,zBE,zCI,zAu,zBF,zB3,zBk,zL,zJ,ze,zW,zAN,Qm,Ql,Qd,zCJ,callS,callF,zBn,addL,delL,outV,outVs,outO,ghA,ghA1,ints,scal,zAE,zI];done)|omega|(simp +contextual (disch:=omega)[b1,wkE,wkP,wkPs,wkH,wkO,keysNd,unm,zAi,zAL,dels,zCK,mkS,mkF,zAH,zAA,zAC,zx,zA5,zBE,zCI,zAu,zBF,zB3,zBk,zL,zJ,ze,zW,zAN,Qm,Ql,Qd,zCJ,callS,callF,zBn,addL,delL,outV,outVs,outO,ghA,ghA1,ints,scal,zAE,zI]<;>omega)) (hg:let b1:=a1;wkPs σ.heap (zBm mp base n g) (zCI mp n g) nx σ.gh gh:=by
 intro b1;first|(simp +contextual (disch:=omega)[b1,wkE,wkP,wkPs,wkH,wkO,keysNd,unm,zAi,zAL,dels,zCK,mkS,mkF,zAH,zAA,zAC,zx,zA5,zBE,zCI,zAu,zBF,zB3,zBk,zL,zJ,ze,zW,zAN,Qm,Ql,Qd,zCJ,callS,callF,zBn,addL,delL,outV,outVs,outO,ghA,ghA1,ints,scal,zAE,zI];done)|omega|(simp +contextual (disch:=omega)[b1,wkE,wkP,wkPs,wkH,wkO,keysNd,unm,zAi,zAL,dels,zCK,mkS,mkF,zAH,zAA,zAC,zx,zA5,zBE,zCI,zAu,zBF,zB3,zBk,zL,zJ,ze,zW,zAN,Qm,Ql,Qd,zCJ,callS,callF,zBn,addL,delL,outV,outVs,outO,ghA,ghA1,ints,scal,zAE,zI]<;>omega)) (hF:let b1:=a1;∀j,j<n->base+j<nx/\unm mp (g j)/\wkO σ.heap (zBm mp base n g) (zCI mp n g) nx (some (g j)) (F j):=by
 intro b1;first|(simp +contextual (disch:=omega)[b1,wkE,wkP,wkPs,wkH,wkO,keysNd,unm,zAi,zAL,dels,zCK,mkS,mkF,zAH,zAA,zAC,zx,zA5,zBE,zCI,zAu,zBF,zB3,zBk,zL,zJ,ze,zW,zAN,Qm,Ql,Qd,zCJ,callS,callF,zBn,addL,delL,outV,outVs,outO,ghA,ghA1,ints,scal,zAE,zI];done)|omega|(simp +contextual (disch:=omega)[b1,wkE,wkP,wkPs,wkH,wkO,keysNd,unm,zAi,zAL,dels,zCK,mkS,mkF,zAH,zAA,zAC,zx,zA5,zBE,zCI,zAu,zBF,zB3,zBk,zL,zJ,ze,zW,zAN,Qm,Ql,Qd,zCJ,callS,callF,zBn,addL,delL,outV,outVs,outO,ghA,ghA1,ints,scal,zAE,zI]<;>omega)) (hi:let b1:=a1;∀i j,i<n->j<n->g i=g j->i=j:=by
 intro b1;first|(simp +contextual (disch:=omega)[b1,wkE,wkP,wkPs,wkH,wkO,keysNd,unm,zAi,zAL,dels,zCK,mkS,mkF,zAH,zAA,zAC,zx,zA5,zBE,zCI,zAu,zBF,zB3,zBk,zL,zJ,ze,zW,zAN,Qm,Ql,Qd,zCJ,callS,callF,zBn,addL,delL,outV,outVs,outO,ghA,ghA1,ints,scal,zAE,zI];done)|omega|(simp +contextual (disch:=omega)[b1,wkE,wkP,wkPs,wkH,wkO,keysNd,unm,zAi,zAL,dels,zCK,mkS,mkF,zAH,zAA,zAC,zx,zA5,zBE,zCI,zAu,zBF,zB3,zBk,zL,zJ,ze,zW,zAN,Qm,Ql,Qd,zCJ,callS,callF,zBn,addL,delL,outV,outVs,outO,ghA,ghA1,ints,scal,zAE,zI]<;>omega)) (hnt:nt=σ.nt:=by rfl):Wk σ (mkF el hl base n F nx nt gh):=zAQ mp g hnt he hh hn hg hF hi
theorem an{A B:Prop}(a:A)(b:B):A/\B:=⟨a,b⟩
theorem fI{f:FuncId}{fn:Func}{c:Code}{args:List AV}{H H':List AObj}{res:AV}(n:Nat)(r:Array ResultVar)(hf:P.funcs[f]? =some fn)(hb:fn.body=some c)(h:awp P c (fun e σ=>zOr P r.toList res H' e σ/\σ.gh=ghA args) (zCJ args H n))(hn:fn.ntmps=n:=by rfl)(hr:fn.results=r:=by rfl)(hle:args.length<=n:=by simp):FnS P f args H res H':=zJ4 hf hb (by rw[hn];exact hle) (by rw[hn,hr];exact h)
end
def ints(xs:List Int):T:=.sl 1 (xs.map (.int .i64))
def rows(xss:List (List Int)):T:=.sl 1 (xss.map ints)
theorem zBs(x:Int)(h1: -9223372036854775808<=x)(h2:x<=9223372036854775807):IntKind.i64.wrap x=x:=by rw[IntKind.wrap_i64];omega
theorem wr8(x:Int)(h1:0<=x)(h2:x<=255):IntKind.u8.wrap x=x:=by rw[IntKind.wrap_u8];omega
def zAZ(ls:List Nat):ByteArray:=⟨(ls.map fun x=>UInt8.ofNat (97+x)).toArray⟩
theorem zEr(x:Nat)(hx:x<=20):FnA Tryz.prog 87 [.t 2 (.int .i64 x)] (.t 2 (.str (zAZ [x]))):=by
 refine fI 8 #[.tmp 2] Tryz.func87 rfl ?_;refine rg0 ?_;refine zF fun K hK=>?_
 simp(maxSteps:=2000000)(disch:=omega)[zBs,wr8,isU8];and_intros<;>try first|apply hK|omega|rfl|simp<;>omega
 refine zC ?_;refine⟨⟨.inr rfl,_,[],rfl,trivial,trivial,by simp,?_⟩,by simp⟩;simp;have:(97+(x:Int)).toNat=97+x:=by omega
 try rw[zBs _ (by omega) (by omega),wr8 _ (by omega) (by omega)]
 simp[zBa,u8n,zAZ,this];rfl
theorem zGj(xs ys:List Int)(hx:xs.length<=1000000):FnA Tryz.prog 41 [.t 0 (ints xs),.t 0 (ints ys)] (.t 2 (.bool (decide (xs=ys)))):=by
 refine fI 26 #[.tmp 4] Tryz.func41 rfl ?_;refine rg0 ?_;refine zA ?_;by_cases hl:xs.length=ys.length
 case neg=>
  refine rg0 ?_;refine cT0 ?_;refine rg0 ?_;refine zC ?_;refine⟨⟨.inr rfl,_,[],rfl,trivial,trivial,by simp,?_⟩,by simp⟩;simp;intro h;exact hl (by rw[h])
 refine rg0 ?_;refine cF0 ?_;refine zQ ?_;refine zA ?_;refine rg0 ?_;refine zB ?_;refine awp_loop (fun k:Nat=>mkS [(0,.t 0 (ints xs)),(1,.t 0 (ints ys)),(12,.t 2 (.int .i64 xs.length)),(13,.t 2 (.int .i64 k))] [] 0 26 [.any,.any]) (fun k=>k<=xs.length/\ ∀i (h1:i<xs.length) (h2:i<ys.length),i<k->xs[i]=ys[i]) (fun k=>xs.length-k) ?_ ?_
 ·refine⟨0,⟨by omega,fun i h1 h2 h=>by omega⟩,?_⟩;exact kw0 []
 ·intro k hk;obtain⟨hk,hall⟩:=hk;refine rg0 ?_;by_cases hlt:k<xs.length
  ·have hlt2:k<ys.length:=by omega
   refine zA ?_;refine cT1 @hlt ?_;refine zQ ?_;refine zA ?_;refine zB ?_;refine rg0 ?_;by_cases he:xs[k]=ys[k]
   ·refine rd1 (an @hlt (an @hlt2 @he)) ?_;refine cY0 ?_;refine rr0 ?_;refine⟨k+1,⟨by omega,fun i h1 h2 h=>?_⟩,by omega,?_⟩
    ·by_cases e:i=k
     ·subst e;exact he
     ·exact hall i h1 h2 (by omega)
    ·exact kw0 []
   ·refine rd1 (an @hlt (an @hlt2 @he)) ?_;refine cT0 ?_;refine rg0 ?_;refine zC ?_;show zOr _ _ _ _ _ _/\_;refine⟨⟨.inr rfl,_,[],rfl,trivial,trivial,by simp,?_⟩,by simp⟩;simp;intro h;exact he (by simp only[h])
  ·refine zA ?_;refine cF1 @hlt ?_;refine zE ?_;refine rg0 ?_;refine zC ?_;refine⟨⟨.inr rfl,_,[],rfl,trivial,trivial,by simp,?_⟩,by simp⟩;simp;exact List.ext_getElem hl (fun i h1 h2=>hall i h1 h2 (by omega))
def zL1(xss:List (List Int))(f:List Int):Int:=match xss.findIdx? (fun x=>decide (x=f))with
 |some i=>i
 |none=>-1
theorem zRx{xss:List (List Int)}{f:List Int}{k:Nat}(hk:k<xss.length)(he:xss[k]=f)(hn: ∀i (h:i<xss.length),i<k->xss[i]≠f):zL1 xss f=k:=by
 unfold zL1;have:xss.findIdx? (fun x=>decide (x=f))=some k:=by
  rw[List.findIdx?_eq_some_iff_getElem];refine⟨hk,by simpa using he,fun j hj=>by simpa using hn j (by omega) hj⟩
 rw[this]
theorem zSQ{xss:List (List Int)}{f:List Int}(hn: ∀i (h:i<xss.length),xss[i]≠f):zL1 xss f= -1:=by
 unfold zL1;have:xss.findIdx? (fun x=>decide (x=f))=none:=by
  rw[List.findIdx?_eq_none_iff];intro x hx;obtain⟨i,hi,rfl⟩:=Qb hx;simpa using hn i hi
 rw[this]
theorem zIl(xss:List (List Int))(f:List Int)(hx:xss.length<=1000000)(hl: ∀x∈xss,x.length<=1000000):FnA Tryz.prog 48 [.t 0 (rows xss),.t 0 (ints f)] (.t 2 (.int .i64 (zL1 xss f))):=by
 refine fI 19 #[.tmp 4] Tryz.func48 rfl ?_;refine rg0 ?_;refine zA ?_;refine rg0 ?_;refine zB ?_;refine awp_loop (fun k:Nat=>mkS [(0,.t 0 (rows xss)),(1,.t 0 (ints f)),(7,.t 2 (.int .i64 xss.length)),(8,.t 2 (.int .i64 k))] [] 0 19 [.any,.any]) (fun k=>k<=xss.length/\ ∀i (h:i<xss.length),i<k->xss[i]≠f) (fun k=>xss.length-k) ?_ ?_
 ·refine⟨0,⟨by omega,fun i h1 h=>by omega⟩,?_⟩;exact kw1 [] @rows.eq_1
 ·intro k hk;obtain⟨hk,hall⟩:=hk;refine rg0 ?_;by_cases hlt:k<xss.length
  ·refine zA ?_;refine cT1 @hlt ?_;refine zQ ?_;refine zA ?_;refine zB ?_;refine rg0 ?_;refine zF fun K hK=>?_
   simp(maxSteps:=2000000)(disch:=omega)[ints,hlt]
   (repeat' apply And.intro)
   all_goals (try omega)
   refine zD (caps:=[]) (zGj xss[k] f (hl _ (by simp))) [] [] 2 rfl rfl rfl rfl (by kernel_rfl) (by simp) ?_ ?_ ?_ rfl ?_ ?_ (by simp) ?_
   ·simp[ints]
   ·trivial
   ·trivial
   ·trivial
   ·trivial
   simp(maxSteps:=2000000)(disch:=omega)[scal]
   (repeat' first|apply hK|apply And.intro)<;>try first|omega|rfl|(simp<;>omega)
   by_cases he:xss[k]=f
   ·refine cT1 @he ?_;refine rg0 ?_;refine zC ?_;show zOr _ _ _ _ _ _/\_;refine⟨⟨.inr rfl,_,[],rfl,trivial,trivial,by simp,?_⟩,by simp⟩;simp;exact(zRx hlt he hall).symm
   ·refine cY1 @he ?_;refine rr0 ?_;refine⟨k+1,⟨by omega,fun i h1 h=>?_⟩,by omega,?_⟩
    ·by_cases e:i=k
     ·subst e;exact he
     ·exact hall i h1 (by omega)
    ·exact kw1 [] @rows.eq_1
  ·refine zA ?_;refine cF1 @hlt ?_;refine zE ?_;refine rg0 ?_;refine zC ?_;refine⟨⟨.inr rfl,_,[],rfl,trivial,trivial,by simp,?_⟩,by simp⟩;simp;exact(zSQ (fun i hi=>hall i hi (by omega))).symm
@[simp] theorem zBK{α:Type}{n:Nat}(F:Nat->α){k:Nat}(h:k<(tab n F).length):(tab n F)[k]=F k:=by simp[tab]
theorem zT{α β:Type}(n:Nat)(F:Nat->α)(g:α->β):(tab n F).map g=tab n (fun i=>g (F i)):=by simp[tab,Function.comp_def]
theorem zb{α:Type}{n:Nat}(F:Nat->α)(k:Nat)(x:α):(tab n F).set k x=tab n (fun i=>if i=k then x else F i):=by
 apply List.ext_getElem?;intro i;rw[List.getElem?_set];by_cases hi:i<n
 ·rw[zO _ hi];by_cases e:k=i
  ·subst e;rw[if_pos rfl,if_pos (by simpa using hi),zO _ hi,if_pos rfl]
  ·rw[if_neg e,zO _ hi,if_neg (Ne.symm e)]
 ·rw[Qh (by simp;omega)];by_cases e:k=i
  ·subst e;simp[hi]
  ·rw[if_neg e,Qh (by simp;omega)]
theorem zK{α:Type}{n:Nat}{F G:Nat->α}(h: ∀i,i<n->F i=G i):tab n F=tab n G:=by
 unfold tab;exact List.map_congr_left (fun i hi=>h i (List.mem_range.1 hi))
theorem zz{α:Type}(n:Nat)(x:α):List.replicate n x=tab n (fun _=>x):=by
 apply List.ext_getElem?;intro i;by_cases h:i<n
 ·rw[zO _ h];simp[h]
 ·rw[Qh (by simp;omega),Qh (by simp;omega)]
theorem zBI{α:Type}(n:Nat)(F:Nat->α):tab (n+1) F=tab n F++[F n]:=by simp[tab,List.range_succ]
theorem zJD(n:Nat)(hn:n<=1000000):FnA Tryz.prog 138 [.t 2 (.int .i64 n)] (.t 2 (ints (tab n fun i=>(i:Int)))):=by
 refine fI 18 #[.tmp 2] Tryz.func138 rfl ?_;refine rg0 ?_;refine rg0 ?_;refine zA ?_;refine rg0 ?_;refine zB ?_;refine awp_loop (fun k:Nat=>mkS [(3,.own 0 n),(8,.t 2 (.int .i64 n)),(9,.t 2 (.int .i64 k))] [(0,.row 3 1 2 (tab n fun i=>.int .i64 (if i<k then(i:Int)else 0)))] 1 18 [.any]) (fun k=>k<=n) (fun k=>n-k) ?_ ?_
 ·refine⟨0,by omega,?_⟩;exact kw1 [(0,some 2000000)] @zz
 ·intro k hk;refine rg0 ?_;by_cases hlt:k<n
  ·refine zA ?_;refine cT1 @hlt ?_;refine zQ ?_;refine zA ?_;refine zB ?_;refine rg0 ?_;refine rr1 @hlt ?_;refine rr0 ?_;refine⟨k+1,by omega,by omega,?_⟩;refine zH [(0,some 0)] rfl ?_ ?_ ?_ ?_
   all_goals try simp
   rw[zb];refine zK (fun i hi=>?_);by_cases e:i=k
   ·simp[e]
   ·rw[if_neg e];by_cases e2:i<k
    ·rw[if_pos e2,if_pos (by omega)]
    ·rw[if_neg e2,if_neg (by omega)]
  ·refine zA ?_;refine cF1 @hlt ?_;refine zE ?_;refine rg0 ?_;refine zC ?_;refine⟨⟨.inr rfl,_,[],rfl,trivial,trivial,by simp,?_⟩,by simp⟩;simp[ints];rw[zT];exact zK (fun i hi=>by rw[if_pos (by omega)])
theorem zLw(n:Nat)(f:Nat->Nat)(m:Nat)(g:Nat->Int)(hn:n<=1000000)(hf: ∀i,i<n->f i<m):FnA Tryz.prog 139 [.t 0 (ints (tab n fun i=>(f i:Int))),.t 0 (ints (tab m g))] (.t 2 (ints (tab n fun i=>g (f i)))):=by
 refine fI 27 #[.tmp 4] Tryz.func139 rfl ?_;refine rg0 ?_;refine rg0 ?_;refine zA ?_;refine rg0 ?_;refine zB ?_;refine awp_loop (fun k:Nat=>mkS [(1,.t 0 (ints (tab m g))),(5,.own 0 n),(11,.t 0 (ints (tab n fun i=>(f i:Int)))),(12,.t 2 (.int .i64 n)),(13,.t 2 (.int .i64 k))] [(0,.row 3 1 2 (tab n fun i=>.int .i64 (if i<k then g (f i)else 0)))] 1 27 [.any,.any]) (fun k=>k<=n) (fun k=>n-k) ?_ ?_
 ·refine⟨0,by omega,?_⟩;exact kw1 [(0,some 3000000)] @zz
 ·intro k hk;refine rg0 ?_;by_cases hlt:k<n
  ·refine zA ?_;refine cT1 @hlt ?_;refine zQ ?_;refine zA ?_;refine zB ?_;refine rg1 (an @hlt @zBK) ?_;have hfk:=hf k hlt;refine rr1 (an @hlt (an @hfk @zBK)) ?_;refine rr0 ?_;refine⟨k+1,by omega,by omega,?_⟩;refine zH [(0,some 0)] rfl ?_ ?_ ?_ ?_
   all_goals try simp[ints]
   rw[zb];refine zK (fun i hi=>?_);by_cases e:i=k
   ·simp[e]
   ·rw[if_neg e];by_cases e2:i<k
    ·rw[if_pos e2,if_pos (by omega)]
    ·rw[if_neg e2,if_neg (by omega)]
  ·refine zA ?_;refine cF1 @hlt ?_;refine zE ?_;refine rg0 ?_;refine zC ?_;refine⟨⟨.inr rfl,_,[],rfl,trivial,trivial,by simp,?_⟩,by simp[ints]⟩;simp[ints];rw[zT];exact zK (fun i hi=>by rw[if_pos (by omega)])
theorem zh{P:Program}{f:FuncId}{fn:Func}{c:Code}{args:List AV}{H H':List AObj}{G:AV->Prop}(hf:P.funcs[f]? =some fn)(hb:fn.body=some c)(hle:args.length<=fn.ntmps)(h:awp P c (fun e σ=>∃res,G res/\zOr P fn.results.toList res H' e σ/\σ.gh=ghA args) (zCJ args H fn.ntmps)): ∃res,G res/\FnS P f args H res H':=by
 obtain⟨e,σ',h1,res,hG,h2⟩:=h;exact⟨res,hG,zJ4 hf hb hle ⟨e,σ',h1,h2⟩⟩
theorem zSF(xss:List (List Int))(hn:xss.length<=1000000)(hl: ∀x∈xss,x.length<=1000000):FnA Tryz.prog 137 [.t 0 (rows xss)] (.t 2 (rows xss)):=by
 refine fI 20 #[.tmp 2] Tryz.func137 rfl ?_;refine rg0 ?_;refine rg0 ?_;refine zA ?_;refine rg0 ?_;refine zB ?_;refine awp_loop (fun k:Nat=>mkS [(3,.own 0 k),(6,.t 0 (rows xss)),(7,.t 2 (.int .i64 xss.length)),(8,.t 2 (.int .i64 k))] [(0,.row 22 1 2 ((xss.take k).map ints))] 1 20 [.any]) (fun k=>k<=xss.length) (fun k=>xss.length-k) ?_ ?_
 ·refine⟨0,by omega,?_⟩;exact kw1 [(0,none)] @rows.eq_1
 ·intro k hk;refine rg0 ?_;by_cases hlt:k<xss.length
  ·have hlk:=hl xss[k] (by simp);refine zA ?_;refine cT1 @hlt ?_;refine zQ ?_;refine zA ?_;refine zB ?_;refine rg1 @hlt ?_;refine rr1 @hlt ?_;refine rr0 ?_;refine⟨k+1,by omega,by omega,?_⟩;refine zH [(0,some 0)] rfl ?_ ?_ ?_ ?_
   all_goals try simp[rows]
   rw[Qf (by simpa using hlt)];simp[ints]
  ·refine zA ?_;refine cF1 @hlt ?_;refine zE ?_;refine rg0 ?_;refine zC ?_;refine⟨⟨.inr rfl,_,[],rfl,trivial,trivial,by simp,?_⟩,by simp[rows]⟩;simp[rows];have:k=xss.length:=by omega
   subst this;simp;rw[Qn (by simp)]
inductive Tm where
 |mk (op n:Int) (args:List Tm)
instance:Inhabited Tm:=⟨.mk 0 0 []⟩
def Tm.op:Tm->Int
 | .mk o _ _=>o
def Tm.n:Tm->Int
 | .mk _ n _=>n
def Tm.args:Tm->List Tm
 | .mk _ _ a=>a
mutual
def Tm.cells:Tm->List T
 | .mk o n l=>[.int .i64 o,.int .i64 n,.sl 3 (cellsL l)]
def cellsL:List Tm->List T
 |[]=>[]
 |a::r=>a.cells++cellsL r
end
mutual
def Tm.sz:Tm->Nat
 | .mk _ _ l=>1+szL l
def szL:List Tm->Nat
 |[]=>0
 |a::r=>a.sz+szL r
end
theorem Tm.zAq(t:Tm):t.cells=[.int .i64 t.op,.int .i64 t.n,.sl 3 (cellsL t.args)]:=by
 cases t;rfl
@[simp] theorem Tm.zNV(t:Tm):t.cells.length=3:=by rw[Tm.zAq];rfl
@[simp] theorem zLX: ∀l:List Tm,(cellsL l).length=l.length*3
 |[]=>rfl
 |a::r=>by
  show(a.cells++cellsL r).length=_;rw[List.length_append,Tm.zNV,zLX r,List.length_cons];omega
theorem zFu: ∀l r:List Tm,cellsL (l++r)=cellsL l++cellsL r
 |[],r=>rfl
 |a::l,r=>by
  show a.cells++cellsL (l++r)=(a.cells++cellsL l)++cellsL r;rw[zFu l r,List.append_assoc]
theorem zA9: ∀(l:List Tm) (i:Nat) (h:i<l.length),((cellsL l).drop (i*3)).take 3=l[i].cells
 |a::l,0,h=>by
  show((a.cells++cellsL l).drop 0).take 3=a.cells;rw[List.drop_zero];exact List.take_left' (by simp)
 |a::l,i+1,h=>by
  show((a.cells++cellsL l).drop ((i+1)*3)).take 3=(l[i]'(by simpa using h)).cells;rw[show(i+1)*3=a.cells.length+i*3 by simp;omega,List.drop_append];simp only[List.drop_eq_nil_of_le (show a.cells.length<=a.cells.length+i*3 by omega),List.nil_append,Nat.add_sub_cancel_left];exact zA9 l i (by simpa using h)
theorem zIY(t:Tm):t.sz=1+szL t.args:=by cases t;rfl
theorem zNn: ∀{l:List Tm} {a:Tm},a∈l->a.sz<=szL l
 |b::l,a,h=>by
  show a.sz<=b.sz+szL l;rcases List.mem_cons.1 h with rfl|h
  ·omega
  ·have:=zNn h;omega
theorem zJM: ∀l r:List Tm,szL (l++r)=szL l+szL r
 |[],r=>by show szL r=0+szL r;omega
 |a::l,r=>by
  show a.sz+szL (l++r)=(a.sz+szL l)+szL r;rw[zJM l r];omega
theorem zKP{t a:Tm}(h:a∈t.args):a.sz<t.sz:=by
 have:=zNn h;rw[zIY t];omega
theorem zNy(t:Tm):0<t.sz:=by rw[zIY];omega
def Tm.wf(t:Tm):Bool:=decide ((t.op=1/\t.n=0/\t.args.length=0)\/(t.op=2/\0<=t.n/\t.n<6/\t.args.length=0)\/(t.op=3/\t.n=0/\2<=t.args.length)\/(t.op=4/\ -1<=t.n/\t.n<=9/\t.args.length=1))
mutual
def Tm.ok:Tm->Bool
 | .mk o n l=>Tm.wf (.mk o n l)&&zCL l
def zCL:List Tm->Bool
 |[]=>true
 |a::r=>a.ok&&zCL r
end
theorem ok_eq(t:Tm):t.ok=(t.wf&&zCL t.args):=by cases t;rfl
theorem zJ7: ∀l r:List Tm,zCL (l++r)=(zCL l&&zCL r)
 |[],r=>by show zCL r=(true&&zCL r);simp
 |a::l,r=>by
  show(a.ok&&zCL (l++r))=((a.ok&&zCL l)&&zCL r);rw[zJ7 l r,Bool.and_assoc]
def tmV(p:Nat)(t:Tm):AV:=.agg [.t 2 (.int .i64 t.op),.t 2 (.int .i64 t.n),.t p (.sl 3 (cellsL t.args))]
def Tm.val(t:Tm):Bool:=t.ok&&decide (t.sz<=60)
theorem zGq(t:Tm):FnA Tryz.prog 190 [tmV 0 t] (.t 2 (.bool t.wf)):=by
 obtain⟨o,n,as_⟩:=t;refine fI 59 #[.tmp 2] Tryz.func190 rfl ?_;refine zF fun K hK=>?_
 simp(maxSteps:=2000000)(disch:=omega)[tmV,Tm.op,Tm.n,Tm.args];and_intros<;>try first|apply hK|omega|rfl|simp<;>omega
 refine zA ?_;refine rg0 ?_;refine zB ?_;refine rg0 ?_;by_cases h1:o=1
 ·refine cT1 @h1 ?_;by_cases hn:n=0
  ·refine rg1 @hn ?_
   all_goals (refine zC ?_;refine⟨⟨.inr rfl,_,[],rfl,trivial,trivial,by simp,?_⟩,by simp[tmV,Tm.op,Tm.n,Tm.args,h1,hn]⟩;simp[Tm.wf,Tm.op,Tm.n,Tm.args,h1,hn])
   cases as_<;>simp;omega
  ·have hb:(n==0)=false:=by simpa using hn
   refine rg1 @hb ?_
   all_goals (refine zC ?_;refine⟨⟨.inr rfl,_,[],rfl,trivial,trivial,by simp,?_⟩,by simp[tmV,Tm.op,Tm.n,Tm.args,h1]⟩;simp[Tm.wf,Tm.op,Tm.n,Tm.args,h1,hn])
 refine cF1 @h1 ?_;refine rg0 ?_;by_cases h2:o=2
 ·refine cT1 @h2 ?_;by_cases hn:0<=n
  all_goals by_cases hn2:n<6
  all_goals
   refine rg1 (an @hn @hn2) ?_
   all_goals (refine zC ?_;refine⟨⟨.inr rfl,_,[],rfl,trivial,trivial,by simp,?_⟩,by simp[tmV,Tm.op,Tm.n,Tm.args,h2]⟩;simp[Tm.wf,Tm.op,Tm.n,Tm.args,h2,hn,hn2])
  cases as_<;>simp;omega
 refine cF1 @h2 ?_;refine rg0 ?_;by_cases h3:o=3
 ·refine cT1 @h3 ?_;by_cases hn:n=0
  ·refine rg1 @hn ?_
   all_goals (refine zC ?_;refine⟨⟨.inr rfl,_,[],rfl,trivial,trivial,by simp,?_⟩,by simp[tmV,Tm.op,Tm.n,Tm.args,h3,hn]⟩;simp[Tm.wf,Tm.op,Tm.n,Tm.args,h3,hn])
   omega
  ·have hb:(n==0)=false:=by simpa using hn
   refine rg1 @hb ?_
   all_goals (refine zC ?_;refine⟨⟨.inr rfl,_,[],rfl,trivial,trivial,by simp,?_⟩,by simp[tmV,Tm.op,Tm.n,Tm.args,h3]⟩;simp[Tm.wf,Tm.op,Tm.n,Tm.args,h3,hn])
 refine cF1 @h3 ?_;refine rg0 ?_;by_cases h4:o=4
 ·refine cT1 @h4 ?_;by_cases hn: -1<=n
  all_goals by_cases hn2:n<=9
  all_goals
   refine rg1 (an @hn @hn2) ?_
   all_goals (refine zC ?_;refine⟨⟨.inr rfl,_,[],rfl,trivial,trivial,by simp,?_⟩,by simp[tmV,Tm.op,Tm.n,Tm.args,h4]⟩;simp[Tm.wf,Tm.op,Tm.n,Tm.args,h4,hn,hn2])
  by_cases e:as_.length=1<;>simp[e];omega
 refine cY1 @h4 ?_;refine rg0 ?_;refine zC ?_;refine⟨⟨.inr rfl,_,[],rfl,trivial,trivial,by simp,?_⟩,by simp[tmV,Tm.op,Tm.n,Tm.args]⟩;simp[Tm.wf,Tm.op,Tm.n,Tm.args,h1,h2,h3,h4]
theorem zDQ: ∀{l:List Tm},zCL l=true↔ ∀a∈l,a.ok=true
 |[]=>by simp[zCL]
 |a::l=>by
  show(a.ok&&zCL l)=true↔_;rw[Qz,zDQ];simp
def zHT(t:Tm)(lim:Int):Int:=if t.ok=true/\(t.sz:Int)<=lim then(t.sz:Int)else lim+1
theorem zRW{l:List Tm}{k:Nat}(h:k<l.length):szL (l.take (k+1))=szL (l.take k)+l[k].sz:=by
 rw[Qf h,zJM];show _+(l[k].sz+0)=_;omega
theorem zSA{l:List Tm}{k:Nat}(h:k<l.length):zCL (l.take (k+1))=(zCL (l.take k)&&l[k].ok):=by
 rw[Qf h,zJ7];show _=_;simp[zCL]
theorem zE3(l:List Tm)(k:Nat):szL (l.take k)<=szL l:=by
 have:=zJM (l.take k) (l.drop k);rw[List.take_append_drop]at this;omega
theorem zHB: ∀l:List Tm,l.length<=szL l
 |[]=>Qy _
 |a::l=>by
  have:=zHB l;have:=zNy a;show l.length+1<=a.sz+szL l;omega
def zES(t:Tm)(k:Nat):Nat:=1+szL (t.args.take k)
theorem zOn{t:Tm}{k:Nat}(h:k<t.args.length):zES t (k+1)=zES t k+t.args[k].sz:=by
 unfold zES;rw[zRW h];omega
theorem zRq(t:Tm)(k:Nat):zES t k<=t.sz:=by
 unfold zES;rw[zIY];have:=zE3 t.args k;omega
theorem zKn(t:Tm):zES t t.args.length=t.sz:=by
 unfold zES;rw[List.take_length,zIY]
theorem zPA: ∀(t:Tm) (lim:Int),0<=lim->lim<=1000000->FnA Tryz.prog 176 [tmV 0 t,.t 2 (.int .i64 lim)] (.t 2 (.int .i64 (zHT t lim))):=by
 intro t
 induction hsz:t.sz using Nat.strongRecOn generalizing t with
 |_ q ih=>
 intro lim hl0 hl1;have hW:=zGq t;have hszp:=zNy t;refine fI 36 #[.tmp 4] Tryz.func176 rfl ?_;refine rg1 @tmV.eq_1 ?_;refine zA ?_;by_cases hlim:lim<1
 ·have hn:zHT t lim=lim+1:=by unfold zHT;rw[if_neg (by omega)]
  refine rg1 @hlim ?_;refine cT1 @hlim ?_;refine rg0 ?_
  all_goals (refine zC ?_;refine⟨⟨.inr rfl,_,[],rfl,trivial,trivial,by simp,?_⟩,by simp[tmV]⟩;simp[hn])
 by_cases hwf:t.wf=true
 case neg=>
  have hwf':t.wf=false:=by simpa using hwf
  have hok:t.ok=false:=by rw[ok_eq,hwf'];rfl
  have hn:zHT t lim=lim+1:=by unfold zHT;rw[if_neg (by simp[hok])]
  rw[hwf']at hW;refine rc1 hW (an @hlim @tmV.eq_1) ?_;refine cT0 ?_;refine rg0 ?_
  all_goals (refine zC ?_;refine⟨⟨.inr rfl,_,[],rfl,trivial,trivial,by simp,?_⟩,by simp[tmV]⟩;simp[hn])
 rw[hwf]at hW;refine rc1 hW (an @hlim @tmV.eq_1) ?_;refine cS0 ?_;refine rg0 ?_;refine zA ?_;refine rg0 ?_;refine zB ?_;refine awp_loop (fun k:Nat=>mkS [(1,.t 2 (.int .i64 lim)),(5,.t 2 (.int .i64 (zES t k:Int))),(18,.t 0 (.sl 3 (cellsL t.args))),(19,.t 2 (.int .i64 t.args.length)),(20,.t 2 (.int .i64 k))] [] 0 36 [.any,.any]) (fun k=>k<=t.args.length/\zCL (t.args.take k)=true/\(zES t k:Int)<=lim) (fun k=>t.args.length-k) ?_ ?_
 ·refine⟨0,⟨by omega,rfl,by simp[zES,szL];omega⟩,?_⟩;refine zH [] rfl ?_ ?_ ?_ ?_
  all_goals try simp[zES,szL]
 rintro k ⟨hk,hok,hn1⟩;refine rg0 ?_;refine zA ?_;by_cases hkl:k<t.args.length
 ·obtain⟨a,ha⟩: ∃a,a=t.args[k]:=⟨_,rfl⟩;have hcut:=zA9 t.args k hkl;rw[←ha,Tm.zAq]at hcut;have ham:a∈t.args:=by rw[ha];exact List.getElem_mem hkl
  have hlt:=zKP ham;have hIH:=ih a.sz (by omega) a rfl (lim-(zES t k:Int)) (by omega) (by omega);have hts:=zOn hkl;have hkb:k<=zES t k:=by
   have:=zHB (t.args.take k);rw[List.length_take]at this;unfold zES;omega
  have hto:=zSA hkl;rw[←ha]at hts hto;rw[hok,Bool.true_and]at hto;refine cK1 @hkl ?_;refine zA ?_;refine zB ?_;refine rg1 (an @hcut @hkl) ?_;by_cases hgood:a.ok=true/\(a.sz:Int)<=lim-(zES t k:Int)
  ·have hnd:zHT a (lim-(zES t k:Int))=(a.sz:Int):=by unfold zHT;rw[if_pos hgood]
   rw[hnd]at hIH;have hle: ¬lim<(zES t k:Int)+(a.sz:Int):=by omega
   refine rc1 hIH @tmV.eq_1 ?_;refine rg0 ?_;refine cY1 @hle ?_;refine rr0 ?_;refine⟨k+1,⟨by omega,by rw[hto];exact hgood.1,by omega⟩,by omega,?_⟩;exact kw1 [] @hts
  ·have hnd:zHT a (lim-(zES t k:Int))=lim-(zES t k:Int)+1:=by unfold zHT;rw[if_neg hgood]
   have hres:zHT t lim=lim+1:=by
    unfold zHT;rw[if_neg];rintro⟨h1,h2⟩;rw[ok_eq,Qz]at h1;have h3:=zDQ.1 h1.2 a ham;have h4:=zRq t (k+1);exact hgood ⟨h3,by omega⟩
   rw[hnd]at hIH;have hgt:lim<(zES t k:Int)+(lim-(zES t k:Int)+1):=by omega
   have heq:(zES t k:Int)+(lim-(zES t k:Int)+1)=lim+1:=by omega
   refine rc1 hIH @tmV.eq_1 ?_;refine rg0 ?_;refine cT1 @hgt ?_;refine zE ?_;refine rg0 ?_
   all_goals (refine zC ?_;refine⟨⟨.inr rfl,_,[],rfl,trivial,trivial,by simp,?_⟩,by simp[tmV]⟩;simp[hres,heq])
 obtain rfl:k=t.args.length:=by omega
 rw[List.take_length]at hok;have hres:zHT t lim=(zES t t.args.length:Int):=by
  unfold zHT;rw[if_pos ⟨by rw[ok_eq,hwf,hok];rfl,by rw[←zKn];exact hn1⟩,zKn]
 refine cF0 ?_;refine zE ?_;refine rg0 ?_
 all_goals (refine zC ?_;refine⟨⟨.inr rfl,_,[],rfl,trivial,trivial,by simp,?_⟩,by simp[tmV]⟩;simp[hres])
def vTm(t:Tm):Int:=if t.val=true then 0 else 21
theorem zRD(t:Tm):(60<zHT t 60)=(t.val=false):=by
 apply propext;unfold zHT Tm.val;by_cases h:t.ok=true/\(t.sz:Int)<=60
 ·rw[if_pos h];have h2:t.sz<=60:=by omega
  simp[h.1,h2];omega
 ·rw[if_neg h];have h2: ¬(t.ok=true/\t.sz<=60):=fun h3=>h ⟨h3.1,by omega⟩
  constructor
  ·intro _;by_cases h4:t.ok=true
   ·have: ¬t.sz<=60:=fun h5=>h2 ⟨h4,h5⟩
    simp[this]
   ·simp[h4]
  ·intro _;omega
theorem zD4(t:Tm):FnA Tryz.prog 144 [tmV 0 t] (.t 2 (.int .i64 (vTm t))):=by
 have hN:=zPA t 60 (by omega) (by omega);have h60:=zRD t;refine fI 6 #[.tmp 2] Tryz.func144 rfl ?_;refine rg1 @tmV.eq_1 ?_;refine zA ?_;refine rc1 hN @tmV.eq_1 ?_;by_cases hv:t.val=true
 ·have h1: ¬60<zHT t 60:=by rw[h60,hv];simp
  refine cS1 @h1 ?_;refine rg0 ?_
  all_goals (refine zC ?_;refine⟨⟨.inr rfl,_,[],rfl,trivial,trivial,by simp,?_⟩,by simp[tmV]⟩;simp[vTm,hv])
 ·have h1:60<zHT t 60:=by rw[h60];simpa using hv
  refine cT1 @h1 ?_;refine rg0 ?_
  all_goals (refine zC ?_;refine⟨⟨.inr rfl,_,[],rfl,trivial,trivial,by simp,?_⟩,by simp[tmV]⟩;simp[vTm,hv])
def idV(p:Nat)(a b:Tm):AV:=.agg [.t 2 (.int .i64 a.op),.t 2 (.int .i64 a.n),.t p (.sl 3 (cellsL a.args)),.t 2 (.int .i64 b.op),.t 2 (.int .i64 b.n),.t p (.sl 3 (cellsL b.args))]
def vId(a b:Tm):Int:=if a.val=true then vTm b else 21
theorem zBZ(a b:Tm):FnA Tryz.prog 92 [idV 0 a b] (.t 2 (.int .i64 (vId a b))):=by
 have hA:=zD4 a;have hB:=zD4 b;refine fI 13 #[.tmp 2] Tryz.func92 rfl ?_;refine rg1 @idV.eq_1 ?_;refine zA ?_;refine rc1 hA @tmV.eq_1 ?_;by_cases hv:a.val=true
 ·have h0:vTm a=0:=by unfold vTm;rw[if_pos hv]
  refine rg1 @h0 ?_;refine cS1 @h0 ?_;refine rc1 hB @tmV.eq_1 ?_
  all_goals (refine zC ?_;refine⟨⟨.inr rfl,_,[],rfl,trivial,trivial,by simp,?_⟩,by simp[idV]⟩;simp[vId,hv])
 ·have h0:vTm a=21:=by unfold vTm;rw[if_neg hv]
  refine rg1 @h0 ?_;refine cT1 @h0 ?_;refine rg0 ?_
  all_goals (refine zC ?_;refine⟨⟨.inr rfl,_,[],rfl,trivial,trivial,by simp,?_⟩,by simp[idV]⟩;simp[vId,hv])
end Go.Proofs.YtgmcbpjplcjmdaaGreat.M
