/-
  Drawn regions in which fields of a variable are pointed to while others are stored: the shape of the variable does not turn.
  The words of the logic as rules of simp, so that the walks need not name them.
  Steps of a walk in my logic, one lemma each: what a step leaves to be shown is shown by the tactic that the lemma bears.
  Walks in my logic: letter, Same, Find, Discrete, Compose.
  Walks in my logic: Discrete, Compose, Copy.
  Walks in my logic: Copy, Word, Valid, MayGens.
  Walks in my logic: Word, Valid, MayGens.
  Walk: MayGens. Plain law: enumerations of transformations, by lists.
  Walk in my logic: Start.
  Walk in my logic: process.
  Walks in my logic: Build, Table.
  Plain law: an enumeration that is closed under the letters is determined by its generators.
-/
import Derived.Test.YtgelfgpcnaeecaaGreatDoorZsab
import Derived.Test.YtgelfgpcnaeecaaGreatDoorZsac
namespace Go.Proofs.YtgelfgpcnaeecaaGreatDoor.M
open Go.RowKit
set_option linter.unusedVariables false
set_option linter.unusedSimpArgs false
set_option maxRecDepth 100000
set_option maxHeartbeats 32000000

def sameB : Option AObj -> Option AObj -> Bool
 | some (.box ty cs),some (.box ty' ds)=>decide (ty = ty') && decide (cs.length = ds.length)
 | _,_=>false
def okH : List Nat -> (Nat -> Option AObj) -> (Nat -> Option AObj) -> Bool
 | [],_,_=>true
 | k :: r,H,H'=>sameB (H k) (H' k) && okH r H H'
def isShO : Op -> Bool
 | .nilCheck _=>true
 | .fieldAddr _ _ _=>true
 | .indexAddr _ _ _=>true
 | _=>false
def zUU (S tch : List Nat) : List Nat:=tch.filter fun k=>!S.contains k
def zUe (S : List Nat) (op : Op) (tch : List Nat) : List Nat:=if isShO op = true then zUU S tch else tch
section
variable {P : Program} {i : Nat} {H H2 : Nat -> Option AObj} {c : Bool} {eff : Eff} {S : List Nat}
end
def awpOpDS (P : Program) (ops : Array Oper) (S : List Nat) (i : Nat) (o : Oper) (σ : ASt) (K : ASt -> List Nat × List Nat -> Prop) : Prop:=match gd ops σ o with
 | some true=>match aop P i o.op σ.eval σ.heap with
  | some (c,eff)=>c = true /\ zAu σ o = true /\ okH S σ.heap (σ.app o.dst eff).heap = true /\ K (σ.app o.dst eff) (zUe S o.op eff.tch ++ wrE eff,wrE eff)
  | none=>zCt P ops i o σ (fun σ' s=>okH S σ.heap σ'.heap = true /\ K σ' s)
 | some false=>zAu σ o = true /\ okH S σ.heap σ.heap = true /\ K (σ.app o.dst { val:=.tup [] }) ([],[])
 | none=>False
def zLf (P : Program) (ops : Array Oper) (S : List Nat) (N : Nat) : List Oper -> Nat -> ASt -> List (List Nat × List Nat) -> (ASt -> Prop) -> Prop
 | [],k,σ,sm,K=>zA8 ops sm = true /\ K { σ with nxt:=N + k }
 | o :: r,k,σ,sm,K=>awpOpDS P ops S (N + k) o σ (fun σ' s=>zLf P ops S N r (k + 1000000) σ' (sm ++ [s]) K)
def KDS (P : Program) (ops : Array Oper) (S : List Nat) (N : Nat) (r : List Oper) (k : Nat) (sm : List (List Nat × List Nat)) (K : ASt -> Prop) : ASt -> List Nat × List Nat -> Prop:=fun σ s=>zLf P ops S N r k σ (sm ++ [s]) K
theorem zSG (P : Program) (ops : Array Oper) (S : List Nat) (N : Nat) (r : List Oper) (k : Nat) (sm : List (List Nat × List Nat)) (K : ASt -> Prop) (σ : ASt) (s : List Nat × List Nat) : KDS P ops S N r k sm K σ s = zLf P ops S N r k σ (sm ++ [s]) K:=rfl
theorem zMe (P : Program) (ops : Array Oper) (S : List Nat) (N k : Nat) (σ : ASt) (sm : List (List Nat × List Nat)) (K : ASt -> Prop) : zLf P ops S N [] k σ sm K = (zA8 ops sm = true /\ K { σ with nxt:=N + k }):=rfl
theorem zKW (P : Program) (ops : Array Oper) (S : List Nat) (N k : Nat) (o : Oper) (r : List Oper) (σ : ASt) (sm : List (List Nat × List Nat)) (K : ASt -> Prop) : zLf P ops S N (o :: r) k σ sm K = awpOpDS P ops S (N + k) o σ (KDS P ops S N r (k + 1000000) sm K):=rfl
end Go.Proofs.YtgelfgpcnaeecaaGreatDoor.M

namespace Go.Proofs.YtgelfgpcnaeecaaGreatDoor.M
attribute [simp] zRB zRG zFN zEB zFV zDs Nat.blt_eq List.getElem?_cons_zero awpOp awpOpD wrE gd aop aBuiltin aNil aMin aMin3 ASt.eval AV.ofV zAu ASt.app Eff.heap dels zBa aLoad aStore aField aFieldV aIndexAddr aIndex aSlice aSliceO aLen aBin iB sB aUn aConv aAlloc aBox aBuild afill avCells AV.leaf zSO aBuildSlice frz frzL isOwn vecOf tsOf aMake srcOf aAppend aMkMap aMapUpd aLookup oint cut putL AObj.cnt mkS zl zi zj zf zBz callS outV outVs outO zA0 addL delL
attribute [simp] wkE wkP wkPs wkH wkO keysNd unm zAB zr ghA ghA1 resV idxF inPs inP pf1 pfx inOs inO ndL okO mkF zAN zAV zBd zAM zAW zA3 zAs
attribute [simp] aMapNil zMe zKW zSG awpOpDS zUe zUU isShO
end Go.Proofs.YtgelfgpcnaeecaaGreatDoor.M

namespace Go.Proofs.YtgelfgpcnaeecaaGreatDoor.M
open Go.RowKit
set_option linter.unusedVariables false
set_option linter.unusedSimpArgs false
set_option maxRecDepth 100000
set_option maxHeartbeats 32000000

section
variable {P : Program} {Q Q' : Exit -> ASt -> Prop} {σ σ' : ASt} {id : Nat} {ops : Array Oper} {x y : Code} {c : Operand} {A1 A2 A3 A4 A5 A6 : Prop}
theorem rg0 (h : awp P y Q σ') (hv : ∀ K : ASt -> Prop,K σ' -> awpL P ops σ.nxt ops.toList 0 σ K:=by
 intro K hK
 simp (disch:=omega) [ints,rows,scal,zK,wr8]
 (repeat' first | exact hK | apply And.intro) <;> try first | omega | rfl | (simp; done) | (simp; omega)) : awp P (.seq (.region id ops false) y) Q σ:=zI fun K hK=>hv K (hK _ h)
theorem rr0 (h : Q .normal σ') (hv : ∀ K : ASt -> Prop,K σ' -> awpL P ops σ.nxt ops.toList 0 σ K:=by
 intro K hK
 simp (disch:=omega) [ints,rows,scal,zK,wr8]
 (repeat' first | exact hK | apply And.intro) <;> try first | omega | rfl | (simp; done) | (simp; omega)) : awp P (.region id ops false) Q σ:=zAh fun K hK=>hv K (hK _ h)
theorem rd0 (h : awp P y Q σ') (hv : ∀ K : ASt -> Prop,K σ' -> zJc P ops σ.nxt ops.toList 0 σ [] K:=by
 intro K hK
 simp (disch:=omega) [ints,rows,scal,zK,wr8]
 (repeat' first | exact hK | apply And.intro) <;> try first | (show zA8 _ _ = true; kernel_rfl) | (show okH _ _ _ = true; kernel_rfl) | omega | rfl | (simp; done) | (simp; omega)) (hm : P.follows .mixedOrders = true:=by kernel_rfl) : awp P (.seq (.region id ops true) y) Q σ:=zp hm fun K hK=>hv K (hK _ h)
theorem re0 (h : Q .normal σ') (hv : ∀ K : ASt -> Prop,K σ' -> zJc P ops σ.nxt ops.toList 0 σ [] K:=by
 intro K hK
 simp (disch:=omega) [ints,rows,scal,zK,wr8]
 (repeat' first | exact hK | apply And.intro) <;> try first | (show zA8 _ _ = true; kernel_rfl) | (show okH _ _ _ = true; kernel_rfl) | omega | rfl | (simp; done) | (simp; omega)) (hm : P.follows .mixedOrders = true:=by kernel_rfl) : awp P (.region id ops true) Q σ:=zAm hm fun K hK=>hv K (hK _ h)
theorem rc0 {f : FuncId} {args : List AV} {res : AV} (s : FnS P f args [] res []) (h : awp P y Q σ') (hv : let s:=s; ∀ K : ASt -> Prop,K σ' -> awpL P ops σ.nxt ops.toList 0 σ K:=by
 intro s K hK
 simp (disch:=omega) [ints,rows,scal,zK,wr8]
 (repeat' apply And.intro)
 all_goals (try omega)
 refine zD (caps:=[]) s [] [] 2 (by first | rfl | simp [gd]) rfl rfl rfl (by kernel_rfl) (by simp [zAu]) ?_ trivial trivial rfl trivial trivial (by simp [okO]) ?_
 ·simp [scal,rows,ints]
 simp (disch:=omega) [ints,rows,scal,zK,wr8]
 (repeat' first | exact hK | apply And.intro) <;> try first | omega | rfl | (simp; done) | (simp; omega)) : awp P (.seq (.region id ops false) y) Q σ:=zI fun K hK=>hv K (hK _ h)
theorem cF0 (h : awp P y Q σ) (hb : σ.eval c = .t 2 (.bool false):=by
 simp [scal] <;> omega) : awp P (.cond c x y) Q σ:=zAo hb h
theorem cT0 (h : awp P x Q σ) (hb : σ.eval c = .t 2 (.bool true):=by
 simp [scal] <;> omega) : awp P (.cond c x y) Q σ:=zAo hb h
theorem cS0 (h : awp P y Q σ) (hb : σ.eval c = .t 2 (.bool false):=by
 simp [scal] <;> omega) : awp P (.cond c x .skip) (zMr (awp P y Q) Q) σ:=zAo (b:=false) hb (zb h)
theorem cK0 (h : awp P y Q σ) (hb : σ.eval c = .t 2 (.bool true):=by
 simp [scal] <;> omega) : awp P (.cond c .skip x) (zMr (awp P y Q) Q) σ:=zAo (b:=true) hb (zb h)
theorem cY0 (h : Q .normal σ) (hb : σ.eval c = .t 2 (.bool false):=by
 simp [scal] <;> omega) : awp P (.cond c x .skip) Q σ:=zAo (b:=false) hb (zb h)
theorem cZ0 (h : Q .normal σ) (hb : σ.eval c = .t 2 (.bool true):=by
 simp [scal] <;> omega) : awp P (.cond c .skip x) Q σ:=zAo (b:=true) hb (zb h)
theorem rt0 {B : Prop} (h : B:=by
 refine ⟨⟨.inr rfl,_,[],rfl,trivial,trivial,by simp [ghA,ghA1,wkPs,wkP,mkS,zBz],?_⟩,by simp [ghA,ghA1,mkS,zBz]⟩
 simp [wkP,wkPs,zBa,unm,mkS]) : B:=h
theorem kw0 {el : List (Nat × AV)} {hl : List (Nat × AObj)} {nx nt : Nat} {gh : List AV} (mp : List (Nat × Option Nat)) (he : wkE σ (mpOf mp) (unm mp) nx el:=by
 simp [ints]) (hh : wkH σ (mpOf mp) (unm mp) nx hl mp:=by
 simp [ints]) (hn : keysNd mp:=by
 simp [ints]) (hg : wkPs σ.heap (mpOf mp) (unm mp) nx σ.gh gh:=by
 simp [ints]) (hnt : nt = σ.nt:=by rfl) : Wk σ (mkS el hl nx nt gh):=zQ mp hnt he hh hn hg
theorem rg1 (a1 : A1) (h : awp P y Q σ') (hv : let b1:=a1; ∀ K : ASt -> Prop,K σ' -> awpL P ops σ.nxt ops.toList 0 σ K:=by
 intro b1 K hK
 simp (disch:=omega) [b1,ints,rows,scal,zK,wr8]
 (repeat' first | exact hK | apply And.intro) <;> try first | omega | rfl | (simp; done) | (simp; omega)) : awp P (.seq (.region id ops false) y) Q σ:=zI fun K hK=>hv K (hK _ h)
theorem rr1 (a1 : A1) (h : Q .normal σ') (hv : let b1:=a1; ∀ K : ASt -> Prop,K σ' -> awpL P ops σ.nxt ops.toList 0 σ K:=by
 intro b1 K hK
 simp (disch:=omega) [b1,ints,rows,scal,zK,wr8]
 (repeat' first | exact hK | apply And.intro) <;> try first | omega | rfl | (simp; done) | (simp; omega)) : awp P (.region id ops false) Q σ:=zAh fun K hK=>hv K (hK _ h)
theorem rd1 (a1 : A1) (h : awp P y Q σ') (hv : let b1:=a1; ∀ K : ASt -> Prop,K σ' -> zJc P ops σ.nxt ops.toList 0 σ [] K:=by
 intro b1 K hK
 simp (disch:=omega) [b1,ints,rows,scal,zK,wr8]
 (repeat' first | exact hK | apply And.intro) <;> try first | (show zA8 _ _ = true; kernel_rfl) | (show okH _ _ _ = true; kernel_rfl) | omega | rfl | (simp; done) | (simp; omega)) (hm : P.follows .mixedOrders = true:=by kernel_rfl) : awp P (.seq (.region id ops true) y) Q σ:=zp hm fun K hK=>hv K (hK _ h)
theorem re1 (a1 : A1) (h : Q .normal σ') (hv : let b1:=a1; ∀ K : ASt -> Prop,K σ' -> zJc P ops σ.nxt ops.toList 0 σ [] K:=by
 intro b1 K hK
 simp (disch:=omega) [b1,ints,rows,scal,zK,wr8]
 (repeat' first | exact hK | apply And.intro) <;> try first | (show zA8 _ _ = true; kernel_rfl) | (show okH _ _ _ = true; kernel_rfl) | omega | rfl | (simp; done) | (simp; omega)) (hm : P.follows .mixedOrders = true:=by kernel_rfl) : awp P (.region id ops true) Q σ:=zAm hm fun K hK=>hv K (hK _ h)
theorem rc1 {f : FuncId} {args : List AV} {res : AV} (s : FnS P f args [] res []) (a1 : A1) (h : awp P y Q σ') (hv : let s:=s; let b1:=a1; ∀ K : ASt -> Prop,K σ' -> awpL P ops σ.nxt ops.toList 0 σ K:=by
 intro s b1 K hK
 simp (disch:=omega) [b1,ints,rows,scal,zK,wr8]
 (repeat' apply And.intro)
 all_goals (try omega)
 refine zD (caps:=[]) s [] [] 2 (by first | rfl | simp [b1,gd]) rfl rfl rfl (by kernel_rfl) (by simp [zAu]) ?_ trivial trivial rfl trivial trivial (by simp [okO]) ?_
 ·simp [b1,scal,rows,ints]
 simp (disch:=omega) [b1,ints,rows,scal,zK,wr8]
 (repeat' first | exact hK | apply And.intro) <;> try first | omega | rfl | (simp; done) | (simp; omega)) : awp P (.seq (.region id ops false) y) Q σ:=zI fun K hK=>hv K (hK _ h)
theorem rq1 {f : FuncId} {args : List AV} {res : AV} (s : FnS P f args [] res []) (a1 : A1) (h : awp P y Q σ') (hv : let s:=s; let b1:=a1; ∀ K : ASt -> Prop,K σ' -> zJc P ops σ.nxt ops.toList 0 σ [] K:=by
 intro s b1 K hK
 simp (disch:=omega) [b1,ints,rows,scal,zK,wr8]
 (repeat' apply And.intro)
 all_goals (try omega)
 refine zS (caps:=[]) s [] [] 2 (by first | rfl | simp [b1,gd]) rfl rfl rfl (by kernel_rfl) (by simp [zAu]) ?_ trivial trivial rfl trivial trivial (by simp [okO]) ?_
 ·simp [b1,scal,rows,ints]
 simp (disch:=omega) [b1,ints,rows,scal,zK,wr8]
 (repeat' first | exact hK | apply And.intro) <;> try first | (show zA8 _ _ = true; kernel_rfl) | (show okH _ _ _ = true; kernel_rfl) | omega | rfl | (simp; done) | (simp; omega)) (hm : P.follows .mixedOrders = true:=by kernel_rfl) : awp P (.seq (.region id ops true) y) Q σ:=zp hm fun K hK=>hv K (hK _ h)
theorem cF1 (a1 : A1) (h : awp P y Q σ) (hb : let b1:=a1; σ.eval c = .t 2 (.bool false):=by
 intro b1; simp [b1,scal] <;> omega) : awp P (.cond c x y) Q σ:=zAo hb h
theorem cT1 (a1 : A1) (h : awp P x Q σ) (hb : let b1:=a1; σ.eval c = .t 2 (.bool true):=by
 intro b1; simp [b1,scal] <;> omega) : awp P (.cond c x y) Q σ:=zAo hb h
theorem cS1 (a1 : A1) (h : awp P y Q σ) (hb : let b1:=a1; σ.eval c = .t 2 (.bool false):=by
 intro b1; simp [b1,scal] <;> omega) : awp P (.cond c x .skip) (zMr (awp P y Q) Q) σ:=zAo (b:=false) hb (zb h)
theorem cK1 (a1 : A1) (h : awp P y Q σ) (hb : let b1:=a1; σ.eval c = .t 2 (.bool true):=by
 intro b1; simp [b1,scal] <;> omega) : awp P (.cond c .skip x) (zMr (awp P y Q) Q) σ:=zAo (b:=true) hb (zb h)
theorem cY1 (a1 : A1) (h : Q .normal σ) (hb : let b1:=a1; σ.eval c = .t 2 (.bool false):=by
 intro b1; simp [b1,scal] <;> omega) : awp P (.cond c x .skip) Q σ:=zAo (b:=false) hb (zb h)
theorem rt1 {B : Prop} (a1 : A1) (h : let b1:=a1; B:=by
 intro b1; refine ⟨⟨.inr rfl,_,[],rfl,trivial,trivial,by simp [b1,ghA,ghA1,wkPs,wkP,mkS,zBz],?_⟩,by simp [b1,ghA,ghA1,mkS,zBz]⟩
 simp [b1,wkP,wkPs,zBa,unm,mkS]) : B:=h
theorem kw1 {el : List (Nat × AV)} {hl : List (Nat × AObj)} {nx nt : Nat} {gh : List AV} (mp : List (Nat × Option Nat)) (a1 : A1) (he : let b1:=a1; wkE σ (mpOf mp) (unm mp) nx el:=by
 intro b1; simp [b1,ints]) (hh : let b1:=a1; wkH σ (mpOf mp) (unm mp) nx hl mp:=by
 intro b1; simp [b1,ints]) (hn : let b1:=a1; keysNd mp:=by
 intro b1; simp [b1,ints]) (hg : let b1:=a1; wkPs σ.heap (mpOf mp) (unm mp) nx σ.gh gh:=by
 intro b1; simp [b1,ints]) (hnt : nt = σ.nt:=by rfl) : Wk σ (mkS el hl nx nt gh):=zQ mp hnt he hh hn hg
theorem zCW {B : Prop} (a1 : A1) (h : let b1:=a1; B:=by
 intro b1; refine ⟨⟨.inr rfl,_,[(0,some 0)],(by first | rfl | (simp [b1,ints,rows,scal]; rfl)),?_,?_,?_,?_⟩,?_⟩ <;> first | (simp [b1,ints,rows,scal]; done) | rfl | trivial | omega) : B:=h
theorem zPt {B : Prop} (a1 : A1) (h : let b1:=a1; B:=by
 intro b1; refine ⟨⟨.inr rfl,_,[(0,some 0),(1,some 1),(2,some 2)],(by first | rfl | (simp [b1,ints,rows,scal]; rfl)),?_,?_,?_,?_⟩,?_⟩ <;> first | (simp [b1,ints,rows,scal]; done) | rfl | trivial | omega) : B:=h
theorem kf1 {el : List (Nat × AV)} {hl : List (Nat × AObj)} {base n : Nat} {F : Nat -> AObj} {nx nt : Nat} {gh : List AV} (mp : List (Nat × Option Nat)) (g : Nat -> Nat) (a1 : A1) (he : let b1:=a1; wkE σ (zBY mp base n g) (zBd mp n g) nx el:=by
 intro b1; first | (simp +contextual (disch:=omega) [b1,wkE,wkP,wkPs,wkH,wkO,keysNd,unm,zAB,zr,dels,zBa,mkS,mkF,zl,zi,zj,zf,zAN,zAV,zBd,zAM,zAW,zA3,zAs,zL,zM,zV,zW,zw,List.getElem?_cons_zero,List.getElem?_cons_succ,Option.getD_some,zBz,callS,callF,zA0,addL,delL,outV,outVs,outO,ghA,ghA1,ints,scal,zF,zH]; done) | omega | (simp +contextual (disch:=omega) [b1,wkE,wkP,wkPs,wkH,wkO,keysNd,unm,zAB,zr,dels,zBa,mkS,mkF,zl,zi,zj,zf,zAN,zAV,zBd,zAM,zAW,zA3,zAs,zL,zM,zV,zW,zw,List.getElem?_cons_zero,List.getElem?_cons_succ,Option.getD_some,zBz,callS,callF,zA0,addL,delL,outV,outVs,outO,ghA,ghA1,ints,scal,zF,zH] <;> omega)) (hh : let b1:=a1; wkH σ (zBY mp base n g) (zBd mp n g) nx hl mp:=by
 intro b1; first | (simp +contextual (disch:=omega) [b1,wkE,wkP,wkPs,wkH,wkO,keysNd,unm,zAB,zr,dels,zBa,mkS,mkF,zl,zi,zj,zf,zAN,zAV,zBd,zAM,zAW,zA3,zAs,zL,zM,zV,zW,zw,List.getElem?_cons_zero,List.getElem?_cons_succ,Option.getD_some,zBz,callS,callF,zA0,addL,delL,outV,outVs,outO,ghA,ghA1,ints,scal,zF,zH]; done) | omega | (simp +contextual (disch:=omega) [b1,wkE,wkP,wkPs,wkH,wkO,keysNd,unm,zAB,zr,dels,zBa,mkS,mkF,zl,zi,zj,zf,zAN,zAV,zBd,zAM,zAW,zA3,zAs,zL,zM,zV,zW,zw,List.getElem?_cons_zero,List.getElem?_cons_succ,Option.getD_some,zBz,callS,callF,zA0,addL,delL,outV,outVs,outO,ghA,ghA1,ints,scal,zF,zH] <;> omega)) (hn : let b1:=a1; keysNd mp:=by
 intro b1; first | (simp +contextual (disch:=omega) [b1,wkE,wkP,wkPs,wkH,wkO,keysNd,unm,zAB,zr,dels,zBa,mkS,mkF,zl,zi,zj,zf,zAN,zAV,zBd,zAM,zAW,zA3,zAs,zL,zM,zV,zW,zw,List.getElem?_cons_zero,List.getElem?_cons_succ,Option.getD_some,zBz,callS,callF,zA0,addL,delL,outV,outVs,outO,ghA,ghA1,ints,scal,zF,zH]; done) | omega | (simp +contextual (disch:=omega) [b1,wkE,wkP,wkPs,wkH,wkO,keysNd,unm,zAB,zr,dels,zBa,mkS,mkF,zl,zi,zj,zf,zAN,zAV,zBd,zAM,zAW,zA3,zAs,zL,zM,zV,zW,zw,List.getElem?_cons_zero,List.getElem?_cons_succ,Option.getD_some,zBz,callS,callF,zA0,addL,delL,outV,outVs,outO,ghA,ghA1,ints,scal,zF,zH] <;> omega)) (hg : let b1:=a1; wkPs σ.heap (zBY mp base n g) (zBd mp n g) nx σ.gh gh:=by
 intro b1; first | (simp +contextual (disch:=omega) [b1,wkE,wkP,wkPs,wkH,wkO,keysNd,unm,zAB,zr,dels,zBa,mkS,mkF,zl,zi,zj,zf,zAN,zAV,zBd,zAM,zAW,zA3,zAs,zL,zM,zV,zW,zw,List.getElem?_cons_zero,List.getElem?_cons_succ,Option.getD_some,zBz,callS,callF,zA0,addL,delL,outV,outVs,outO,ghA,ghA1,ints,scal,zF,zH]; done) | omega | (simp +contextual (disch:=omega) [b1,wkE,wkP,wkPs,wkH,wkO,keysNd,unm,zAB,zr,dels,zBa,mkS,mkF,zl,zi,zj,zf,zAN,zAV,zBd,zAM,zAW,zA3,zAs,zL,zM,zV,zW,zw,List.getElem?_cons_zero,List.getElem?_cons_succ,Option.getD_some,zBz,callS,callF,zA0,addL,delL,outV,outVs,outO,ghA,ghA1,ints,scal,zF,zH] <;> omega)) (hF : let b1:=a1; ∀ j,j < n -> base + j < nx /\ unm mp (g j) /\ wkO σ.heap (zBY mp base n g) (zBd mp n g) nx (some (g j)) (F j):=by
 intro b1; first | (simp +contextual (disch:=omega) [b1,wkE,wkP,wkPs,wkH,wkO,keysNd,unm,zAB,zr,dels,zBa,mkS,mkF,zl,zi,zj,zf,zAN,zAV,zBd,zAM,zAW,zA3,zAs,zL,zM,zV,zW,zw,List.getElem?_cons_zero,List.getElem?_cons_succ,Option.getD_some,zBz,callS,callF,zA0,addL,delL,outV,outVs,outO,ghA,ghA1,ints,scal,zF,zH]; done) | omega | (simp +contextual (disch:=omega) [b1,wkE,wkP,wkPs,wkH,wkO,keysNd,unm,zAB,zr,dels,zBa,mkS,mkF,zl,zi,zj,zf,zAN,zAV,zBd,zAM,zAW,zA3,zAs,zL,zM,zV,zW,zw,List.getElem?_cons_zero,List.getElem?_cons_succ,Option.getD_some,zBz,callS,callF,zA0,addL,delL,outV,outVs,outO,ghA,ghA1,ints,scal,zF,zH] <;> omega)) (hi : let b1:=a1; ∀ i j,i < n -> j < n -> g i = g j -> i = j:=by
 intro b1; first | (simp +contextual (disch:=omega) [b1,wkE,wkP,wkPs,wkH,wkO,keysNd,unm,zAB,zr,dels,zBa,mkS,mkF,zl,zi,zj,zf,zAN,zAV,zBd,zAM,zAW,zA3,zAs,zL,zM,zV,zW,zw,List.getElem?_cons_zero,List.getElem?_cons_succ,Option.getD_some,zBz,callS,callF,zA0,addL,delL,outV,outVs,outO,ghA,ghA1,ints,scal,zF,zH]; done) | omega | (simp +contextual (disch:=omega) [b1,wkE,wkP,wkPs,wkH,wkO,keysNd,unm,zAB,zr,dels,zBa,mkS,mkF,zl,zi,zj,zf,zAN,zAV,zBd,zAM,zAW,zA3,zAs,zL,zM,zV,zW,zw,List.getElem?_cons_zero,List.getElem?_cons_succ,Option.getD_some,zBz,callS,callF,zA0,addL,delL,outV,outVs,outO,ghA,ghA1,ints,scal,zF,zH] <;> omega)) (hnt : nt = σ.nt:=by rfl) : Wk σ (mkF el hl base n F nx nt gh):=zAG mp g hnt he hh hn hg hF hi
theorem an {A B : Prop} (a : A) (b : B) : A /\ B:=⟨a,b⟩
theorem fI {f : FuncId} {fn : Func} {c : Code} {args : List AV} {H H' : List AObj} {res : AV} (n : Nat) (r : Array ResultVar) (hf : P.funcs[f]? = some fn) (hb : fn.body = some c) (h : awp P c (fun e σ=>zRP P r.toList res H' e σ /\ σ.gh = ghA args) (zBz args H n)) (hn : fn.ntmps = n:=by rfl) (hr : fn.results = r:=by rfl) (hle : args.length <= n:=by simp) : FnS P f args H res H':=zJv hf hb (by rw [hn]; exact hle) (by rw [hn,hr]; exact h)
end
def ints (xs : List Int) : T:=.sl 1 (xs.map (.int .i64))
def rows (xss : List (List Int)) : T:=.sl 1 (xss.map ints)
theorem zK (x : Int) (h1 : -9223372036854775808 <= x) (h2 : x <= 9223372036854775807) : IntKind.i64.wrap x = x:=by rw [IntKind.wrap_i64]; omega
theorem wr8 (x : Int) (h1 : 0 <= x) (h2 : x <= 255) : IntKind.u8.wrap x = x:=by rw [IntKind.wrap_u8]; omega
def zBP (ls : List Nat) : ByteArray:=⟨(ls.map fun x=>UInt8.ofNat (97 + x)).toArray⟩
theorem zMq (xs ys : List Int) (hx : xs.length <= 1000000) : FnA Tryz.prog 49 [.t 0 (ints xs),.t 0 (ints ys)] (.t 2 (.bool (decide (xs = ys)))):=by
 refine fI 26 #[.tmp 4] Tryz.func49 rfl ?_
 refine rg0 ?_
 refine zA ?_
 by_cases hl : xs.length = ys.length
 case neg =>
  refine rg0 ?_
  refine cT0 ?_
  refine rg0 ?_
  refine zC ?_
  refine ⟨⟨.inr rfl,_,[],rfl,trivial,trivial,by simp,?_⟩,by simp⟩
  simp
  intro h; exact hl (by rw [h])
 refine rg0 ?_
 refine cF0 ?_
 refine zb ?_
 refine zA ?_
 refine rg0 ?_
 refine zB ?_
 refine awp_loop (fun k : Nat=>mkS [(0,.t 0 (ints xs)),(1,.t 0 (ints ys)),(12,.t 2 (.int .i64 xs.length)),(13,.t 2 (.int .i64 k))] [] 0 26 [.any,.any]) (fun k=>k <= xs.length /\ ∀ i (h1 : i < xs.length) (h2 : i < ys.length),i < k -> xs[i] = ys[i]) (fun k=>xs.length - k) ?_ ?_
 ·refine ⟨0,⟨by omega,fun i h1 h2 h=>by omega⟩,?_⟩
  exact kw0 []
 ·intro k hk
  obtain ⟨hk,hall⟩:=hk
  refine rg0 ?_
  by_cases hlt : k < xs.length
  ·have hlt2 : k < ys.length:=by omega
   refine zA ?_
   refine cT1 @hlt ?_
   refine zb ?_
   refine zA ?_
   refine zB ?_
   refine rg0 ?_
   by_cases he : xs[k] = ys[k]
   ·refine rd1 (an @hlt (an @hlt2 @he)) ?_
    refine cY0 ?_
    show awp _ _ _ _
    refine rr0 ?_
    refine ⟨k + 1,⟨by omega,fun i h1 h2 h=>?_⟩,by omega,?_⟩
    ·by_cases e : i = k
     ·subst e; exact he
     ·exact hall i h1 h2 (by omega)
    ·exact kw0 []
   ·refine rd1 (an @hlt (an @hlt2 @he)) ?_
    refine cT0 ?_
    refine rg0 ?_
    refine zC ?_
    show zRP _ _ _ _ _ _ /\ _
    refine ⟨⟨.inr rfl,_,[],rfl,trivial,trivial,by simp,?_⟩,by simp⟩
    simp
    intro h; exact he (by simp only [h])
  ·refine zA ?_
   refine cF1 @hlt ?_
   refine zG ?_
   show awp _ _ _ _
   refine rg0 ?_
   refine zC ?_
   refine ⟨⟨.inr rfl,_,[],rfl,trivial,trivial,by simp,?_⟩,by simp⟩
   simp
   exact List.ext_getElem hl (fun i h1 h2=>hall i h1 h2 (by omega))
@[simp] theorem zC5 {α : Type} {n : Nat} (F : Nat -> α) {k : Nat} (h : k < (tab n F).length) : (tab n F)[k] = F k:=by simp [tab]
theorem ze {α β : Type} (n : Nat) (F : Nat -> α) (g : α -> β) : (tab n F).map g = tab n (fun i=>g (F i)):=by simp [tab,Function.comp_def]
theorem zg {α : Type} {n : Nat} (F : Nat -> α) (k : Nat) (x : α) : (tab n F).set k x = tab n (fun i=>if i = k then x else F i):=by
 apply List.ext_getElem?
 intro i
 rw [List.getElem?_set]
 by_cases hi : i < n
 ·rw [zP _ hi]
  by_cases e : k = i
  ·subst e; rw [if_pos rfl,if_pos (by simpa using hi),zP _ hi,if_pos rfl]
  ·rw [if_neg e,zP _ hi,if_neg (Ne.symm e)]
 ·rw [List.getElem?_eq_none (by simp; omega)]
  by_cases e : k = i
  ·subst e; simp [hi]
  ·rw [if_neg e,List.getElem?_eq_none (by simp; omega)]
theorem zO {α : Type} {n : Nat} {F G : Nat -> α} (h : ∀ i,i < n -> F i = G i) : tab n F = tab n G:=by
 unfold tab
 exact List.map_congr_left (fun i hi=>h i (List.mem_range.1 hi))
theorem zAF {α : Type} (n : Nat) (x : α) : List.replicate n x = tab n (fun _=>x):=by
 apply List.ext_getElem?
 intro i
 by_cases h : i < n
 ·rw [zP _ h]; simp [h]
 ·rw [List.getElem?_eq_none (by simp; omega),List.getElem?_eq_none (by simp; omega)]
theorem zCP {α : Type} (n : Nat) (F : Nat -> α) : tab (n + 1) F = tab n F ++ [F n]:=by simp [tab,List.range_succ]
theorem zk {P : Program} {f : FuncId} {fn : Func} {c : Code} {args : List AV} {H H' : List AObj} {G : AV -> Prop} (hf : P.funcs[f]? = some fn) (hb : fn.body = some c) (hle : args.length <= fn.ntmps) (h : awp P c (fun e σ=>∃ res,G res /\ zRP P fn.results.toList res H' e σ /\ σ.gh = ghA args) (zBz args H fn.ntmps)) : ∃ res,G res /\ FnS P f args H res H':=by
 obtain ⟨e,σ',h1,res,hG,h2⟩:=h
 exact ⟨res,hG,zJv hf hb hle ⟨e,σ',h1,h2⟩⟩
theorem zBG (a b : List Nat) : zBP a ++ zBP b = zBP (a ++ b):=by
 apply ByteArray.ext
 simp [zBP]
structure WdL (L : Nat) (pre last : List Int) (wds : List (List Nat)) : Prop where
 lp : pre.length = wds.length
 ll : last.length = wds.length
 at_ : ∀ (i : Nat) w,wds[i]? = some w -> ∃ p l : Int,pre[i]? = some p /\ last[i]? = some l /\ ((l = -1 /\ p = -1 /\ w = []) \/ ∃ x : Nat,l = (x : Int) /\ x < L /\ ((p = -1 /\ w = [x]) \/ ∃ (j : Nat) (u : List Nat),p = (j : Int) /\ j < i /\ wds[j]? = some u /\ w = u ++ [x]))
@[simp] theorem zSF (l : List Nat) : (zBP l).size = l.length:=by simp [zBP,ByteArray.size]
theorem WdL.len {L : Nat} {pre last : List Int} {wds : List (List Nat)} (h : WdL L pre last wds) : ∀ (i : Nat) w,wds[i]? = some w -> w.length <= i + 1:=by
 intro i
 induction i using Nat.strongRecOn with
 | _ i ih =>
  intro w hw
  obtain ⟨p,l,-,-,hc⟩:=h.at_ i w hw
  rcases hc with ⟨-,-,rfl⟩ | ⟨x,-,-,⟨-,rfl⟩ | ⟨j,u,-,hj,hu,rfl⟩⟩
  ·simp
  ·simp
  ·have:=ih j hj u hu
   simp; omega
def TrN (n : Nat) (f : List Int) : Prop:=f.length = n /\ ∀ v ∈ f,0 <= v /\ v < (n : Int)
structure zOw (n : Nat) (gs : List (List Int)) : Prop where
 n1 : 1 <= n
 n2 : n <= 32
 g1 : 1 <= gs.length
 g2 : gs.length <= 6
 tr : ∀ g ∈ gs,TrN n g
theorem zOw.len {n : Nat} {gs : List (List Int)} (h : zOw n gs) {g : List Int} (hg : g ∈ gs) : g.length = n:=(h.tr g hg).1
theorem zOw.zP3 {n : Nat} {gs : List (List Int)} (h : zOw n gs) {k : Nat} (hk : k < gs.length) : gs[k].length = n:=h.len (by simp)
def zt (f g : List Int) : List Int:=f.map fun v=>g.getD v.toNat 0
theorem TrN.comp {n : Nat} {f g : List Int} (hf : TrN n f) (hg : TrN n g) : TrN n (zt f g):=by
 refine ⟨by simp [zt,hf.1],fun v hv=>?_⟩
 simp only [zt,List.mem_map] at hv
 obtain ⟨u,hu,rfl⟩:=hv
 obtain ⟨h1,h2⟩:=hf.2 u hu
 have hl:=hg.1
 have : u.toNat < g.length:=by omega
 rw [List.getD_eq_getElem?_getD,List.getElem?_eq_getElem this]
 exact hg.2 _ (by simp)
def idL (n : Nat) : List Int:=tab n fun i=>(i : Int)
theorem zEm (n : Nat) : TrN n (idL n):=by
 refine ⟨by simp [idL],fun v hv=>?_⟩
 simp only [idL,tab,List.mem_map,List.mem_range] at hv
 obtain ⟨i,hi,rfl⟩:=hv
 omega
def act (n : Nat) (gs : List (List Int)) (w : List Nat) : List Int:=w.foldl (fun f x=>zt f (gs.getD x [])) (idL n)
theorem zCL (n : Nat) (gs : List (List Int)) (w : List Nat) (x : Nat) : act n gs (w ++ [x]) = zt (act n gs w) (gs.getD x []):=by simp [act]
theorem zCM {n : Nat} {g : List Int} (hg : TrN n g) : zt (idL n) g = g:=by
 apply List.ext_getElem (by simp [zt,idL,hg.1])
 intro i h1 h2
 simp [zt,idL,zC5,List.getD_eq_getElem?_getD,h2]
def Bef (gs els : List (List Int)) (p x : Nat) : Prop:=∀ j y,(j < p /\ y < gs.length) \/ (j = p /\ y < x) -> ∀ e g,els[j]? = some e -> gs[y]? = some g -> zt e g ∈ els
structure EnL (n : Nat) (gs els : List (List Int)) (pre last : List Int) (wds : List (List Nat)) : Prop where
 wd : WdL gs.length pre last wds
 le : els.length = wds.length
 one : els[0]? = some (idL n) /\ wds[0]? = some []
 val : ∀ (i : Nat) w e,wds[i]? = some w -> els[i]? = some e -> e = act n gs w /\ TrN n e /\ ∀ x ∈ w,x < gs.length
 nd : ∀ (i j : Nat) e,els[i]? = some e -> els[j]? = some e -> i = j
 cn : ∀ t,0 < t -> t < els.length -> ∃ (p x : Nat) (u : List Nat),p < t /\ x < gs.length /\ pre[t]? = some (p : Int) /\ last[t]? = some (x : Int) /\ wds[p]? = some u /\ wds[t]? = some (u ++ [x]) /\ Bef gs (els.take t) p x
theorem EnL.start {n : Nat} {gs : List (List Int)} : EnL n gs [idL n] [-1] [-1] [[]]:=by
 refine ⟨⟨rfl,rfl,fun i w hw=>?_⟩,rfl,⟨rfl,rfl⟩,fun i w e hw he=>?_,fun i j e hi hj=>?_,fun t h1 h2=>by simp at h2; omega⟩
 ·match i,hw with
  | 0,hw=>simp at hw; subst hw; exact ⟨-1,-1,rfl,rfl,.inl ⟨rfl,rfl,rfl⟩⟩
 ·match i,hw,he with
  | 0,hw,he=>simp at hw he; subst hw he; exact ⟨rfl,zEm n,fun x hx=>by simp at hx⟩
 ·match i,j,hi,hj with
  | 0,0,_,_=>rfl
theorem WdL.add {L : Nat} {pre last : List Int} {wds : List (List Nat)} (h : WdL L pre last wds) {p : Nat} {u : List Nat} {x : Nat} (hx : x < L) (hp : wds[p]? = some u) (b : Int) (hb : b = p) : WdL L (pre ++ [b]) (last ++ [(x : Int)]) (wds ++ [u ++ [x]]):=by
 have hpl:=(List.getElem?_eq_some_iff.1 hp).1
 have h1:=h.lp
 have h2:=h.ll
 refine ⟨by simp [h1],by simp [h2],fun i w hw=>?_⟩
 by_cases hi : i < wds.length
 ·rw [List.getElem?_append_left hi] at hw
  obtain ⟨p',l',e1,e2,hc⟩:=h.at_ i w hw
  refine ⟨p',l',by rw [List.getElem?_append_left (by omega)]; exact e1,by rw [List.getElem?_append_left (by omega)]; exact e2,?_⟩
  rcases hc with hc | ⟨x',a1,a2,a3 | ⟨j,v,b1,b2,b3,b4⟩⟩
  ·exact .inl hc
  ·exact .inr ⟨x',a1,a2,.inl a3⟩
  ·exact .inr ⟨x',a1,a2,.inr ⟨j,v,b1,b2,by rw [List.getElem?_append_left (by omega)]; exact b3,b4⟩⟩
 ·have hi2 : i = wds.length:=by
   have:=(List.getElem?_eq_some_iff.1 hw).1
   simp at this; omega
  subst hi2
  rw [List.getElem?_append_right (by omega)] at hw
  simp at hw
  subst hw
  refine ⟨b,x,by rw [← h1]; simp,by rw [← h2]; simp,.inr ⟨x,rfl,hx,.inr ⟨p,u,hb,hpl,by rw [List.getElem?_append_left hpl]; exact hp,rfl⟩⟩⟩
theorem EnL.add {n : Nat} {gs els : List (List Int)} {pre last : List Int} {wds : List (List Nat)} (h : EnL n gs els pre last wds) (hg : ∀ g ∈ gs,TrN n g) {p x : Nat} {u : List Nat} {e g : List Int} (hp : wds[p]? = some u) (he : els[p]? = some e) (hx : gs[x]? = some g) (hnew : ∀ (i : Nat) (hi : i < els.length),els[i] ≠ zt e g) (b : Int) (hb : b = p) (hbf : Bef gs els p x) : EnL n gs (els ++ [zt e g]) (pre ++ [b]) (last ++ [(x : Int)]) (wds ++ [u ++ [x]]):=by
 have hle:=h.le
 have hxl:=(List.getElem?_eq_some_iff.1 hx).1
 obtain ⟨o1,o2⟩:=h.one
 have ho1:=(List.getElem?_eq_some_iff.1 o1).1
 obtain ⟨v1,v2,v3⟩:=h.val p u e hp he
 refine ⟨h.wd.add hxl hp b hb,by simp [hle],⟨by rw [List.getElem?_append_left ho1]; exact o1,by rw [List.getElem?_append_left (by omega)]; exact o2⟩,fun i w d hw hd=>?_,fun i j d hi hj=>?_,fun t h1 h2=>?_⟩
 ·by_cases hi : i < wds.length
  ·rw [List.getElem?_append_left hi] at hw
   rw [List.getElem?_append_left (by omega)] at hd
   exact h.val i w d hw hd
  ·have hi2 : i = wds.length:=by
    have:=(List.getElem?_eq_some_iff.1 hw).1
    simp at this; omega
   subst hi2
   rw [List.getElem?_append_right (by omega)] at hw
   rw [List.getElem?_append_right (by omega)] at hd
   simp [hle] at hw hd
   subst hw hd
   refine ⟨by rw [zCL,← v1,List.getD_eq_getElem?_getD,hx]; rfl,v2.comp (hg g (List.mem_of_getElem? hx)),fun y hy=>?_⟩
   simp at hy
   rcases hy with hy | rfl
   ·exact v3 y hy
   ·exact hxl
 ·have key : ∀ (i : Nat) d,(els ++ [zt e g])[i]? = some d -> (i < els.length /\ els[i]? = some d) \/ (i = els.length /\ d = zt e g):=fun i d hi=>by
   by_cases hl : i < els.length
   ·rw [List.getElem?_append_left hl] at hi; exact .inl ⟨hl,hi⟩
   ·have hl2:=(List.getElem?_eq_some_iff.1 hi).1
    simp at hl2
    have : i = els.length:=by omega
    subst this
    simp at hi
    exact .inr ⟨rfl,hi.symm⟩
  rcases key i d hi with ⟨a1,a2⟩ | ⟨a1,a2⟩ <;> rcases key j d hj with ⟨b1,b2⟩ | ⟨b1,b2⟩
  ·exact h.nd i j d a2 b2
  ·obtain ⟨c1,c2⟩:=List.getElem?_eq_some_iff.1 a2
   exact absurd (c2.trans b2) (hnew i a1)
  ·obtain ⟨c1,c2⟩:=List.getElem?_eq_some_iff.1 b2
   exact absurd (c2.trans a2) (hnew j b1)
  ·omega
 ·have hpl:=(List.getElem?_eq_some_iff.1 hp).1
  have hlp:=h.wd.lp
  have hll:=h.wd.ll
  by_cases ht : t < els.length
  ·obtain ⟨q,y,v,a1,a2,a3,a4,a5,a6,a7⟩:=h.cn t h1 ht
   refine ⟨q,y,v,a1,a2,?_,?_,?_,?_,?_⟩
   ·rw [List.getElem?_append_left (by omega)]; exact a3
   ·rw [List.getElem?_append_left (by omega)]; exact a4
   ·rw [List.getElem?_append_left (by omega)]; exact a5
   ·rw [List.getElem?_append_left (by omega)]; exact a6
   ·rw [List.take_append_of_le_length (by omega)]; exact a7
  ·have e1 : t = els.length:=by simp at h2; omega
   subst e1
   refine ⟨p,x,u,by omega,hxl,?_,?_,?_,?_,?_⟩
   ·rw [List.getElem?_append_right (by omega),hlp,← hle]; simp [hb]
   ·rw [List.getElem?_append_right (by omega),hll,← hle]; simp
   ·rw [List.getElem?_append_left (by omega)]; exact hp
   ·rw [List.getElem?_append_right (by omega),← hle]; simp
   ·rw [List.take_append_of_le_length (by omega),List.take_length]; exact hbf
def enT (p n : Nat) (gs els : List (List Int)) (pre last : List Int) (right : T) (rls : List T) (done : Nat) : AV:=.agg [.t 2 (.int .i64 n),.t 2 (.bool true),.t p (rows gs),.t p (rows els),.t p (ints pre),.t p (ints last),.t p right,.t p (.sl 2 rls),.t 2 (.int .i64 done)]
structure StI (n : Nat) (gs els : List (List Int)) (pre last : List Int) (wds : List (List Nat)) (rls : List T) (k : Nat) : Prop where
 en : EnL n gs els pre last wds
 kl : k <= gs.length
 el : els.length <= k + 1
 rl : rls.length <= 2 * k
 has : ∀ i (h : i < gs.length),i < k -> gs[i] ∈ els
theorem zOO {n : Nat} {gs els : List (List Int)} {k : Nat} (h1 : els[0]? = some (idL n)) (hg : ∀ g ∈ gs,TrN n g) (hs : ∀ i (h : i < gs.length),i < k -> gs[i] ∈ els) : Bef gs els 0 k:=fun j y hj e g he hgy=>by
 rcases hj with ⟨hj,-⟩ | ⟨rfl,hy⟩
 ·omega
 ·rw [h1] at he
  injection he with he
  subst he
  obtain ⟨hyl,rfl⟩:=List.getElem?_eq_some_iff.1 hgy
  rw [zCM (hg _ (by simp))]
  exact hs y hyl hy
theorem StI.bef {n : Nat} {gs els : List (List Int)} {pre last : List Int} {wds : List (List Nat)} {rls : List T} {k : Nat} (h : StI n gs els pre last wds rls k) (hg : ∀ g ∈ gs,TrN n g) : Bef gs els 0 k:=zOO h.en.one.1 hg h.has
@[simp] theorem zTZ : mpTy Tryz.prog 125 = some (9,3):=by kernel_rfl
@[simp] theorem zSh : zCV Tryz.prog 3 = some (.int .i64 0):=by kernel_rfl
@[simp] theorem zQO (s : ByteArray) : kOK Tryz.prog 9 (.str s) = true:=by simp [kOK]
def mUp (x y : T) (es : List (T × T)) : List (T × T):=match fndT x es with
 | some j=>es.set j (x,y)
 | none=>es ++ [(x,y)]
def zRe (es : List (T × T)) : Prop:=∀ e ∈ es,∃ s,e.1 = .str s
theorem zRe.nil : zRe []:=fun e he=>by simp at he
theorem zRe.up {es : List (T × T)} (h : zRe es) (s : ByteArray) (y : T) : zRe (mUp (.str s) y es):=by
 intro e he
 unfold mUp at he
 split at he
 ·rcases List.mem_or_eq_of_mem_set he with he | rfl
  ·exact h e he
  ·exact ⟨s,rfl⟩
 ·rcases List.mem_append.1 he with he | he
  ·exact h e he
  ·simp at he; subst he; exact ⟨s,rfl⟩
theorem zRe.all {es : List (T × T)} (h : zRe es) : (es.all fun e=>kOK Tryz.prog 9 e.1) = true:=by
 rw [List.all_eq_true]
 intro e he
 obtain ⟨s,hs⟩:=h e he
 rw [hs]
 simp [kOK]
theorem zNM (xs : List T) : 1 <= lvs 1 xs:=by unfold lvs; split <;> omega
@[simp] theorem zTN (p : Nat) (xs : List (List Nat)) : lvs p (xs.map fun w=>T.str (zBP w)) = 2:=by
 unfold lvs; rw [if_pos]; simp [scal]
def zCX (gs els : List (List Int)) (i : Nat) (r : List Int) : Prop:=∀ (x : Nat) (j : Int),r[x]? = some j -> ∃ (m : Nat) (e g : List Int),j = (m : Int) /\ els[i]? = some e /\ gs[x]? = some g /\ els[m]? = some (zt e g)
theorem zCX.more {gs els : List (List Int)} {i : Nat} {r : List Int} (h : zCX gs els i r) (f : List Int) : zCX gs (els ++ [f]) i r:=fun x j hx=>by
 obtain ⟨m,e,g,h1,h2,h3,h4⟩:=h x j hx
 exact ⟨m,e,g,h1,by rw [List.getElem?_append_left (List.getElem?_eq_some_iff.1 h2).1]; exact h2,h3,by rw [List.getElem?_append_left (List.getElem?_eq_some_iff.1 h4).1]; exact h4⟩
theorem zCX.put {gs els : List (List Int)} {i : Nat} {r : List Int} (h : zCX gs els i r) {m : Nat} {e g : List Int} (h2 : els[i]? = some e) (h3 : gs[r.length]? = some g) (h4 : els[m]? = some (zt e g)) : zCX gs els i (r ++ [(m : Int)]):=fun x j hx=>by
 by_cases hl : x < r.length
 ·rw [List.getElem?_append_left hl] at hx; exact h x j hx
 ·have:=(List.getElem?_eq_some_iff.1 hx).1
  simp at this
  have e1 : x = r.length:=by omega
  subst e1
  simp at hx
  exact ⟨m,e,g,hx.symm,h2,h3,h4⟩
theorem zCX.mem {gs els : List (List Int)} {i : Nat} {r : List Int} (h : zCX gs els i r) {y : Nat} (hy : y < r.length) {e g : List Int} (he : els[i]? = some e) (hg : gs[y]? = some g) : zt e g ∈ els:=by
 obtain ⟨m,e',g',-,h2,h3,h4⟩:=h y r[y] (List.getElem?_eq_getElem hy)
 rw [he] at h2
 rw [hg] at h3
 injection h2 with h2
 injection h3 with h3
 subst h2 h3
 exact List.mem_of_getElem? h4
structure PrI (n : Nat) (gs els : List (List Int)) (pre last : List Int) (wds : List (List Nat)) (right : List (List Int)) (d : Nat) : Prop where
 en : EnL n gs els pre last wds
 el : els.length <= 2000
 dl : d <= els.length
 rd : right.length = d
 rg : ∀ (i : Nat) r,right[i]? = some r -> r.length = gs.length /\ zCX gs els i r
 gn : ∀ g ∈ gs,g ∈ els
theorem PrI.bef {n : Nat} {gs els : List (List Int)} {pre last : List Int} {wds : List (List Nat)} {right : List (List Int)} {d : Nat} (h : PrI n gs els pre last wds right d) {r : List Int} (hrow : zCX gs els d r) : Bef gs els d r.length:=fun j y hj e g he hg=>by
 rcases hj with ⟨hj,hy⟩ | ⟨rfl,hy⟩
 ·have hrd:=h.rd
  obtain ⟨h1,h2⟩:=h.rg j right[j] (by simp)
  exact h2.mem (by omega) he hg
 ·exact hrow.mem hy he hg
def Big (n : Nat) (gs : List (List Int)) : Prop:=∃ els : List (List Int),els.Nodup /\ els.length = 2001 /\ ∀ e ∈ els,∃ w : List Nat,(∀ a ∈ w,a < gs.length) /\ e = act n gs w
theorem EnL.nodup {n : Nat} {gs els : List (List Int)} {pre last : List Int} {wds : List (List Nat)} (h : EnL n gs els pre last wds) : els.Nodup:=List.pairwise_iff_getElem.2 fun i j hi hj hij e=>by
 have:=h.nd i j els[i] (by simp) (by rw [List.getElem?_eq_getElem hj,e])
 omega
theorem EnL.big {n : Nat} {gs els : List (List Int)} {pre last : List Int} {wds : List (List Nat)} (h : EnL n gs els pre last wds) (hl : els.length = 2000) {d x : Nat} (hd : d < els.length) (hx : x < gs.length) (hnew : ∀ (i : Nat) (hi : i < els.length),els[i] ≠ zt els[d] gs[x]) : Big n gs:=by
 have hle:=h.le
 have hv : ∀ i (hi : i < els.length),∃ w : List Nat,(∀ a ∈ w,a < gs.length) /\ els[i] = act n gs w:=fun i hi=>by
  obtain ⟨h1,h2,h3⟩:=h.val i (wds[i]'(by omega)) els[i] (by simp) (by simp)
  exact ⟨_,h3,h1⟩
 refine ⟨els ++ [zt els[d] gs[x]],List.nodup_append.2 ⟨h.nodup,by simp,fun a ha b hb hab=>?_⟩,by simp [hl],fun e he=>?_⟩
 ·simp only [List.mem_singleton] at hb
  subst hab hb
  obtain ⟨i,hi,e⟩:=List.getElem_of_mem ha
  exact hnew i hi e
 ·rcases List.mem_append.1 he with he | he
  ·obtain ⟨i,hi,rfl⟩:=List.getElem_of_mem he
   exact hv i hi
  ·simp only [List.mem_singleton] at he
   subst he
   obtain ⟨w,h1,h2⟩:=hv d hd
   refine ⟨w ++ [x],fun a ha=>?_,by rw [zCL,← h2,List.getD_eq_getElem?_getD,List.getElem?_eq_getElem hx]; rfl⟩
   rcases List.mem_append.1 ha with ha | ha
   ·exact h1 a ha
   ·simp only [List.mem_singleton] at ha; omega
theorem PrI.add {n : Nat} {gs els : List (List Int)} {pre last : List Int} {wds : List (List Nat)} {right : List (List Int)} {d : Nat} (h : PrI n gs els pre last wds right d) (hg : ∀ g ∈ gs,TrN n g) {x : Nat} (hd : d < els.length) (hdw : d < wds.length) (hx : x < gs.length) (hnew : ∀ (i : Nat) (hi : i < els.length),els[i] ≠ zt els[d] gs[x]) (hs : els.length ≠ 2000) {r : List Int} (hrow : zCX gs els d r) (hrl : r.length = x) :
  PrI n gs (els ++ [zt els[d] gs[x]]) (pre ++ [(d : Int)]) (last ++ [(x : Int)]) (wds ++ [wds[d] ++ [x]]) right d:=by
 have:=h.el; have:=h.dl
 refine ⟨h.en.add hg (List.getElem?_eq_getElem hdw) (List.getElem?_eq_getElem hd) (List.getElem?_eq_getElem hx) hnew _ rfl (hrl ▸ h.bef hrow),by simp; omega,by simp; omega,h.rd,fun i r hr=>?_,fun g hgg=>List.mem_append_left _ (h.gn g hgg)⟩
 obtain ⟨h1,h2⟩:=h.rg i r hr
 exact ⟨h1,h2.more _⟩
theorem PrI.row {n : Nat} {gs els : List (List Int)} {pre last : List Int} {wds : List (List Nat)} {right : List (List Int)} {d : Nat} (h : PrI n gs els pre last wds right d) {r : List Int} (hd : d < els.length) (hr : r.length = gs.length) (hrow : zCX gs els d r) : PrI n gs els pre last wds (right ++ [r]) (d + 1):=by
 have hrd:=h.rd
 refine ⟨h.en,h.el,by omega,by simp [hrd],fun i s hs=>?_,h.gn⟩
 by_cases hl : i < right.length
 ·rw [List.getElem?_append_left hl] at hs; exact h.rg i s hs
 ·have:=(List.getElem?_eq_some_iff.1 hs).1
  simp at this
  have e1 : i = right.length:=by omega
  subst e1
  simp at hs
  subst hs
  rw [hrd]
  exact ⟨hr,hrow⟩
structure zO8 (L m : Nat) (right : List (List Int)) : Prop where
 len : right.length = m
 row : ∀ (i : Nat) r,right[i]? = some r -> r.length = L /\ ∀ (x : Nat) j,r[x]? = some j -> ∃ k : Nat,j = (k : Int) /\ k < m
theorem PrI.rt {n : Nat} {gs els : List (List Int)} {pre last : List Int} {wds : List (List Nat)} {right : List (List Int)} (h : PrI n gs els pre last wds right els.length) : zO8 gs.length els.length right :=
 ⟨h.rd,fun i r hr=>by
  obtain ⟨h1,h2⟩:=h.rg i r hr
  refine ⟨h1,fun x j hx=>?_⟩
  obtain ⟨m,e,g,rfl,-,-,h3⟩:=h2 x j hx
  exact ⟨m,rfl,(List.getElem?_eq_some_iff.1 h3).1⟩⟩
def zJ (right : List (List Int)) (a c : Nat) : Nat:=((right.getD a []).getD c 0).toNat
def zZ (right : List (List Int)) (a : Nat) (w : List Nat) : Nat:=w.foldl (zJ right) a
theorem zO8.step {L m : Nat} {right : List (List Int)} (h : zO8 L m right) {a c : Nat} (ha : a < m) (hc : c < L) : zJ right a c < m /\ ∃ (h1 : a < right.length) (h2 : c < right[a].length),right[a][c] = (zJ right a c : Int):=by
 have h1 : a < right.length:=by rw [h.len]; exact ha
 obtain ⟨e1,e2⟩:=h.row a right[a] (by simp)
 have h2 : c < right[a].length:=by omega
 obtain ⟨k,e3,e4⟩:=e2 c right[a][c] (by simp)
 have : zJ right a c = k:=by simp [zJ,List.getD_eq_getElem?_getD,h1,h2,e3]
 rw [this]
 exact ⟨e4,h1,h2,e3⟩
theorem zO8.walk {L m : Nat} {right : List (List Int)} (h : zO8 L m right) {w : List Nat} (hw : ∀ x ∈ w,x < L) {a : Nat} (ha : a < m) : zZ right a w < m:=by
 induction w generalizing a with
 | nil=>exact ha
 | cons x w ih =>
  show zZ right (zJ right a x) w < m
  exact ih (fun y hy=>hw y (by simp [hy])) (h.step ha (hw x (by simp))).1
def zBQ (right : List (List Int)) (wds : List (List Nat)) (m : Nat) : List (List Int):=tab m fun x=>tab m fun y=>(zZ right x (wds.getD y []) : Int)
@[simp] theorem zBX (right : List (List Int)) (wds : List (List Nat)) (m : Nat) : (zBQ right wds m).length = m:=by simp [zBQ]
@[simp] theorem zS8 {α : Type} (F : Nat -> α) : tab 0 F = []:=rfl
def ClE (gs els : List (List Int)) : Prop:=∀ e ∈ els,∀ g ∈ gs,zt e g ∈ els
section
variable {n : Nat} {gs els els' : List (List Int)} {pre last pre' last' : List Int} {wds wds' : List (List Nat)}
theorem EnL.zS4 (h : EnL n gs els pre last wds) {t p x : Nat} {u : List Nat} (hp : wds[p]? = some u) (hw : wds[t]? = some (u ++ [x])) (hx : x < gs.length) : els[t]? = some (zt (els.getD p []) (gs.getD x [])):=by
 have hle:=h.le
 have h1:=(List.getElem?_eq_some_iff.1 hp).1
 have h2:=(List.getElem?_eq_some_iff.1 hw).1
 have e1:=(h.val p u _ hp (List.getElem?_eq_getElem (show p < els.length by omega))).1
 have e2:=(h.val t _ _ hw (List.getElem?_eq_getElem (show t < els.length by omega))).1
 rw [List.getElem?_eq_getElem (show t < els.length by omega),e2,zCL,← e1,List.getD_eq_getElem?_getD (l:=els),List.getElem?_eq_getElem (show p < els.length by omega)]
 rfl
theorem EnL.agree (h : EnL n gs els pre last wds) (h' : EnL n gs els' pre' last' wds') : ∀ t,t < els.length -> t < els'.length -> els[t]? = els'[t]? /\ pre[t]? = pre'[t]? /\ last[t]? = last'[t]? /\ wds[t]? = wds'[t]?:=by
 intro t
 induction t using Nat.strongRecOn with
 | _ t ih =>
  intro h1 h2
  by_cases h0 : t = 0
  ·subst h0
   have z : ∀ {els : List (List Int)} {pre last : List Int} {wds : List (List Nat)},EnL n gs els pre last wds -> pre[0]? = some (-1) /\ last[0]? = some (-1):=fun {els pre last wds} h=>by
    obtain ⟨p,l,e1,e2,hc⟩:=h.wd.at_ 0 [] h.one.2
    rcases hc with ⟨rfl,rfl,-⟩ | ⟨x,-,-,hc | ⟨j,v,-,-,-,hc⟩⟩
    ·exact ⟨e1,e2⟩
    ·simp at hc
    ·simp at hc
   rw [h.one.1,h'.one.1,h.one.2,h'.one.2,(z h).1,(z h').1,(z h).2,(z h').2]
   exact ⟨rfl,rfl,rfl,rfl⟩
  ·obtain ⟨p,x,u,p1,p2,p3,p4,p5,p6,p7⟩:=h.cn t (by omega) h1
   obtain ⟨q,y,v,q1,q2,q3,q4,q5,q6,q7⟩:=h'.cn t (by omega) h2
   have htk : els.take t = els'.take t:=List.ext_getElem? fun i=>by
    rw [List.getElem?_take,List.getElem?_take]
    by_cases hi : i < t
    ·rw [if_pos hi,if_pos hi]; exact (ih i hi (by omega) (by omega)).1
    ·rw [if_neg hi,if_neg hi]
   have key : ∀ {els els' : List (List Int)} {pre last pre' last' : List Int} {wds wds' : List (List Nat)} {p x q y : Nat} {u : List Nat},EnL n gs els pre last wds -> t < els.length -> p < t -> x < gs.length -> wds[p]? = some u -> wds[t]? = some (u ++ [x]) -> Bef gs (els.take t) q y -> ¬ ((p < q /\ x < gs.length) \/ (p = q /\ x < y)):=by
    intro els els' pre last pre' last' wds wds' p x q y u h h1 p1 p2 p5 p6 hb hc
    have ht:=h.zS4 p5 p6 p2
    have hp : els[p]? = some (els.getD p []):=by
     rw [List.getD_eq_getElem?_getD,List.getElem?_eq_getElem (by omega)]; rfl
    have hg : gs[x]? = some (gs.getD x []):=by
     rw [List.getD_eq_getElem?_getD,List.getElem?_eq_getElem p2]; rfl
    have hm:=hb p x hc _ _ (by rw [List.getElem?_take,if_pos p1]; exact hp) hg
    obtain ⟨i,hi,e⟩:=List.getElem_of_mem hm
    have hi' : i < t:=by rw [List.length_take] at hi; omega
    have : els[i]? = some (zt (els.getD p []) (gs.getD x [])):=by
     rw [← e,List.getElem_take,List.getElem?_eq_getElem]
    have:=h.nd i t _ this ht
    omega
   have k1:=key (els':=els) (pre':=pre) (last':=last) (wds':=wds) h h1 p1 p2 p5 p6 (htk ▸ q7)
   have k2:=key (els':=els) (pre':=pre) (last':=last) (wds':=wds) h' h2 q1 q2 q5 q6 (htk ▸ p7)
   have epq : p = q:=by
    rcases Nat.lt_trichotomy p q with c | c | c
    ·exact absurd (.inl ⟨c,p2⟩) k1
    ·exact c
    ·exact absurd (.inl ⟨c,q2⟩) k2
   subst epq
   have exy : x = y:=by
    rcases Nat.lt_trichotomy x y with c | c | c
    ·exact absurd (.inr ⟨rfl,c⟩) k1
    ·exact c
    ·exact absurd (.inr ⟨rfl,c⟩) k2
   subst exy
   obtain ⟨i1,-,-,i4⟩:=ih p p1 (by omega) (by omega)
   rw [p5,q5] at i4
   injection i4 with i4
   subst i4
   refine ⟨?_,by rw [p3,q3],by rw [p4,q4],by rw [p6,q6]⟩
   rw [h.zS4 p5 p6 p2,h'.zS4 q5 q6 q2,List.getD_eq_getElem?_getD (l:=els),List.getD_eq_getElem?_getD (l:=els'),i1]
theorem EnL.zGm (h : EnL n gs els pre last wds) (h' : EnL n gs els' pre' last' wds') (hc : ClE gs els) : els'.length <= els.length:=by
 refine Nat.le_of_not_lt fun hlt=>?_
 have h0:=(List.getElem?_eq_some_iff.1 h.one.1).1
 obtain ⟨q,y,v,q1,q2,q3,q4,q5,q6,q7⟩:=h'.cn els.length h0 hlt
 have ht:=h'.zS4 q5 q6 q2
 have e1:=(h.agree h' q q1 (by omega)).1
 have hm:=hc (els.getD q []) (by rw [List.getD_eq_getElem?_getD,List.getElem?_eq_getElem q1]; simp) (gs.getD y []) (by rw [List.getD_eq_getElem?_getD,List.getElem?_eq_getElem q2]; simp)
 obtain ⟨i,hi,e⟩:=List.getElem_of_mem hm
 have e2 : els'[i]? = some (zt (els'.getD q []) (gs.getD y [])):=by
  rw [← (h.agree h' i hi (by omega)).1,List.getElem?_eq_getElem hi,e,List.getD_eq_getElem?_getD,e1,← List.getD_eq_getElem?_getD]
 have:=h'.nd i els.length _ e2 ht
 omega
theorem EnL.eq (h : EnL n gs els pre last wds) (h' : EnL n gs els' pre' last' wds') (hc : ClE gs els) (hc' : ClE gs els') : els = els' /\ pre = pre' /\ last = last' /\ wds = wds':=by
 have l1:=h.zGm h' hc
 have l2:=h'.zGm h hc'
 have hl : els.length = els'.length:=by omega
 have a1:=h.le; have a2:=h.wd.lp; have a3:=h.wd.ll
 have b1:=h'.le; have b2:=h'.wd.lp; have b3:=h'.wd.ll
 refine ⟨List.ext_getElem? fun i=>?_,List.ext_getElem? fun i=>?_,List.ext_getElem? fun i=>?_,List.ext_getElem? fun i=>?_⟩ <;> by_cases hi : i < els.length
 ·exact (h.agree h' i hi (by omega)).1
 ·rw [List.getElem?_eq_none (by omega),List.getElem?_eq_none (by omega)]
 ·exact (h.agree h' i hi (by omega)).2.1
 ·rw [List.getElem?_eq_none (by omega),List.getElem?_eq_none (by omega)]
 ·exact (h.agree h' i hi (by omega)).2.2.1
 ·rw [List.getElem?_eq_none (by omega),List.getElem?_eq_none (by omega)]
 ·exact (h.agree h' i hi (by omega)).2.2.2
 ·rw [List.getElem?_eq_none (by omega),List.getElem?_eq_none (by omega)]
end
end Go.Proofs.YtgelfgpcnaeecaaGreatDoor.M
