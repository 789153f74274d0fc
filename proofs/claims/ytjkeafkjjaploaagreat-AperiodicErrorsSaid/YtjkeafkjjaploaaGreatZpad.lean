/-
  Drawn regions in which fields of a variable are pointed to while others are stored: the shape of the variable does not turn.
  The words of the logic as rules of simp, so that the walks need not name them.
  Steps of a walk in my logic, one lemma each: what a step leaves to be shown is shown by the tactic that the lemma bears.
  Walks in my logic: letter, Same, Find, Discrete, Compose.
  Walks in my logic: Find, Discrete, Copy.
  Walks in my logic: Discrete, Compose, Copy.
  Walks in my logic: Copy, Word, Valid, MayGens.
  Terms with omega powers as trees of the logic (layer 28).
  The parser of layer 28 in plain Lean.
  Walks in my logic: Parse and ParseIdentity of layer 28.
  Walks in my logic: the texts of terms (omega.appendTerm, Format, FormatIdentity).
-/
import Derived.Test.YtjkeafkjjaploaaGreatZpab
import Derived.Test.YtjkeafkjjaploaaGreatZpac
import Derived.Laws.Externs
namespace Go.Proofs.YtjkeafkjjaploaaGreat.M
open Go.RowKit
set_option linter.unusedVariables false
set_option linter.unusedSimpArgs false
set_option maxRecDepth 100000
set_option maxHeartbeats 32000000

def sameB : Option AObj -> Option AObj -> Bool
 | some (.box ty cs),some (.box ty' ds)=>decide (ty = ty') && decide (cs.length = ds.length)
 | _,_=>false
def okH : List Nat -> (Nat -> Option AObj) -> (Nat -> Option AObj) -> Bool
 | [],_,_=>true
 | k :: r,H,H'=>sameB (H k) (H' k) && okH r H H'
theorem zKl {S : List Nat} {H H' : Nat -> Option AObj} (h : okH S H H' = true) {k : Nat} (hk : k ∈ S) : sameB (H k) (H' k) = true:=by
 induction S with
 | nil=>cases hk
 | cons a r ih =>
  simp only [okH,Bool.and_eq_true] at h
  rcases List.mem_cons.1 hk with rfl | hk
  ·exact h.1
  ·exact ih h.2 hk
theorem zBb {a b : Option AObj} (h : sameB a b = true) : ∃ ty cs ds,a = some (.box ty cs) /\ b = some (.box ty ds) /\ cs.length = ds.length:=by
 unfold sameB at h
 split at h
 ·simp only [Bool.and_eq_true,decide_eq_true_eq] at h
  obtain ⟨rfl,h2⟩:=h
  exact ⟨_,_,_,rfl,rfl,h2⟩
 ·cases h
theorem zCV {a b c : Option AObj} (h : sameB a b = true) (k : sameB b c = true) : sameB a c = true:=by
 obtain ⟨ty,cs,ds,rfl,rfl,h1⟩:=zBb h
 obtain ⟨ty',cs',ds',h2,rfl,h3⟩:=zBb k
 simp only [Option.some.injEq,AObj.box.injEq] at h2
 obtain ⟨rfl,rfl⟩:=h2
 simp [sameB,h1,h3]
theorem zEa {a b : Option AObj} (h : sameB a b = true) : sameB b a = true:=by
 obtain ⟨ty,cs,ds,rfl,rfl,h1⟩:=zBb h
 simp [sameB,h1]
def isShO : Op -> Bool
 | .nilCheck _=>true
 | .fieldAddr _ _ _=>true
 | .indexAddr _ _ _=>true
 | _=>false
def zLk (S tch : List Nat) : List Nat:=tch.filter fun k=>!S.contains k
def zRg (S : List Nat) (op : Op) (tch : List Nat) : List Nat:=if isShO op = true then zLk S tch else tch
section
variable {P : Program} {i : Nat} {H H2 : Nat -> Option AObj} {c : Bool} {eff : Eff} {S : List Nat}
theorem zFY {id : Nat} (hS : ∀ k,k ∈ S -> sameB (H k) (H2 k) = true) (hH : id ∉ S -> H2 id = H id) : (∃ o,H id = some o) -> ∃ o o2,H id = some o /\ H2 id = some o2 /\ o.cnt = o2.cnt /\ (id ∉ S -> o2 = o) /\ (id ∈ S -> ∃ ty cs,o = .box ty cs):=by
 rintro ⟨o,ho⟩
 by_cases h : id ∈ S
 ·obtain ⟨ty,cs,ds,h1,h2,h3⟩:=zBb (hS id h)
  rw [ho] at h1
  injection h1 with h1
  subst h1
  exact ⟨_,_,ho,h2,by simp [AObj.cnt,h3],fun hn=>absurd h hn,fun _=>⟨ty,cs,rfl⟩⟩
 ·exact ⟨o,o,ho,by rw [hH h]; exact ho,rfl,fun _=>rfl,fun hn=>absurd hn h⟩
theorem zFZ {k : Nat} {tch : List Nat} (h1 : k ∈ tch) (h2 : k ∉ S) : k ∈ zLk S tch:=by
 unfold zLk
 rw [List.mem_filter]
 exact ⟨h1,by simpa using h2⟩
theorem zIf {x : AV} (he : aNil x H = some (c,eff)) (hS : ∀ k,k ∈ S -> sameB (H k) (H2 k) = true) (hH : ∀ k,k ∈ zLk S eff.tch -> H2 k = H k) : aNil x H2 = some (c,eff):=by
 unfold aNil at he ⊢
 split at he
 ·rename_i id off c'
  split at he
  ·rename_i o ho
   simp only [Option.some.injEq,Prod.mk.injEq] at he
   obtain ⟨h1,rfl⟩:=he
   obtain ⟨o1,o2,g1,g2,g3,-,-⟩:=zFY hS (fun hn=>hH id (zFZ (by simp) hn)) ⟨o,ho⟩
   rw [ho] at g1
   injection g1 with g1
   subst g1
   simp only [g2,← g3,h1]
  ·cases he
 ·exact he
 ·exact he
 ·cases he
theorem zGW {s f : Nat} {x : AV} (he : aField P s f x H = some (c,eff)) (hS : ∀ k,k ∈ S -> sameB (H k) (H2 k) = true) (hH : ∀ k,k ∈ zLk S eff.tch -> H2 k = H k) : aField P s f x H2 = some (c,eff):=by
 unfold aField at he ⊢
 split at he
 ·rename_i o sz a id off c' hf
  split at he
  ·rename_i ob ho
   simp only [Option.some.injEq,Prod.mk.injEq] at he
   obtain ⟨h1,rfl⟩:=he
   obtain ⟨o1,o2,g1,g2,g3,-,-⟩:=zFY hS (fun hn=>hH id (zFZ (by simp) hn)) ⟨ob,ho⟩
   rw [ho] at g1
   injection g1 with g1
   subst g1
   simp only [g2,← g3,h1]
  ·cases he
 ·exact he
 ·cases he
theorem zDM {t : TypeId} {x ix : AV} (he : aIndexAddr P t x ix H = some (c,eff)) (hS : ∀ k,k ∈ S -> sameB (H k) (H2 k) = true) (hH : ∀ k,k ∈ zLk S eff.tch -> H2 k = H k) : aIndexAddr P t x ix H2 = some (c,eff):=by
 by_cases hq : ∀ k,k ∈ eff.tch -> k ∉ S
 ·exact zBt he (fun k hk=>hH k (zFZ hk (hq k hk)))
 ·unfold aIndexAddr at he ⊢
  split at he
  ·rename_i e hel
   exfalso
   apply hq
   intro k hk hkS
   obtain ⟨ty,cs,ds,g1,g2,g3⟩:=zBb (hS k hkS)
   split at he
   ·split at he
    ·simp only [Option.some.injEq,Prod.mk.injEq] at he; obtain ⟨-,rfl⟩:=he; simp at hk
    ·simp only [Option.some.injEq,Prod.mk.injEq] at he; obtain ⟨-,rfl⟩:=he; simp at hk
   ·split at he
    ·rename_i hh; simp only [Option.some.injEq,Prod.mk.injEq] at he; obtain ⟨-,rfl⟩:=he
     simp only [List.mem_singleton] at hk; subst hk; rw [g1] at hh; cases hh
    ·rename_i hh
     split at he
     ·simp only [Option.some.injEq,Prod.mk.injEq] at he; obtain ⟨-,rfl⟩:=he
      simp only [List.mem_singleton] at hk; subst hk; rw [g1] at hh; cases hh
     ·simp only [Option.some.injEq,Prod.mk.injEq] at he; obtain ⟨-,rfl⟩:=he
      simp only [List.mem_singleton] at hk; subst hk; rw [g1] at hh; cases hh
    ·cases he
   ·split at he
    ·rename_i hh; simp only [Option.some.injEq,Prod.mk.injEq] at he; obtain ⟨-,rfl⟩:=he
     simp only [List.mem_singleton] at hk; subst hk; rw [g1] at hh; cases hh
    ·cases he
   ·cases he
  ·rename_i hel
   split at he
   ·rename_i n e har
    split at he
    ·rename_i s id off c' q k j hs
     split at he
     ·rename_i ob ho
      simp only [Option.some.injEq,Prod.mk.injEq] at he
      obtain ⟨h1,rfl⟩:=he
      obtain ⟨o1,o2,g1,g2,g3,-,-⟩:=zFY hS (fun hn=>hH id (zFZ (by simp) hn)) ⟨ob,ho⟩
      rw [ho] at g1
      injection g1 with g1
      subst g1
      simp only [g2,← g3,h1]
     ·cases he
    ·exact he
    ·cases he
   ·cases he
theorem zK4 {op : Op} {ev ev2 : Operand -> AV} (he : aop P i op ev H = some (c,eff)) (hop : isShO op = true) (hev : ∀ x,x ∈ op.operands -> ev2 x = ev x) (hS : ∀ k,k ∈ S -> sameB (H k) (H2 k) = true) (hH : ∀ k,k ∈ zLk S eff.tch -> H2 k = H k) : aop P i op ev2 H2 = some (c,eff):=by
 cases op <;> simp only [isShO] at hop <;> first | (cases hop; done) | skip
 case nilCheck x =>
  simp only [aop] at he ⊢
  rw [hev x (by simp [Op.operands])]
  exact zIf he hS hH
 case fieldAddr s x f =>
  simp only [aop] at he ⊢
  rw [hev x (by simp [Op.operands])]
  exact zGW he hS hH
 case indexAddr t x ix =>
  simp only [aop] at he ⊢
  rw [hev x (by simp [Op.operands]),hev ix (by simp [Op.operands])]
  exact zDM he hS hH
end
def awpOpDS (P : Program) (ops : Array Oper) (S : List Nat) (i : Nat) (o : Oper) (σ : ASt) (K : ASt -> List Nat × List Nat -> Prop) : Prop:=match gd ops σ o with
 | some true=>match aop P i o.op σ.eval σ.heap with
  | some (c,eff)=>c = true /\ zAm σ o = true /\ okH S σ.heap (σ.app o.dst eff).heap = true /\ K (σ.app o.dst eff) (zRg S o.op eff.tch ++ wrE eff,wrE eff)
  | none=>zBi P ops i o σ (fun σ' s=>okH S σ.heap σ'.heap = true /\ K σ' s)
 | some false=>zAm σ o = true /\ okH S σ.heap σ.heap = true /\ K (σ.app o.dst { val:=.tup [] }) ([],[])
 | none=>False
def zKu (P : Program) (ops : Array Oper) (S : List Nat) (N : Nat) : List Oper -> Nat -> ASt -> List (List Nat × List Nat) -> (ASt -> Prop) -> Prop
 | [],k,σ,sm,K=>zAl ops sm = true /\ K { σ with nxt:=N + k }
 | o :: r,k,σ,sm,K=>awpOpDS P ops S (N + k) o σ (fun σ' s=>zKu P ops S N r (k + 1000000) σ' (sm ++ [s]) K)
theorem zJf {S : List Nat} {H H' : Nat -> Option AObj} (h : okH S H H' = true) : ∀ k,k ∈ S -> sameB (H k) (H' k) = true:=fun k hk=>zKl h hk
def KDS (P : Program) (ops : Array Oper) (S : List Nat) (N : Nat) (r : List Oper) (k : Nat) (sm : List (List Nat × List Nat)) (K : ASt -> Prop) : ASt -> List Nat × List Nat -> Prop:=fun σ s=>zKu P ops S N r k σ (sm ++ [s]) K
theorem zQH (P : Program) (ops : Array Oper) (S : List Nat) (N : Nat) (r : List Oper) (k : Nat) (sm : List (List Nat × List Nat)) (K : ASt -> Prop) (σ : ASt) (s : List Nat × List Nat) : KDS P ops S N r k sm K σ s = zKu P ops S N r k σ (sm ++ [s]) K:=rfl
theorem zJS (P : Program) (ops : Array Oper) (S : List Nat) (N k : Nat) (σ : ASt) (sm : List (List Nat × List Nat)) (K : ASt -> Prop) : zKu P ops S N [] k σ sm K = (zAl ops sm = true /\ K { σ with nxt:=N + k }):=rfl
theorem zI2 (P : Program) (ops : Array Oper) (S : List Nat) (N k : Nat) (o : Oper) (r : List Oper) (σ : ASt) (sm : List (List Nat × List Nat)) (K : ASt -> Prop) : zKu P ops S N (o :: r) k σ sm K = awpOpDS P ops S (N + k) o σ (KDS P ops S N r (k + 1000000) sm K):=rfl
end Go.Proofs.YtjkeafkjjaploaaGreat.M

namespace Go.Proofs.YtjkeafkjjaploaaGreat.M
attribute [simp] zMh zMZ zDR zCt zDT zCp Nat.blt_eq List.getElem?_cons_zero awpOp awpOpD wrE gd aop aBuiltin aNil aMin aMin3 ASt.eval AV.ofV zAm ASt.app Eff.heap dels zBn aLoad aStore aField aFieldV aIndexAddr aIndex aSlice aSliceO aLen aBin iB sB aUn aConv aAlloc aBox aBuild afill avCells AV.leaf zPP aBuildSlice frz frzL isOwn vecOf tsOf aMake srcOf aAppend aMkMap aMapUpd aLookup oint cut putL AObj.cnt mkS zAD zy zx zt zCI callS outV outVs outO zA8 addL delL
attribute [simp] wkE wkP wkPs wkH wkO keysNd unm zAV zAK ghA ghA1 resV idxF inPs inP pf1 pfx inOs inO ndL okO mkF zAg zAn zBu zAh zAp zBQ zBL
attribute [simp] aMapNil zJS zI2 zQH awpOpDS zRg zLk isShO
end Go.Proofs.YtjkeafkjjaploaaGreat.M

namespace Go.Proofs.YtjkeafkjjaploaaGreat.M
open Go.RowKit
set_option linter.unusedVariables false
set_option linter.unusedSimpArgs false
set_option maxRecDepth 100000
set_option maxHeartbeats 32000000

section
variable {P : Program} {Q Q' : Exit -> ASt -> Prop} {σ σ' : ASt} {id : Nat} {ops : Array Oper} {x y : Code} {c : Operand} {A1 A2 A3 A4 A5 A6 : Prop}
theorem rg0 (h : awp P y Q σ') (hv : ∀ K : ASt -> Prop,K σ' -> awpL P ops σ.nxt ops.toList 0 σ K:=by
 intro K hK
 simp (disch:=omega) [ints,rows,scal,zT,wr8]
 (repeat' first | exact hK | apply And.intro) <;> try first | omega | rfl | (simp; done) | (simp; omega)) : awp P (.seq (.region id ops false) y) Q σ:=zQ fun K hK=>hv K (hK _ h)
theorem rr0 (h : Q .normal σ') (hv : ∀ K : ASt -> Prop,K σ' -> awpL P ops σ.nxt ops.toList 0 σ K:=by
 intro K hK
 simp (disch:=omega) [ints,rows,scal,zT,wr8]
 (repeat' first | exact hK | apply And.intro) <;> try first | omega | rfl | (simp; done) | (simp; omega)) : awp P (.region id ops false) Q σ:=zAe fun K hK=>hv K (hK _ h)
theorem rd0 (h : awp P y Q σ') (hv : ∀ K : ASt -> Prop,K σ' -> zGp P ops σ.nxt ops.toList 0 σ [] K:=by
 intro K hK
 simp (disch:=omega) [ints,rows,scal,zT,wr8]
 (repeat' first | exact hK | apply And.intro) <;> try first | (show zAl _ _ = true; kernel_rfl) | (show okH _ _ _ = true; kernel_rfl) | omega | rfl | (simp; done) | (simp; omega)) (hm : P.follows .mixedOrders = true:=by kernel_rfl) : awp P (.seq (.region id ops true) y) Q σ:=zAC hm fun K hK=>hv K (hK _ h)
theorem re0 (h : Q .normal σ') (hv : ∀ K : ASt -> Prop,K σ' -> zGp P ops σ.nxt ops.toList 0 σ [] K:=by
 intro K hK
 simp (disch:=omega) [ints,rows,scal,zT,wr8]
 (repeat' first | exact hK | apply And.intro) <;> try first | (show zAl _ _ = true; kernel_rfl) | (show okH _ _ _ = true; kernel_rfl) | omega | rfl | (simp; done) | (simp; omega)) (hm : P.follows .mixedOrders = true:=by kernel_rfl) : awp P (.region id ops true) Q σ:=zAi hm fun K hK=>hv K (hK _ h)
theorem rc0 {f : FuncId} {args : List AV} {res : AV} (s : FnS P f args [] res []) (h : awp P y Q σ') (hv : let s:=s; ∀ K : ASt -> Prop,K σ' -> awpL P ops σ.nxt ops.toList 0 σ K:=by
 intro s K hK
 simp (disch:=omega) [ints,rows,scal,zT,wr8]
 (repeat' apply And.intro)
 all_goals (try omega)
 refine zK (caps:=[]) s [] [] 2 (by first | rfl | simp [gd]) rfl rfl rfl (by kernel_rfl) (by simp [zAm]) ?_ trivial trivial rfl trivial trivial (by simp [okO]) ?_
 ·simp [scal,rows,ints]
 simp (disch:=omega) [ints,rows,scal,zT,wr8]
 (repeat' first | exact hK | apply And.intro) <;> try first | omega | rfl | (simp; done) | (simp; omega)) : awp P (.seq (.region id ops false) y) Q σ:=zQ fun K hK=>hv K (hK _ h)
theorem rq0 {f : FuncId} {args : List AV} {res : AV} (s : FnS P f args [] res []) (h : awp P y Q σ') (hv : let s:=s; ∀ K : ASt -> Prop,K σ' -> zGp P ops σ.nxt ops.toList 0 σ [] K:=by
 intro s K hK
 simp (disch:=omega) [ints,rows,scal,zT,wr8]
 (repeat' apply And.intro)
 all_goals (try omega)
 refine za (caps:=[]) s [] [] 2 (by first | rfl | simp [gd]) rfl rfl rfl (by kernel_rfl) (by simp [zAm]) ?_ trivial trivial rfl trivial trivial (by simp [okO]) ?_
 ·simp [scal,rows,ints]
 simp (disch:=omega) [ints,rows,scal,zT,wr8]
 (repeat' first | exact hK | apply And.intro) <;> try first | (show zAl _ _ = true; kernel_rfl) | (show okH _ _ _ = true; kernel_rfl) | omega | rfl | (simp; done) | (simp; omega)) (hm : P.follows .mixedOrders = true:=by kernel_rfl) : awp P (.seq (.region id ops true) y) Q σ:=zAC hm fun K hK=>hv K (hK _ h)
theorem cF0 (h : awp P y Q σ) (hb : σ.eval c = .t 2 (.bool false):=by
 simp [scal] <;> omega) : awp P (.cond c x y) Q σ:=zz hb h
theorem cT0 (h : awp P x Q σ) (hb : σ.eval c = .t 2 (.bool true):=by
 simp [scal] <;> omega) : awp P (.cond c x y) Q σ:=zz hb h
theorem cS0 (h : awp P y Q σ) (hb : σ.eval c = .t 2 (.bool false):=by
 simp [scal] <;> omega) : awp P (.cond c x .skip) (zLe (awp P y Q) Q) σ:=zz (b:=false) hb (zc h)
theorem cK0 (h : awp P y Q σ) (hb : σ.eval c = .t 2 (.bool true):=by
 simp [scal] <;> omega) : awp P (.cond c .skip x) (zLe (awp P y Q) Q) σ:=zz (b:=true) hb (zc h)
theorem cY0 (h : Q .normal σ) (hb : σ.eval c = .t 2 (.bool false):=by
 simp [scal] <;> omega) : awp P (.cond c x .skip) Q σ:=zz (b:=false) hb (zc h)
theorem rt0 {B : Prop} (h : B:=by
 refine ⟨⟨.inr rfl,_,[],rfl,trivial,trivial,by simp [ghA,ghA1,wkPs,wkP,mkS,zCI],?_⟩,by simp [ghA,ghA1,mkS,zCI]⟩
 simp [wkP,wkPs,zBn,unm,mkS]) : B:=h
theorem kw0 {el : List (Nat × AV)} {hl : List (Nat × AObj)} {nx nt : Nat} {gh : List AV} (mp : List (Nat × Option Nat)) (he : wkE σ (mpOf mp) (unm mp) nx el:=by
 simp [ints]) (hh : wkH σ (mpOf mp) (unm mp) nx hl mp:=by
 simp [ints]) (hn : keysNd mp:=by
 simp [ints]) (hg : wkPs σ.heap (mpOf mp) (unm mp) nx σ.gh gh:=by
 simp [ints]) (hnt : nt = σ.nt:=by rfl) : Wk σ (mkS el hl nx nt gh):=zU mp hnt he hh hn hg
theorem rg1 (a1 : A1) (h : awp P y Q σ') (hv : let b1:=a1; ∀ K : ASt -> Prop,K σ' -> awpL P ops σ.nxt ops.toList 0 σ K:=by
 intro b1 K hK
 simp (disch:=omega) [b1,ints,rows,scal,zT,wr8]
 (repeat' first | exact hK | apply And.intro) <;> try first | omega | rfl | (simp; done) | (simp; omega)) : awp P (.seq (.region id ops false) y) Q σ:=zQ fun K hK=>hv K (hK _ h)
theorem rr1 (a1 : A1) (h : Q .normal σ') (hv : let b1:=a1; ∀ K : ASt -> Prop,K σ' -> awpL P ops σ.nxt ops.toList 0 σ K:=by
 intro b1 K hK
 simp (disch:=omega) [b1,ints,rows,scal,zT,wr8]
 (repeat' first | exact hK | apply And.intro) <;> try first | omega | rfl | (simp; done) | (simp; omega)) : awp P (.region id ops false) Q σ:=zAe fun K hK=>hv K (hK _ h)
theorem rd1 (a1 : A1) (h : awp P y Q σ') (hv : let b1:=a1; ∀ K : ASt -> Prop,K σ' -> zGp P ops σ.nxt ops.toList 0 σ [] K:=by
 intro b1 K hK
 simp (disch:=omega) [b1,ints,rows,scal,zT,wr8]
 (repeat' first | exact hK | apply And.intro) <;> try first | (show zAl _ _ = true; kernel_rfl) | (show okH _ _ _ = true; kernel_rfl) | omega | rfl | (simp; done) | (simp; omega)) (hm : P.follows .mixedOrders = true:=by kernel_rfl) : awp P (.seq (.region id ops true) y) Q σ:=zAC hm fun K hK=>hv K (hK _ h)
theorem re1 (a1 : A1) (h : Q .normal σ') (hv : let b1:=a1; ∀ K : ASt -> Prop,K σ' -> zGp P ops σ.nxt ops.toList 0 σ [] K:=by
 intro b1 K hK
 simp (disch:=omega) [b1,ints,rows,scal,zT,wr8]
 (repeat' first | exact hK | apply And.intro) <;> try first | (show zAl _ _ = true; kernel_rfl) | (show okH _ _ _ = true; kernel_rfl) | omega | rfl | (simp; done) | (simp; omega)) (hm : P.follows .mixedOrders = true:=by kernel_rfl) : awp P (.region id ops true) Q σ:=zAi hm fun K hK=>hv K (hK _ h)
theorem rc1 {f : FuncId} {args : List AV} {res : AV} (s : FnS P f args [] res []) (a1 : A1) (h : awp P y Q σ') (hv : let s:=s; let b1:=a1; ∀ K : ASt -> Prop,K σ' -> awpL P ops σ.nxt ops.toList 0 σ K:=by
 intro s b1 K hK
 simp (disch:=omega) [b1,ints,rows,scal,zT,wr8]
 (repeat' apply And.intro)
 all_goals (try omega)
 refine zK (caps:=[]) s [] [] 2 (by first | rfl | simp [b1,gd]) rfl rfl rfl (by kernel_rfl) (by simp [zAm]) ?_ trivial trivial rfl trivial trivial (by simp [okO]) ?_
 ·simp [b1,scal,rows,ints]
 simp (disch:=omega) [b1,ints,rows,scal,zT,wr8]
 (repeat' first | exact hK | apply And.intro) <;> try first | omega | rfl | (simp; done) | (simp; omega)) : awp P (.seq (.region id ops false) y) Q σ:=zQ fun K hK=>hv K (hK _ h)
theorem rq1 {f : FuncId} {args : List AV} {res : AV} (s : FnS P f args [] res []) (a1 : A1) (h : awp P y Q σ') (hv : let s:=s; let b1:=a1; ∀ K : ASt -> Prop,K σ' -> zGp P ops σ.nxt ops.toList 0 σ [] K:=by
 intro s b1 K hK
 simp (disch:=omega) [b1,ints,rows,scal,zT,wr8]
 (repeat' apply And.intro)
 all_goals (try omega)
 refine za (caps:=[]) s [] [] 2 (by first | rfl | simp [b1,gd]) rfl rfl rfl (by kernel_rfl) (by simp [zAm]) ?_ trivial trivial rfl trivial trivial (by simp [okO]) ?_
 ·simp [b1,scal,rows,ints]
 simp (disch:=omega) [b1,ints,rows,scal,zT,wr8]
 (repeat' first | exact hK | apply And.intro) <;> try first | (show zAl _ _ = true; kernel_rfl) | (show okH _ _ _ = true; kernel_rfl) | omega | rfl | (simp; done) | (simp; omega)) (hm : P.follows .mixedOrders = true:=by kernel_rfl) : awp P (.seq (.region id ops true) y) Q σ:=zAC hm fun K hK=>hv K (hK _ h)
theorem cF1 (a1 : A1) (h : awp P y Q σ) (hb : let b1:=a1; σ.eval c = .t 2 (.bool false):=by
 intro b1; simp [b1,scal] <;> omega) : awp P (.cond c x y) Q σ:=zz hb h
theorem cT1 (a1 : A1) (h : awp P x Q σ) (hb : let b1:=a1; σ.eval c = .t 2 (.bool true):=by
 intro b1; simp [b1,scal] <;> omega) : awp P (.cond c x y) Q σ:=zz hb h
theorem cS1 (a1 : A1) (h : awp P y Q σ) (hb : let b1:=a1; σ.eval c = .t 2 (.bool false):=by
 intro b1; simp [b1,scal] <;> omega) : awp P (.cond c x .skip) (zLe (awp P y Q) Q) σ:=zz (b:=false) hb (zc h)
theorem cK1 (a1 : A1) (h : awp P y Q σ) (hb : let b1:=a1; σ.eval c = .t 2 (.bool true):=by
 intro b1; simp [b1,scal] <;> omega) : awp P (.cond c .skip x) (zLe (awp P y Q) Q) σ:=zz (b:=true) hb (zc h)
theorem cY1 (a1 : A1) (h : Q .normal σ) (hb : let b1:=a1; σ.eval c = .t 2 (.bool false):=by
 intro b1; simp [b1,scal] <;> omega) : awp P (.cond c x .skip) Q σ:=zz (b:=false) hb (zc h)
theorem rt1 {B : Prop} (a1 : A1) (h : let b1:=a1; B:=by
 intro b1; refine ⟨⟨.inr rfl,_,[],rfl,trivial,trivial,by simp [b1,ghA,ghA1,wkPs,wkP,mkS,zCI],?_⟩,by simp [b1,ghA,ghA1,mkS,zCI]⟩
 simp [b1,wkP,wkPs,zBn,unm,mkS]) : B:=h
theorem kw1 {el : List (Nat × AV)} {hl : List (Nat × AObj)} {nx nt : Nat} {gh : List AV} (mp : List (Nat × Option Nat)) (a1 : A1) (he : let b1:=a1; wkE σ (mpOf mp) (unm mp) nx el:=by
 intro b1; simp [b1,ints]) (hh : let b1:=a1; wkH σ (mpOf mp) (unm mp) nx hl mp:=by
 intro b1; simp [b1,ints]) (hn : let b1:=a1; keysNd mp:=by
 intro b1; simp [b1,ints]) (hg : let b1:=a1; wkPs σ.heap (mpOf mp) (unm mp) nx σ.gh gh:=by
 intro b1; simp [b1,ints]) (hnt : nt = σ.nt:=by rfl) : Wk σ (mkS el hl nx nt gh):=zU mp hnt he hh hn hg
theorem zRo {B : Prop} (h : B:=by
 refine ⟨⟨.inr rfl,_,[(0,some 0)],(by first | rfl | (simp [ints,rows,scal]; rfl)),?_,?_,?_,?_⟩,?_⟩ <;> first | (simp [ints,rows,scal]; done) | rfl | trivial | omega) : B:=h
theorem zRi {B : Prop} (a1 : A1) (h : let b1:=a1; B:=by
 intro b1; refine ⟨⟨.inr rfl,_,[(0,some 0)],(by first | rfl | (simp [b1,ints,rows,scal]; rfl)),?_,?_,?_,?_⟩,?_⟩ <;> first | (simp [b1,ints,rows,scal]; done) | rfl | trivial | omega) : B:=h
theorem zRb {B : Prop} (a1 : A1) (h : let b1:=a1; B:=by
 intro b1; refine ⟨⟨.inr rfl,_,[(0,some 0),(1,some 1),(2,some 2)],(by first | rfl | (simp [b1,ints,rows,scal]; rfl)),?_,?_,?_,?_⟩,?_⟩ <;> first | (simp [b1,ints,rows,scal]; done) | rfl | trivial | omega) : B:=h
theorem kf1 {el : List (Nat × AV)} {hl : List (Nat × AObj)} {base n : Nat} {F : Nat -> AObj} {nx nt : Nat} {gh : List AV} (mp : List (Nat × Option Nat)) (g : Nat -> Nat) (a1 : A1) (he : let b1:=a1; wkE σ (zBP mp base n g) (zBu mp n g) nx el:=by
 intro b1; first | (simp +contextual (disch:=omega) [b1,wkE,wkP,wkPs,wkH,wkO,keysNd,unm,zAV,zAK,dels,zBn,mkS,mkF,zAD,zy,zx,zt,zAg,zAn,zBu,zAh,zAp,zBQ,zBL,zX,zY,zg,zh,zAG,List.getElem?_cons_zero,List.getElem?_cons_succ,Option.getD_some,zCI,callS,callF,zA8,addL,delL,outV,outVs,outO,ghA,ghA1,ints,scal,zO,zP]; done) | omega | (simp +contextual (disch:=omega) [b1,wkE,wkP,wkPs,wkH,wkO,keysNd,unm,zAV,zAK,dels,zBn,mkS,mkF,zAD,zy,zx,zt,zAg,zAn,zBu,zAh,zAp,zBQ,zBL,zX,zY,zg,zh,zAG,List.getElem?_cons_zero,List.getElem?_cons_succ,Option.getD_some,zCI,callS,callF,zA8,addL,delL,outV,outVs,outO,ghA,ghA1,ints,scal,zO,zP] <;> omega)) (hh : let b1:=a1; wkH σ (zBP mp base n g) (zBu mp n g) nx hl mp:=by
 intro b1; first | (simp +contextual (disch:=omega) [b1,wkE,wkP,wkPs,wkH,wkO,keysNd,unm,zAV,zAK,dels,zBn,mkS,mkF,zAD,zy,zx,zt,zAg,zAn,zBu,zAh,zAp,zBQ,zBL,zX,zY,zg,zh,zAG,List.getElem?_cons_zero,List.getElem?_cons_succ,Option.getD_some,zCI,callS,callF,zA8,addL,delL,outV,outVs,outO,ghA,ghA1,ints,scal,zO,zP]; done) | omega | (simp +contextual (disch:=omega) [b1,wkE,wkP,wkPs,wkH,wkO,keysNd,unm,zAV,zAK,dels,zBn,mkS,mkF,zAD,zy,zx,zt,zAg,zAn,zBu,zAh,zAp,zBQ,zBL,zX,zY,zg,zh,zAG,List.getElem?_cons_zero,List.getElem?_cons_succ,Option.getD_some,zCI,callS,callF,zA8,addL,delL,outV,outVs,outO,ghA,ghA1,ints,scal,zO,zP] <;> omega)) (hn : let b1:=a1; keysNd mp:=by
 intro b1; first | (simp +contextual (disch:=omega) [b1,wkE,wkP,wkPs,wkH,wkO,keysNd,unm,zAV,zAK,dels,zBn,mkS,mkF,zAD,zy,zx,zt,zAg,zAn,zBu,zAh,zAp,zBQ,zBL,zX,zY,zg,zh,zAG,List.getElem?_cons_zero,List.getElem?_cons_succ,Option.getD_some,zCI,callS,callF,zA8,addL,delL,outV,outVs,outO,ghA,ghA1,ints,scal,zO,zP]; done) | omega | (simp +contextual (disch:=omega) [b1,wkE,wkP,wkPs,wkH,wkO,keysNd,unm,zAV,zAK,dels,zBn,mkS,mkF,zAD,zy,zx,zt,zAg,zAn,zBu,zAh,zAp,zBQ,zBL,zX,zY,zg,zh,zAG,List.getElem?_cons_zero,List.getElem?_cons_succ,Option.getD_some,zCI,callS,callF,zA8,addL,delL,outV,outVs,outO,ghA,ghA1,ints,scal,zO,zP] <;> omega)) (hg : let b1:=a1; wkPs σ.heap (zBP mp base n g) (zBu mp n g) nx σ.gh gh:=by
 intro b1; first | (simp +contextual (disch:=omega) [b1,wkE,wkP,wkPs,wkH,wkO,keysNd,unm,zAV,zAK,dels,zBn,mkS,mkF,zAD,zy,zx,zt,zAg,zAn,zBu,zAh,zAp,zBQ,zBL,zX,zY,zg,zh,zAG,List.getElem?_cons_zero,List.getElem?_cons_succ,Option.getD_some,zCI,callS,callF,zA8,addL,delL,outV,outVs,outO,ghA,ghA1,ints,scal,zO,zP]; done) | omega | (simp +contextual (disch:=omega) [b1,wkE,wkP,wkPs,wkH,wkO,keysNd,unm,zAV,zAK,dels,zBn,mkS,mkF,zAD,zy,zx,zt,zAg,zAn,zBu,zAh,zAp,zBQ,zBL,zX,zY,zg,zh,zAG,List.getElem?_cons_zero,List.getElem?_cons_succ,Option.getD_some,zCI,callS,callF,zA8,addL,delL,outV,outVs,outO,ghA,ghA1,ints,scal,zO,zP] <;> omega)) (hF : let b1:=a1; ∀ j,j < n -> base + j < nx /\ unm mp (g j) /\ wkO σ.heap (zBP mp base n g) (zBu mp n g) nx (some (g j)) (F j):=by
 intro b1; first | (simp +contextual (disch:=omega) [b1,wkE,wkP,wkPs,wkH,wkO,keysNd,unm,zAV,zAK,dels,zBn,mkS,mkF,zAD,zy,zx,zt,zAg,zAn,zBu,zAh,zAp,zBQ,zBL,zX,zY,zg,zh,zAG,List.getElem?_cons_zero,List.getElem?_cons_succ,Option.getD_some,zCI,callS,callF,zA8,addL,delL,outV,outVs,outO,ghA,ghA1,ints,scal,zO,zP]; done) | omega | (simp +contextual (disch:=omega) [b1,wkE,wkP,wkPs,wkH,wkO,keysNd,unm,zAV,zAK,dels,zBn,mkS,mkF,zAD,zy,zx,zt,zAg,zAn,zBu,zAh,zAp,zBQ,zBL,zX,zY,zg,zh,zAG,List.getElem?_cons_zero,List.getElem?_cons_succ,Option.getD_some,zCI,callS,callF,zA8,addL,delL,outV,outVs,outO,ghA,ghA1,ints,scal,zO,zP] <;> omega)) (hi : let b1:=a1; ∀ i j,i < n -> j < n -> g i = g j -> i = j:=by
 intro b1; first | (simp +contextual (disch:=omega) [b1,wkE,wkP,wkPs,wkH,wkO,keysNd,unm,zAV,zAK,dels,zBn,mkS,mkF,zAD,zy,zx,zt,zAg,zAn,zBu,zAh,zAp,zBQ,zBL,zX,zY,zg,zh,zAG,List.getElem?_cons_zero,List.getElem?_cons_succ,Option.getD_some,zCI,callS,callF,zA8,addL,delL,outV,outVs,outO,ghA,ghA1,ints,scal,zO,zP]; done) | omega | (simp +contextual (disch:=omega) [b1,wkE,wkP,wkPs,wkH,wkO,keysNd,unm,zAV,zAK,dels,zBn,mkS,mkF,zAD,zy,zx,zt,zAg,zAn,zBu,zAh,zAp,zBQ,zBL,zX,zY,zg,zh,zAG,List.getElem?_cons_zero,List.getElem?_cons_succ,Option.getD_some,zCI,callS,callF,zA8,addL,delL,outV,outVs,outO,ghA,ghA1,ints,scal,zO,zP] <;> omega)) (hnt : nt = σ.nt:=by rfl) : Wk σ (mkF el hl base n F nx nt gh):=zAI mp g hnt he hh hn hg hF hi
theorem an {A B : Prop} (a : A) (b : B) : A /\ B:=⟨a,b⟩
theorem fI {f : FuncId} {fn : Func} {c : Code} {args : List AV} {H H' : List AObj} {res : AV} (n : Nat) (r : Array ResultVar) (hf : P.funcs[f]? = some fn) (hb : fn.body = some c) (h : awp P c (fun e σ=>zLj P r.toList res H' e σ /\ σ.gh = ghA args) (zCI args H n)) (hn : fn.ntmps = n:=by rfl) (hr : fn.results = r:=by rfl) (hle : args.length <= n:=by simp) : FnS P f args H res H':=zH7 hf hb (by rw [hn]; exact hle) (by rw [hn,hr]; exact h)
end
def ints (xs : List Int) : T:=.sl 1 (xs.map (.int .i64))
def rows (xss : List (List Int)) : T:=.sl 1 (xss.map ints)
theorem zT (x : Int) (h1 : -9223372036854775808 <= x) (h2 : x <= 9223372036854775807) : IntKind.i64.wrap x = x:=by rw [IntKind.wrap_i64]; omega
theorem wr8 (x : Int) (h1 : 0 <= x) (h2 : x <= 255) : IntKind.u8.wrap x = x:=by rw [IntKind.wrap_u8]; omega
def zAF (ls : List Nat) : ByteArray:=⟨(ls.map fun x=>UInt8.ofNat (97 + x)).toArray⟩
theorem zDo (x : Nat) (hx : x <= 20) : FnA Tryz.prog 129 [.t 2 (.int .i64 x)] (.t 2 (.str (zAF [x]))):=by
 refine fI 8 #[.tmp 2] Tryz.func129 rfl ?_
 refine rg0 ?_
 refine zQ fun K hK=>?_
 simp (maxSteps:=2000000) (disch:=omega) [ints,rows,scal,zT,wr8,isU8]
 and_intros <;> try first | apply hK | omega | rfl | simp <;> omega
 refine zI ?_
 refine ⟨⟨.inr rfl,_,[],rfl,trivial,trivial,by simp,?_⟩,by simp⟩
 simp
 have : (97 + (x : Int)).toNat = 97 + x:=by omega
 try rw [zT _ (by omega) (by omega),wr8 _ (by omega) (by omega)]
 simp [zCe,u8n,zAF,this]
 rfl
theorem zFC (xs ys : List Int) (hx : xs.length <= 1000000) : FnA Tryz.prog 79 [.t 0 (ints xs),.t 0 (ints ys)] (.t 2 (.bool (decide (xs = ys)))):=by
 refine fI 26 #[.tmp 4] Tryz.func79 rfl ?_
 refine rg0 ?_
 refine zD ?_
 by_cases hl : xs.length = ys.length
 case neg =>
  refine rg0 ?_
  refine cT0 ?_
  refine rg0 ?_
  refine zI ?_
  refine ⟨⟨.inr rfl,_,[],rfl,trivial,trivial,by simp,?_⟩,by simp⟩
  simp
  intro h; exact hl (by rw [h])
 refine rg0 ?_
 refine cF0 ?_
 refine zc ?_
 refine zD ?_
 refine rg0 ?_
 refine zG ?_
 refine awp_loop (fun k : Nat=>mkS [(0,.t 0 (ints xs)),(1,.t 0 (ints ys)),(12,.t 2 (.int .i64 xs.length)),(13,.t 2 (.int .i64 k))] [] 0 26 [.any,.any]) (fun k=>k <= xs.length /\ ∀ i (h1 : i < xs.length) (h2 : i < ys.length),i < k -> xs[i] = ys[i]) (fun k=>xs.length - k) ?_ ?_
 ·refine ⟨0,⟨by omega,fun i h1 h2 h=>by omega⟩,?_⟩
  exact kw0 []
 ·intro k hk
  obtain ⟨hk,hall⟩:=hk
  refine rg0 ?_
  by_cases hlt : k < xs.length
  ·have hlt2 : k < ys.length:=by omega
   refine zD ?_
   refine cT1 @hlt ?_
   refine zc ?_
   refine zD ?_
   refine zG ?_
   refine rg0 ?_
   by_cases he : xs[k] = ys[k]
   ·refine rd1 (an @hlt (an @hlt2 @he)) ?_
    refine cY0 ?_
    show awp _ _ _ _
    refine rr0 ?_
    refine ⟨k + 1,⟨by omega,fun i h1 h2 h=>?_⟩,by omega,?_⟩
    ·by_cases e : i = k
     ·subst e; exact he
     ·exact hall i h1 h2 (by omega)
    ·exact kw0 []
   ·refine rd1 (an @hlt (an @hlt2 @he)) ?_
    refine cT0 ?_
    refine rg0 ?_
    refine zI ?_
    show zLj _ _ _ _ _ _ /\ _
    refine ⟨⟨.inr rfl,_,[],rfl,trivial,trivial,by simp,?_⟩,by simp⟩
    simp
    intro h; exact he (by simp only [h])
  ·refine zD ?_
   refine cF1 @hlt ?_
   refine zM ?_
   show awp _ _ _ _
   refine rg0 ?_
   refine zI ?_
   refine ⟨⟨.inr rfl,_,[],rfl,trivial,trivial,by simp,?_⟩,by simp⟩
   simp
   exact List.ext_getElem hl (fun i h1 h2=>hall i h1 h2 (by omega))
def zI4 (xss : List (List Int)) (f : List Int) : Int:=match xss.findIdx? (fun x=>decide (x = f)) with
 | some i=>i
 | none=>-1
theorem zOg {xss : List (List Int)} {f : List Int} {k : Nat} (hk : k < xss.length) (he : xss[k] = f) (hn : ∀ i (h : i < xss.length),i < k -> xss[i] ≠ f) : zI4 xss f = k:=by
 unfold zI4
 have : xss.findIdx? (fun x=>decide (x = f)) = some k:=by
  rw [List.findIdx?_eq_some_iff_getElem]
  refine ⟨hk,by simpa using he,fun j hj=>by simpa using hn j (by omega) hj⟩
 rw [this]
theorem zOp {xss : List (List Int)} {f : List Int} (hn : ∀ i (h : i < xss.length),xss[i] ≠ f) : zI4 xss f = -1:=by
 unfold zI4
 have : xss.findIdx? (fun x=>decide (x = f)) = none:=by
  rw [List.findIdx?_eq_none_iff]
  intro x hx
  obtain ⟨i,hi,rfl⟩:=List.getElem_of_mem hx
  simpa using hn i hi
 rw [this]
theorem zHB (xss : List (List Int)) (f : List Int) (hx : xss.length <= 1000000) (hl : ∀ x ∈ xss,x.length <= 1000000) : FnA Tryz.prog 98 [.t 0 (rows xss),.t 0 (ints f)] (.t 2 (.int .i64 (zI4 xss f))):=by
 refine fI 19 #[.tmp 4] Tryz.func98 rfl ?_
 refine rg0 ?_
 refine zD ?_
 refine rg0 ?_
 refine zG ?_
 refine awp_loop (fun k : Nat=>mkS [(0,.t 0 (rows xss)),(1,.t 0 (ints f)),(7,.t 2 (.int .i64 xss.length)),(8,.t 2 (.int .i64 k))] [] 0 19 [.any,.any]) (fun k=>k <= xss.length /\ ∀ i (h : i < xss.length),i < k -> xss[i] ≠ f) (fun k=>xss.length - k) ?_ ?_
 ·refine ⟨0,⟨by omega,fun i h1 h=>by omega⟩,?_⟩
  exact kw1 [] @rows.eq_1
 ·intro k hk
  obtain ⟨hk,hall⟩:=hk
  refine rg0 ?_
  by_cases hlt : k < xss.length
  ·refine zD ?_
   refine cT1 @hlt ?_
   refine zc ?_
   refine zD ?_
   refine zG ?_
   refine rg0 ?_
   refine zQ fun K hK=>?_
   simp (maxSteps:=2000000) (disch:=omega) [ints,rows,scal,zT,wr8,hlt]
   (repeat' apply And.intro)
   all_goals (try omega)
   refine zK (caps:=[]) (zFC xss[k] f (hl _ (by simp))) [] [] 2 rfl rfl rfl rfl (by kernel_rfl) (by simp) ?_ ?_ ?_ rfl ?_ ?_ (by simp) ?_
   ·simp [ints]
   ·trivial
   ·trivial
   ·trivial
   ·trivial
   simp (maxSteps:=2000000) (disch:=omega) [ints,rows,scal,zT,wr8]
   (repeat' first | apply hK | apply And.intro) <;> try first | omega | rfl | (simp <;> omega)
   by_cases he : xss[k] = f
   ·refine cT1 @he ?_
    refine rg0 ?_
    refine zI ?_
    show zLj _ _ _ _ _ _ /\ _
    refine ⟨⟨.inr rfl,_,[],rfl,trivial,trivial,by simp,?_⟩,by simp⟩
    simp
    exact (zOg hlt he hall).symm
   ·refine cY1 @he ?_
    show awp _ _ _ _
    refine rr0 ?_
    refine ⟨k + 1,⟨by omega,fun i h1 h=>?_⟩,by omega,?_⟩
    ·by_cases e : i = k
     ·subst e; exact he
     ·exact hall i h1 (by omega)
    ·exact kw1 [] @rows.eq_1
  ·refine zD ?_
   refine cF1 @hlt ?_
   refine zM ?_
   show awp _ _ _ _
   refine rg0 ?_
   refine zI ?_
   refine ⟨⟨.inr rfl,_,[],rfl,trivial,trivial,by simp,?_⟩,by simp⟩
   simp
   exact (zOp (fun i hi=>hall i hi (by omega))).symm
@[simp] theorem zA0 {α : Type} {n : Nat} (F : Nat -> α) {k : Nat} (h : k < (tab n F).length) : (tab n F)[k] = F k:=by simp [tab]
theorem zd {α β : Type} (n : Nat) (F : Nat -> α) (g : α -> β) : (tab n F).map g = tab n (fun i=>g (F i)):=by simp [tab,Function.comp_def]
theorem zp {α : Type} {n : Nat} (F : Nat -> α) (k : Nat) (x : α) : (tab n F).set k x = tab n (fun i=>if i = k then x else F i):=by
 apply List.ext_getElem?
 intro i
 rw [List.getElem?_set]
 by_cases hi : i < n
 ·rw [zZ _ hi]
  by_cases e : k = i
  ·subst e; rw [if_pos rfl,if_pos (by simpa using hi),zZ _ hi,if_pos rfl]
  ·rw [if_neg e,zZ _ hi,if_neg (Ne.symm e)]
 ·rw [List.getElem?_eq_none (by simp; omega)]
  by_cases e : k = i
  ·subst e; simp [hi]
  ·rw [if_neg e,List.getElem?_eq_none (by simp; omega)]
theorem zV {α : Type} {n : Nat} {F G : Nat -> α} (h : ∀ i,i < n -> F i = G i) : tab n F = tab n G:=by
 unfold tab
 exact List.map_congr_left (fun i hi=>h i (List.mem_range.1 hi))
theorem zAB {α : Type} (n : Nat) (x : α) : List.replicate n x = tab n (fun _=>x):=by
 apply List.ext_getElem?
 intro i
 by_cases h : i < n
 ·rw [zZ _ h]; simp [h]
 ·rw [List.getElem?_eq_none (by simp; omega),List.getElem?_eq_none (by simp; omega)]
theorem zAy {α : Type} (n : Nat) (F : Nat -> α) : tab (n + 1) F = tab n F ++ [F n]:=by simp [tab,List.range_succ]
theorem zG1 (n : Nat) (hn : n <= 1000000) : FnA Tryz.prog 167 [.t 2 (.int .i64 n)] (.t 2 (ints (tab n fun i=>(i : Int)))):=by
 refine fI 18 #[.tmp 2] Tryz.func167 rfl ?_
 refine rg0 ?_
 refine rg0 ?_
 refine zD ?_
 refine rg0 ?_
 refine zG ?_
 refine awp_loop (fun k : Nat=>mkS [(3,.own 0 n),(8,.t 2 (.int .i64 n)),(9,.t 2 (.int .i64 k))] [(0,.row 3 1 2 (tab n fun i=>.int .i64 (if i < k then (i : Int) else 0)))] 1 18 [.any]) (fun k=>k <= n) (fun k=>n - k) ?_ ?_
 ·refine ⟨0,by omega,?_⟩
  exact kw1 [(0,some 2000000)] @zAB
 ·intro k hk
  refine rg0 ?_
  by_cases hlt : k < n
  ·refine zD ?_
   refine cT1 @hlt ?_
   refine zc ?_
   refine zD ?_
   refine zG ?_
   refine rg0 ?_
   refine rr1 @hlt ?_
   show awp _ _ _ _
   refine rr0 ?_
   refine ⟨k + 1,by omega,by omega,?_⟩
   refine zU [(0,some 0)] rfl ?_ ?_ ?_ ?_
   all_goals try simp [ints]
   rw [zp]
   refine zV (fun i hi=>?_)
   by_cases e : i = k
   ·simp [e]
   ·rw [if_neg e]
    by_cases e2 : i < k
    ·rw [if_pos e2,if_pos (by omega)]
    ·rw [if_neg e2,if_neg (by omega)]
  ·refine zD ?_
   refine cF1 @hlt ?_
   refine zM ?_
   show awp _ _ _ _
   refine rg0 ?_
   refine zI ?_
   refine ⟨⟨.inr rfl,_,[],rfl,trivial,trivial,by simp [ints],?_⟩,by simp [ints]⟩
   simp [ints]
   rw [zd]
   exact zV (fun i hi=>by rw [if_pos (by omega)])
theorem zI0 (n : Nat) (f : Nat -> Nat) (m : Nat) (g : Nat -> Int) (hn : n <= 1000000) (hf : ∀ i,i < n -> f i < m) : FnA Tryz.prog 168 [.t 0 (ints (tab n fun i=>(f i : Int))),.t 0 (ints (tab m g))] (.t 2 (ints (tab n fun i=>g (f i)))):=by
 refine fI 27 #[.tmp 4] Tryz.func168 rfl ?_
 refine rg0 ?_
 refine rg0 ?_
 refine zD ?_
 refine rg0 ?_
 refine zG ?_
 refine awp_loop (fun k : Nat=>mkS [(1,.t 0 (ints (tab m g))),(5,.own 0 n),(11,.t 0 (ints (tab n fun i=>(f i : Int)))),(12,.t 2 (.int .i64 n)),(13,.t 2 (.int .i64 k))] [(0,.row 3 1 2 (tab n fun i=>.int .i64 (if i < k then g (f i) else 0)))] 1 27 [.any,.any]) (fun k=>k <= n) (fun k=>n - k) ?_ ?_
 ·refine ⟨0,by omega,?_⟩
  exact kw1 [(0,some 3000000)] @zAB
 ·intro k hk
  refine rg0 ?_
  by_cases hlt : k < n
  ·refine zD ?_
   refine cT1 @hlt ?_
   refine zc ?_
   refine zD ?_
   refine zG ?_
   refine rg1 (an @hlt @zA0) ?_
   have hfk:=hf k hlt
   refine rr1 (an @hlt (an @hfk @zA0)) ?_
   show awp _ _ _ _
   refine rr0 ?_
   refine ⟨k + 1,by omega,by omega,?_⟩
   refine zU [(0,some 0)] rfl ?_ ?_ ?_ ?_
   all_goals try simp [ints]
   rw [zp]
   refine zV (fun i hi=>?_)
   by_cases e : i = k
   ·simp [e]
   ·rw [if_neg e]
    by_cases e2 : i < k
    ·rw [if_pos e2,if_pos (by omega)]
    ·rw [if_neg e2,if_neg (by omega)]
  ·refine zD ?_
   refine cF1 @hlt ?_
   refine zM ?_
   show awp _ _ _ _
   refine rg0 ?_
   refine zI ?_
   refine ⟨⟨.inr rfl,_,[],rfl,trivial,trivial,by simp [ints],?_⟩,by simp [ints]⟩
   simp [ints]
   rw [zd]
   exact zV (fun i hi=>by rw [if_pos (by omega)])
theorem zn {P : Program} {f : FuncId} {fn : Func} {c : Code} {args : List AV} {H H' : List AObj} {G : AV -> Prop} (hf : P.funcs[f]? = some fn) (hb : fn.body = some c) (hle : args.length <= fn.ntmps) (h : awp P c (fun e σ=>∃ res,G res /\ zLj P fn.results.toList res H' e σ /\ σ.gh = ghA args) (zCI args H fn.ntmps)) : ∃ res,G res /\ FnS P f args H res H':=by
 obtain ⟨e,σ',h1,res,hG,h2⟩:=h
 exact ⟨res,hG,zH7 hf hb hle ⟨e,σ',h1,h2⟩⟩
theorem zOK (xss : List (List Int)) (hn : xss.length <= 1000000) (hl : ∀ x ∈ xss,x.length <= 1000000) : FnA Tryz.prog 166 [.t 0 (rows xss)] (.t 2 (rows xss)):=by
 refine fI 20 #[.tmp 2] Tryz.func166 rfl ?_
 refine rg0 ?_
 refine rg0 ?_
 refine zD ?_
 refine rg0 ?_
 refine zG ?_
 refine awp_loop (fun k : Nat=>mkS [(3,.own 0 k),(6,.t 0 (rows xss)),(7,.t 2 (.int .i64 xss.length)),(8,.t 2 (.int .i64 k))] [(0,.row 22 1 2 ((xss.take k).map ints))] 1 20 [.any]) (fun k=>k <= xss.length) (fun k=>xss.length - k) ?_ ?_
 ·refine ⟨0,by omega,?_⟩
  exact kw1 [(0,none)] @rows.eq_1
 ·intro k hk
  refine rg0 ?_
  by_cases hlt : k < xss.length
  ·have hlk:=hl xss[k] (by simp)
   refine zD ?_
   refine cT1 @hlt ?_
   refine zc ?_
   refine zD ?_
   refine zG ?_
   refine rg1 @hlt ?_
   refine rr1 @hlt ?_
   show awp _ _ _ _
   refine rr0 ?_
   refine ⟨k + 1,by omega,by omega,?_⟩
   refine zU [(0,some 0)] rfl ?_ ?_ ?_ ?_
   all_goals try simp [ints,rows]
   rw [List.take_succ_eq_append_getElem (by simpa using hlt)]
   simp [ints]
  ·refine zD ?_
   refine cF1 @hlt ?_
   refine zM ?_
   show awp _ _ _ _
   refine rg0 ?_
   refine zI ?_
   refine ⟨⟨.inr rfl,_,[],rfl,trivial,trivial,by simp [rows],?_⟩,by simp [rows]⟩
   simp [rows]
   have : k = xss.length:=by omega
   subst this
   simp
   rw [List.take_of_length_le (by simp)]
inductive Tm where
 | mk (op n : Int) (args : List Tm)
instance : Inhabited Tm:=⟨.mk 0 0 []⟩
def Tm.op : Tm -> Int
 | .mk o _ _=>o
def Tm.n : Tm -> Int
 | .mk _ n _=>n
def Tm.args : Tm -> List Tm
 | .mk _ _ a=>a
mutual
def Tm.cells : Tm -> List T
 | .mk o n l=>[.int .i64 o,.int .i64 n,.sl 3 (cellsL l)]
def cellsL : List Tm -> List T
 | []=>[]
 | a :: r=>a.cells ++ cellsL r
end
mutual
def Tm.sz : Tm -> Nat
 | .mk _ _ l=>1 + szL l
def szL : List Tm -> Nat
 | []=>0
 | a :: r=>a.sz + szL r
end
theorem Tm.zMM (t : Tm) : t.cells = [.int .i64 t.op,.int .i64 t.n,.sl 3 (cellsL t.args)]:=by
 cases t; rfl
@[simp] theorem Tm.zKF (t : Tm) : t.cells.length = 3:=by rw [Tm.zMM]; rfl
@[simp] theorem zIi : ∀ l : List Tm,(cellsL l).length = l.length * 3
 | []=>rfl
 | a :: r=>by
  show (a.cells ++ cellsL r).length = _
  rw [List.length_append,Tm.zKF,zIi r,List.length_cons]
  omega
def Tm.wf (t : Tm) : Bool:=decide ((t.op = 1 /\ t.n = 0 /\ t.args.length = 0) \/ (t.op = 2 /\ 0 <= t.n /\ t.n < 6 /\ t.args.length = 0) \/ (t.op = 3 /\ t.n = 0 /\ 2 <= t.args.length) \/ (t.op = 4 /\ -1 <= t.n /\ t.n <= 9 /\ t.args.length = 1))
mutual
def Tm.ok : Tm -> Bool
 | .mk o n l=>Tm.wf (.mk o n l) && zOW l
def zOW : List Tm -> Bool
 | []=>true
 | a :: r=>a.ok && zOW r
end
theorem ok_eq (t : Tm) : t.ok = (t.wf && zOW t.args):=by cases t; rfl
def Tm.val (t : Tm) : Bool:=t.ok && decide (t.sz <= 60)
def Tm.zero : Tm:=.mk 0 0 []
def ups : List AV -> List AV -> Prop
 | [],[]=>True
 | a :: aS',b :: bs=>(∀ E v,VR E v a -> VR E v b) /\ ups aS' bs
 | _,_=>False
attribute [simp] aAppStr
@[simp] theorem u8E : u8El Tryz.prog 5 = true:=by kernel_rfl
end Go.Proofs.YtjkeafkjjaploaaGreat.M
