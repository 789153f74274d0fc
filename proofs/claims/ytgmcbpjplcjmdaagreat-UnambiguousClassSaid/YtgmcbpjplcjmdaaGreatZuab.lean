/- Lemmas for the law unambiguousClass. No conditions. -/
import Derived.WalkKit
import Derived.WalkSpells
import Derived.WalkLawsBesides
import Derived.Lib.Hide
import Derived.Maps.AppendAt
import Derived.OneCell
import Derived.Laws.BytesString
import Derived.Great.BuildSlice
import Derived.ChangeKeysEq
import Derived.WideKeyRuns
set_option linter.all false
namespace Go.Proofs.YtgmcbpjplcjmdaaGreat.M
open Go.RowKit
theorem Qq.{u}{α:Type u}{i:Nat}{a:α}{l:List α}:l[i]? =some a↔∃h,l[i]'h=a:=List.getElem?_eq_some_iff
theorem Qx.{u}{α:Type u}(val val_1:α):(some val=some val_1)=(val=val_1):=Option.some.injEq _ _
theorem Qj.{u}{α:Type u}{l:List α}{i:Nat}(h:i<l.length):l[i]? =some l[i]:=List.getElem?_eq_getElem h
theorem Qv.{u}{α:Type u}{l:List α}{i:Nat}{a:α}:l.getD i a=l[i]?.getD a:=List.getD_eq_getElem?_getD
theorem Qk.{u,v}{α:Type u}{β:Type v}(fst:α)(snd:β)(fst_1:α)(snd_1:β):((fst,snd)=(fst_1,snd_1))=(fst=fst_1∧snd=snd_1):=Prod.mk.injEq _ _ _ _
theorem Qw.{u}{α:Type u}{l₁ l₂:List α}{i:Nat}(h:i<l₁.length):(l₁++l₂)[i]? =l₁[i]?:=List.getElem?_append_left h
theorem Qz(a b:Bool):((a&&b)=true)=(a=true∧b=true):=Bool.and_eq_true _ _
theorem Qy(n:Nat):n≤n:=Nat.le_refl _
theorem Qa.{u}{α:Type u}{l₁ l₂:List α}{i:Nat}(h:l₁.length≤i):(l₁++l₂)[i]? =l₂[i-l₁.length]?:=List.getElem?_append_right h
theorem Qb.{u}{α:Type u}{a:α}{l:List α}(h:a∈l):∃(i:Nat)(h:i<l.length),l[i]'h=a:=List.getElem_of_mem h
theorem Qc.{u}{α:Type u}{l:List α}{i:Nat}{a:α}(h:l[i]? =some a):a∈l:=List.mem_of_getElem? h
theorem Qd.{u}{α:Type u}{a b:α}:(some a).getD b=a:=Option.getD_some
theorem Qf.{u}{α:Type u}{i:Nat}{l:List α}(h:i<l.length):l.take (i+1)=l.take i++[l[i]]:=List.take_succ_eq_append_getElem h
theorem Qg.{u,v}{α:Type u}{β:Type v}(a:α)(f:α→β):Option.map f (some a)=some (f a):=Option.map_some _ _
theorem Qh.{u}{α:Type u}{l:List α}{i:Nat}(h:l.length≤i):l[i]? =none:=List.getElem?_eq_none h
theorem Qi.{u,v}{α:Type u}{β:Type v}{f:α→β}{l:List α}{i:Nat}:(List.map f l)[i]? =Option.map f l[i]?:=List.getElem?_map
theorem Ql.{u}{α:Type u}{a:α}{i:Nat}{l:List α}:(a::l)[i+1]? =l[i]?:=List.getElem?_cons_succ
theorem Qm.{u}{α:Type u}{a:α}{l:List α}:(a::l)[0]? =some a:=List.getElem?_cons_zero
theorem Qn.{u}{α:Type u}{i:Nat}{l:List α}(h:l.length≤i):l.take i=l:=List.take_of_length_le h
set_option maxRecDepth 100000
set_option maxHeartbeats 32000000

inductive T where
 |int (k:IntKind) (n:Int)
 |bool (b:Bool)
 |str (s:ByteArray)
 |sl (z:Nat) (cs:List T)
 |nilp
 |zFJ
 |any
 |fn (f:FuncId)
instance:Inhabited T:=⟨.nilp⟩
abbrev Mem:=Nat->Nat->Option Value
inductive Rep(m:Mem):Value->T->Prop where
 |int (k:IntKind) (n:Int):Rep m (.int k n) (.int k n)
 |bool (b:Bool):Rep m (.bool b) (.bool b)
 |str (s:ByteArray):Rep m (.string s) (.str s)
 |nilp:Rep m (.pointer none) .nilp
 |zFJ:Rep m (.map none) .zFJ
 |any (v:Value) (h:v.oneCell'=true):Rep m v .any
 |fn (f:FuncId):Rep m (.func (.func f) #[] #[]) (.fn f)
 |nil (z:Nat):Rep m (.slice none 0 0) (.sl z [])
 |emp (a:Addr) (z:Nat) (hz:0<z):Rep m (.slice (some a) 0 0) (.sl z [])
 |sl (b o n cap z:Nat) (cs:List T) (vs:Nat->Value) (hz:0<z) (hn:cs.length=n*z) (h1:n<=cap) (h2:cap<=9223372036854775807)
   (hc: ∀i c,cs[i]? =some c->m b (o+i)=some (vs i)) (hr: ∀i c,cs[i]? =some c->Rep m (vs i) c):Rep m (.slice (some ⟨b,o,none⟩) n cap) (.sl z cs)
theorem Rep.mono{m m':Mem}{v:Value}{x:T}(h:Rep m v x)(hm: ∀b o u,m b o=some u->m' b o=some u):Rep m' v x:=by
 induction h with
 |int k n=>exact .int k n
 |bool b=>exact .bool b
 |str s=>exact .str s
 |nilp=>exact .nilp
 |zFJ=>exact .zFJ
 |any v h=>exact .any v h
 |fn f=>exact .fn f
 |nil z=>exact .nil z
 |emp a z hz=>exact .emp a z hz
 |sl b o n cap z cs vs hz hn h1 h2 hc hr ih=>exact .sl b o n cap z cs vs hz hn h1 h2 (fun i c hi=>hm _ _ _ (hc i c hi)) ih
theorem Rep.one{m:Mem}{v:Value}{x:T}(h:Rep m v x):v.oneCell'=true:=by cases h<;>first|rfl|assumption
inductive KR(m:Mem):Value->T->Prop where
 |one (v:Value) (x:T) (h:Rep m v x) (hx: ∀z cs,x≠ .sl z cs):KR m v x
 |agg (ns:List Int):KR m (.agg (ns.map (Value.int .i64)).toArray) (.sl 99 (ns.map (T.int .i64)))
inductive AV where
 |any
 |t (p:Nat) (x:T)
 |own (id c:Nat)
 |ptr (id off c:Nat)
 |sub (id off l c:Nat)
 |pt (p:Nat) (cs:List T)
 |agg (cs:List AV)
 |tup (cs:List AV)
 |fn (f:FuncId) (cs:List AV)
instance:Inhabited AV:=⟨.any⟩
def blk:Value->Option Nat
 | .slice (some a) _ _=>some a.block
 | .pointer (some a)=>some a.block
 | .map (some r)=>some r
 |_=>none
structure Ev where
 mem:Nat->Mem
 lv:Nat->Nat->Prop
 ob:Nat->Option (Value×Nat)
 U:Nat->Prop
inductive VR(E:Ev):Value->AV->Prop where
 |any (v:Value):VR E v .any
 |t (v:Value) (p:Nat) (x:T) (h:Rep (E.mem p) v x):VR E v (.t p x)
 |own (v:Value) (id c:Nat) (h1:v.oneCell'=true) (hU:E.U id) (h: ∀u n,E.ob id=some (u,n)->c<=n/\(c=n->v=u)):VR E v (.own id c)
 |ptr (v:Value) (id off c:Nat) (h1:v.oneCell'=true) (hU:E.U id) (h: ∀u n,E.ob id=some (u,n)->c<=n/\(c=n-> ∃b,blk u=some b/\v= .pointer (some ⟨b,off,none⟩))):VR E v (.ptr id off c)
 |sub (v:Value) (id off l c:Nat) (h1:v.oneCell'=true) (hU:E.U id) (h: ∀u n,E.ob id=some (u,n)->c<=n/\(c=n-> ∃cap,l<=cap/\cap<=9223372036854775807/\((v= .slice none 0 0/\l=0)\/ ∃b o,blk u=some b/\v= .slice (some ⟨b,o,none⟩) l cap/\(l=0\/o=off)))):VR E v (.sub id off l c)
 |pt (p b o:Nat) (cs:List T) (vs:Nat->Value) (hc: ∀i c,cs[i]? =some c->E.mem p b (o+i)=some (vs i)) (hr: ∀i c,cs[i]? =some c->Rep (E.mem p) (vs i) c):VR E (.pointer (some ⟨b,o,none⟩)) (.pt p cs)
 |agg (vs:Array Value) (cs:List AV) (hn:vs.size=cs.length) (h1: ∀v,v∈vs->v.oneCell'=true) (hr: ∀i c,cs[i]? =some c->VR E (vs.getD i undef) c):VR E (.agg vs) (.agg cs)
 |tup (vs:Array Value) (cs:List AV) (hn:vs.size=cs.length) (hr: ∀i c,cs[i]? =some c->VR E (vs.getD i undef) c):VR E (.tuple vs) (.tup cs)
 |fn (f:FuncId) (vs:Array Value) (cs:List AV) (hn:vs.size=cs.length) (hr: ∀i c,cs[i]? =some c->VR E (vs.getD i undef) c):VR E (.func (.func f) #[] vs) (.fn f cs)
structure Ext(E E':Ev):Prop where
 mem: ∀p b o u,E.mem p b o=some u->E'.mem p b o=some u
 lv:E'.lv=E.lv
 U: ∀id,E.U id->E'.U id
 ob: ∀id u' n',E.U id->E'.ob id=some (u',n')-> ∃u n,E.ob id=some (u,n)/\n<=n'/\(n=n'->u=u')
theorem Ext.refl(E:Ev):Ext E E:=⟨fun _ _ _ _ h=>h,rfl,fun _ h=>h,fun id u n _ h=>⟨u,n,h,Qy _,fun _=>rfl⟩⟩
theorem Ext.trans{A B C:Ev}(h:Ext A B)(k:Ext B C):Ext A C:=
 ⟨fun p b o u e=>k.mem p b o u (h.mem p b o u e),k.lv.trans h.lv,fun id e=>k.U id (h.U id e),fun id u' n' hU e=>by
  obtain⟨u1,n1,e1,l1,f1⟩:=k.ob id u' n' (h.U id hU) e;obtain⟨u2,n2,e2,l2,f2⟩:=h.ob id u1 n1 hU e1;exact⟨u2,n2,e2,by omega,fun he=>(f2 (by omega)).trans (f1 (by omega))⟩⟩
theorem VR.ext{E E':Ev}{v:Value}{a:AV}(h:VR E v a)(hx:Ext E E'):VR E' v a:=by
 induction h with
 |any v=>exact .any v
 |t v p x h=>exact .t v p x (h.mono (hx.mem p))
 |own v id c h1 hU h=>exact .own v id c h1 (hx.U id hU) (fun u' n' e=>by
   obtain⟨u,n,e1,l1,f1⟩:=hx.ob id u' n' hU e;obtain⟨l2,f2⟩:=h u n e1;exact⟨by omega,fun he=>(f2 (by omega)).trans (f1 (by omega))⟩)
 |ptr v id off c h1 hU h=>exact .ptr v id off c h1 (hx.U id hU) (fun u' n' e=>by
   obtain⟨u,n,e1,l1,f1⟩:=hx.ob id u' n' hU e;obtain⟨l2,f2⟩:=h u n e1;exact⟨by omega,fun he=>by rw[←f1 (by omega)];exact f2 (by omega)⟩)
 |sub v id off l c h1 hU h=>exact .sub v id off l c h1 (hx.U id hU) (fun u' n' e=>by
   obtain⟨u,n,e1,l1,f1⟩:=hx.ob id u' n' hU e;obtain⟨l2,f2⟩:=h u n e1;exact⟨by omega,fun he=>by rw[←f1 (by omega)];exact f2 (by omega)⟩)
 |pt p b o cs vs hc hr=>exact .pt p b o cs vs (fun i c hi=>hx.mem _ _ _ _ (hc i c hi)) (fun i c hi=>(hr i c hi).mono (hx.mem p))
 |agg vs cs hn h1 hr ih=>exact .agg vs cs hn h1 ih
 |tup vs cs hn hr ih=>exact .tup vs cs hn ih
 |fn f vs cs hn hr ih=>exact .fn f vs cs hn ih
theorem VR.rep{E:Ev}{v:Value}{p:Nat}{x:T}(h:VR E v (.t p x)):Rep (E.mem p) v x:=by
 cases h;assumption
theorem VR.int{E:Ev}{v:Value}{p:Nat}{k:IntKind}{n:Int}(h:VR E v (.t p (.int k n))):v= .int k n:=by have:=h.rep;cases this;rfl
theorem VR.bool{E:Ev}{v:Value}{p:Nat}{b:Bool}(h:VR E v (.t p (.bool b))):v= .bool b:=by have:=h.rep;cases this;rfl
theorem VR.str{E:Ev}{v:Value}{p:Nat}{s:ByteArray}(h:VR E v (.t p (.str s))):v= .string s:=by have:=h.rep;cases this;rfl
theorem VR.zFJ{E:Ev}{v:Value}{p:Nat}(h:VR E v (.t p .zFJ)):v= .map none:=by have:=h.rep;cases this;rfl
theorem VR.mkInt(E:Ev)(p:Nat)(k:IntKind)(n:Int):VR E (.int k n) (.t p (.int k n)):=.t _ p _ (.int k n)
theorem VR.zAR(E:Ev)(p:Nat)(b:Bool):VR E (.bool b) (.t p (.bool b)):=.t _ p _ (.bool b)
theorem VR.mkStr(E:Ev)(p:Nat)(s:ByteArray):VR E (.string s) (.t p (.str s)):=.t _ p _ (.str s)
theorem VR.zT3{E:Ev}{v:Value}{p:Nat}{cs:List T}(h:VR E v (.pt p cs)): ∃b o,∃vs:Nat->Value,v= .pointer (some ⟨b,o,none⟩)/\(∀i c,cs[i]? =some c->E.mem p b (o+i)=some (vs i))/\ ∀i c,cs[i]? =some c->Rep (E.mem p) (vs i) c:=by
 cases h with
 |pt p b o cs vs hc hr=>exact⟨b,o,vs,rfl,hc,hr⟩
inductive AObj where
 |row (e z p:Nat) (cs:List T)
 |box (ty:Nat) (cs:List AV)
 |map (K E:Nat) (es:List (T×T))
 |tmap (K E:Nat) (es:List (T×T))
 |vec (e z p:Nat) (cs:List AV)
def AObj.cnt:AObj->Nat
 | .row _ _ _ cs=>cs.length
 | .box _ cs=>cs.length
 | .map _ _ _=>0
 | .tmap _ _ _=>0
 | .vec _ _ _ cs=>cs.length
structure Onl(S:Nat->Prop)(w w':World):Prop where
 os:w'.os=w.os
 tape:w'.tape=w.tape
 output:w'.output=w.output
 size:w.heap.size<=w'.heap.size
 block: ∀k,k<w.heap.size-> ¬S k->w'.heap[k]? =w.heap[k]?
theorem Onl.refl(S:Nat->Prop)(w:World):Onl S w w:=⟨rfl,rfl,rfl,Qy _,fun _ _ _=>rfl⟩
theorem Onl.trans{S:Nat->Prop}{a b c:World}(h:Onl S a b)(k:Onl S b c):Onl S a c:=
 ⟨k.os.trans h.os,k.tape.trans h.tape,k.output.trans h.output,Nat.le_trans h.size k.size,fun i hi hn=>(k.block i (Nat.lt_of_lt_of_le hi h.size) hn).trans (h.block i hi hn)⟩
theorem Onl.mono{S S':Nat->Prop}{w w':World}(h:Onl S w w')(hs: ∀k,k<w.heap.size->S k->S' k):Onl S' w w':=
 ⟨h.os,h.tape,h.output,h.size,fun k hk hn=>h.block k hk (fun hS=>hn (hs k hk hS))⟩
theorem Onl.alloc(S:Nat->Prop)(w:World)(o:Obj):Onl S w (w.alloc o):=⟨rfl,rfl,rfl,by simp,fun k hk _=>Below.heap_alloc w o k hk⟩
theorem Onl.drew(S:Nat->Prop)(w:World):Onl S w w.drew:=⟨rfl,rfl,rfl,Qy _,fun _ _ _=>rfl⟩
theorem Onl.grown{S:Nat->Prop}{w w':World}{row:Option Nat}(hg:w.grownBy w' row)(hr: ∀k,row=some k->S k):Onl S w w':=
 ⟨hg.os,hg.tape,hg.output,hg.size,fun k hk hn=>hg.block k hk (fun e=>hn (hr k e.symm))⟩
theorem Onl.below{S:Nat->Prop}{w w':World}(h:Onl S w w')(hS: ∀k,k<w.heap.size-> ¬S k):Below w.heap.size w w':=⟨h.os,h.tape,h.output,h.size,fun k hk=>h.block k hk (hS k hk)⟩
theorem Onl.zOz{S:Nat->Prop}{w w':World}(h:Below w.heap.size w w'):Onl S w w':=⟨h.os,h.tape,h.output,h.size,fun k hk _=>h.block k hk⟩
def OB(ob:Nat->Option (Value×Nat))(k:Nat):Prop:=∃id u n,ob id=some (u,n)/\blk u=some k
def lvl(lo:Nat)(V:Nat->Prop)(p b:Nat):Prop:=lo<=b\/p=0\/(p=1/\V b)
open Classical in
noncomputable def zFf(lo:Nat)(V:Nat->Prop)(ob:Nat->Option (Value×Nat))(w:World)(p:Nat):Mem:=fun b o=>if OB ob b\/ ¬lvl lo V p b then none else w.cell? ⟨b,o,none⟩
noncomputable def zV(lo:Nat)(V:Nat->Prop)(ob:Nat->Option (Value×Nat))(U:Nat->Prop)(w:World):Ev:=⟨zFf lo V ob w,lvl lo V,ob,U⟩
theorem zZ{lo:Nat}{V:Nat->Prop}{ob:Nat->Option (Value×Nat)}{w:World}{p b o:Nat}{u:Value}:zFf lo V ob w p b o=some u↔ ¬OB ob b/\lvl lo V p b/\w.cell? ⟨b,o,none⟩=some u:=by
 unfold zFf;by_cases h:OB ob b<;>by_cases h2:lvl lo V p b<;>simp[h,h2]
theorem zBc{lo:Nat}{V:Nat->Prop}{p q b:Nat}(h:lvl lo V p b)(hq:q<=p):lvl lo V q b:=by
 rcases h with h|h|⟨h,h'⟩
 ·exact .inl h
 ·exact .inr (.inl (by omega))
 ·by_cases e:q=0
  ·exact .inr (.inl e)
  ·exact .inr (.inr ⟨by omega,h'⟩)
theorem zAm{lo:Nat}{V:Nat->Prop}{ob:Nat->Option (Value×Nat)}{w:World}{p q:Nat}(hq:q<=p)(b o:Nat)(u:Value)(h:zFf lo V ob w p b o=some u):zFf lo V ob w q b o=some u:=by
 obtain⟨h1,h2,h3⟩:=zZ.1 h;exact zZ.2 ⟨h1,zBc h2 hq,h3⟩
theorem zCh{lo:Nat}{V:Nat->Prop}{ob:Nat->Option (Value×Nat)}{w:World}{p b o:Nat}{u:Value}(h:zFf lo V ob w p b o=some u):w.cell? ⟨b,o,none⟩=some u:=(zZ.1 h).2.2
def noM:Mem:=fun _ _=>none
theorem zKT(m:Mem): ∀b o u,noM b o=some u->m b o=some u:=fun _ _ _ h=>by cases h
def OR(E:Ev)(w:World)(u:Value):AObj->Prop
 | .row e z p cs=>0<z/\(∀k,blk u=some k->E.lv p k)/\ ∃(n:Nat) (vs:List Value),w.ownsRow 0 e z u n vs/\vs.length=cs.length/\ ∀(i:Nat) c x,cs[i]? =some c->vs[i]? =some x->Rep (E.mem p) x c
 | .box ty cs=>∃(b:Nat) (vs:Array Value),u= .pointer (some ⟨b,0,none⟩)/\w.heap[b]? =some (.cells vs ty (0,0))/\VR E (.agg vs) (.agg cs)
 | .map K Y es=>∃(r clock:Nat) (xs:Array MapEntry),u= .map (some r)/\w.heap[r]? =some (.map xs clock)/\xs.size=es.length/\ ∀(i:Nat) k x e,es[i]? =some (k,x)->xs[i]? =some e->KR noM e.key k/\Rep noM e.val x
 | .tmap K Y es=>∃(r clock:Nat) (xs:Array MapEntry),u= .map (some r)/\w.heap[r]? =some (.map xs clock)/\xs.size=es.length/\ ∀(i:Nat) k x e,es[i]? =some (k,x)->xs[i]? =some e->KR noM e.key k/\Rep (E.mem 1) e.val x
 | .vec e z p cs=>0<z/\(∀k,blk u=some k->E.lv p k)/\ ∃(n:Nat) (vs:List Value),w.ownsRow 0 e z u n vs/\vs.length=cs.length/\(∀v∈vs,v.oneCell'=true)/\ ∀(j:Nat) c x,cs[j]? =some c->vs[j]? =some x->VR E x c
theorem OR.ext{E E':Ev}{w w':World}{u:Value}{o:AObj}(h:OR E w u o)(hx:Ext E E')(hb: ∀k,blk u=some k->w'.heap[k]? =w.heap[k]?):OR E' w' u o:=by
 cases o with
 |row e z p cs=>
  obtain⟨hz,hl,n,vs,h1,h2,h3⟩:=h;refine⟨hz,fun k hk=>by rw[hx.lv];exact hl k hk,n,vs,⟨h1.1,?_⟩,h2,fun i c x hi hv=>(h3 i c x hi hv).mono (hx.mem p)⟩;rcases h1.2 with h4|⟨g,cap,cur,rfl,h5,h6,h7⟩
  ·exact .inl h4
  ·exact .inr ⟨g,cap,cur,rfl,h5,(hb g rfl).trans h6,h7⟩
 |box ty cs=>
  obtain⟨b,vs,rfl,h1,h2⟩:=h;exact⟨b,vs,rfl,(hb b rfl).trans h1,h2.ext hx⟩
 |map K Y es=>
  obtain⟨r,clock,xs,rfl,h1,h2,h3⟩:=h;exact⟨r,clock,xs,rfl,(hb r rfl).trans h1,h2,h3⟩
 |tmap K Y es=>
  obtain⟨r,clock,xs,rfl,h1,h2,h3⟩:=h;exact⟨r,clock,xs,rfl,(hb r rfl).trans h1,h2,fun i k x e e1 e2=>⟨(h3 i k x e e1 e2).1,(h3 i k x e e1 e2).2.mono (hx.mem 1)⟩⟩
 |vec e z p cs=>
  obtain⟨hz,hl,n,vs,h1,h2,h3,h4⟩:=h;refine⟨hz,fun k hk=>by rw[hx.lv];exact hl k hk,n,vs,⟨h1.1,?_⟩,h2,h3,fun j c x hj hv=>(h4 j c x hj hv).ext hx⟩;rcases h1.2 with h4|⟨g,cap,cur,rfl,h5,h6,h7⟩
  ·exact .inl h4
  ·exact .inr ⟨g,cap,cur,rfl,h5,(hb g rfl).trans h6,h7⟩
theorem OR.lt{E:Ev}{w:World}{u:Value}{o:AObj}(h:OR E w u o){k:Nat}(hk:blk u=some k):k<w.heap.size:=by
 cases o with
 |row e z p cs=>
  obtain⟨hz,-,n,vs,h1,-⟩:=h;rcases h1.2 with⟨rfl,-⟩|⟨g,cap,cur,rfl,h5,h6,-⟩
  ·cases hk
  ·obtain rfl:g=k:=by simpa[blk]using hk
   exact lt_of_block h6
 |box ty cs=>
  obtain⟨b,vs,rfl,h1,-⟩:=h;obtain rfl:b=k:=by simpa[blk]using hk
  exact lt_of_block h1
 |map K Y es=>
  obtain⟨r,clock,xs,rfl,h1,-⟩:=h;obtain rfl:r=k:=by simpa[blk]using hk
  exact lt_of_block h1
 |tmap K Y es=>
  obtain⟨r,clock,xs,rfl,h1,-⟩:=h;obtain rfl:r=k:=by simpa[blk]using hk
  exact lt_of_block h1
 |vec e z p cs=>
  obtain⟨-,-,n,vs,h1,-⟩:=h;rcases h1.2 with⟨rfl,-⟩|⟨g,cap,cur,rfl,h5,h6,-⟩
  ·cases hk
  ·obtain rfl:g=k:=by simpa[blk]using hk
   exact lt_of_block h6
def GT:List (List T):=[]
def GlW(S0:Nat->Prop)(w:World):Prop:=∀(g:Nat) cs,GT[g]? =some cs->g<w.heap.size/\ ¬S0 g/\ ∀(i:Nat) c,cs[i]? =some c-> ∃v,w.cell? ⟨g,i,none⟩=some v/\ ∀m,Rep m v c
structure MR(w0:World)(V S0:Nat->Prop)(U:Nat->Prop)(H:Nat->Option AObj)(ob:Nat->Option (Value×Nat))(w:World):Prop where
 live: ∀id u n,ob id=some (u,n)-> ∃o,H id=some o/\n=o.cnt
 obj: ∀id o,H id=some o->U id/\ ∃u,ob id=some (u,o.cnt)/\OR (zV w0.heap.size V ob U w) w u o
 sep: ∀id id' u u' n n' k,id≠id'->ob id=some (u,n)->ob id'=some (u',n')->blk u=some k->blk u'≠some k
 new: ∀id u n k,ob id=some (u,n)->blk u=some k->k<w0.heap.size->S0 k
 only:Onl S0 w0 w
 gl:GlW S0 w0
def upd{α:Type}(f:Nat->α)(i:Nat)(x:α):Nat->α:=fun j=>if j=i then x else f j
theorem zX{α:Type}(f:Nat->α)(i:Nat)(x:α):upd f i x i=x:=by simp[upd]
theorem zu{α:Type}(f:Nat->α){i j:Nat}(x:α)(h:j≠i):upd f i x j=f j:=by simp[upd,h]
section
variable{w0 w w':World}{V S0:Nat->Prop}{U:Nat->Prop}{H:Nat->Option AObj}{ob:Nat->Option (Value×Nat)}
theorem MR.glw(h:MR w0 V S0 U H ob w){S:Nat->Prop}(hS: ∀k,S k-> ∃id u n,ob id=some (u,n)/\blk u=some k):GlW S w:=fun g cs hg=>by
 obtain⟨h0,h1,h2⟩:=h.gl g cs hg;refine⟨Nat.lt_of_lt_of_le h0 h.only.size,fun hs=>?_,fun i c hi=>?_⟩
 ·obtain⟨id,u,n,e1,e2⟩:=hS g hs;exact h1 (h.new id u n g e1 e2 h0)
 ·obtain⟨v,h3,h4⟩:=h2 i c hi;exact⟨v,by rw[World.cell?_of_block (h.only.block g h0 h1)];exact h3,h4⟩
theorem MR.lt(h:MR w0 V S0 U H ob w){id:Nat}{u:Value}{n k:Nat}(ho:ob id=some (u,n))(hk:blk u=some k):k<w.heap.size:=by
 obtain⟨o,h1,-⟩:=h.live id u n ho;obtain⟨-,u',h2,h3⟩:=h.obj id o h1;rw[ho]at h2;injection h2 with h2;injection h2 with h2 _;subst h2;exact h3.lt hk
theorem MR.grow(h:MR w0 V S0 U H ob w)(i:Nat)(u':Value)(c':Nat)(ho:Onl (fun k=>∃u n,ob i=some (u,n)/\blk u=some k) w w')
  (hU:U i-> ∃u n,ob i=some (u,n)/\n<=c'/\(n=c'->u=u')) (hblk: ∀k,blk u'=some k->(∃u n,ob i=some (u,n)/\blk u=some k)\/w.heap.size<=k):
  Ext (zV w0.heap.size V ob U w) (zV w0.heap.size V (upd ob i (some (u',c'))) (fun k=>U k\/k=i) w'):=by
 refine⟨fun p b o u hu=>?_,rfl,fun id hid=>.inl hid,fun id u1 n1 hid e=>?_⟩
 ·obtain⟨h1,h0,h2⟩:=zZ.1 hu;have hlt:=World.block_lt_of_cell? w _ h2;refine zZ.2 ⟨?_,h0,?_⟩
  ·rintro⟨id,u1,n1,e1,e2⟩;by_cases e:id=i
   ·subst e;rw[zX]at e1;injection e1 with e1;injection e1 with e1 _;subst e1;rcases hblk b e2 with⟨u2,n2,e3,e4⟩|e3
    ·exact h1 ⟨id,u2,n2,e3,e4⟩
    ·have:b<w.heap.size:=hlt;omega
   ·rw[zu _ _ e]at e1;exact h1 ⟨id,u1,n1,e1,e2⟩
  ·rw[World.cell?_of_block (ho.block b hlt (fun⟨u2,n2,e3,e4⟩=>h1 ⟨i,u2,n2,e3,e4⟩))];exact h2
 ·have e:upd ob i (some (u',c')) id=some (u1,n1):=e;by_cases ei:id=i
  ·subst ei;rw[zX]at e;injection e with e;injection e with e1 e2;subst e1 e2;exact hU hid
  ·rw[zu _ _ ei]at e;exact⟨u1,n1,e,Qy _,fun _=>rfl⟩
theorem MR.step(h:MR w0 V S0 U H ob w)(i:Nat)(u':Value)(o':AObj)(ho:Onl (fun k=>∃u n,ob i=some (u,n)/\blk u=some k) w w')
  (hU:U i-> ∃u n,ob i=some (u,n)/\n<=o'.cnt/\(n=o'.cnt->u=u')) (hblk: ∀k,blk u'=some k->(∃u n,ob i=some (u,n)/\blk u=some k)\/w.heap.size<=k)
  (hor:Ext (zV w0.heap.size V ob U w) (zV w0.heap.size V (upd ob i (some (u',o'.cnt))) (fun k=>U k\/k=i) w')->OR (zV w0.heap.size V (upd ob i (some (u',o'.cnt))) (fun k=>U k\/k=i) w') w' u' o'):
  MR w0 V S0 (fun k=>U k\/k=i) (upd H i (some o')) (upd ob i (some (u',o'.cnt))) w'/\Ext (zV w0.heap.size V ob U w) (zV w0.heap.size V (upd ob i (some (u',o'.cnt))) (fun k=>U k\/k=i) w'):=by
 have hx:=h.grow i u' o'.cnt ho hU hblk;have hs:=h.only.size;refine⟨⟨fun id u n e=>?_,fun id o e=>?_,fun id id' u1 u2 n1 n2 k hne e1 e2 k1=>?_,fun id u n k e hk hlt=>?_,?_,h.gl⟩,hx⟩
 ·by_cases ei:id=i
  ·subst ei;rw[zX]at e ⊢;injection e with e;injection e with _ e;exact⟨o',rfl,e.symm⟩
  ·rw[zu _ _ ei]at e ⊢;exact h.live id u n e
 ·by_cases ei:id=i
  ·subst ei;rw[zX]at e ⊢;injection e with e;subst e;exact⟨.inr rfl,u',rfl,hor hx⟩
  ·rw[zu _ _ ei]at e ⊢;obtain⟨h1,u,h2,h3⟩:=h.obj id o e;exact⟨.inl h1,u,h2,h3.ext hx (fun k hk=>ho.block k (h.lt h2 hk) (fun⟨u2,n2,e3,e4⟩=>h.sep id i u u2 _ n2 k ei h2 e3 hk e4))⟩
 ·by_cases ei:id=i
  ·subst ei;rw[zX]at e1;rw[zu _ _ (fun e=>hne e.symm)]at e2;injection e1 with e1;injection e1 with e1 _;subst e1;intro k2;rcases hblk k k1 with⟨u3,n3,e3,e4⟩|e3
   ·exact h.sep id id' u3 u2 n3 n2 k hne e3 e2 e4 k2
   ·have:=h.lt e2 k2;omega
  ·rw[zu _ _ ei]at e1;by_cases ei':id'=i
   ·subst ei';rw[zX]at e2;injection e2 with e2;injection e2 with e2 _;subst e2;intro k2;rcases hblk k k2 with⟨u3,n3,e3,e4⟩|e3
    ·exact h.sep id id' u1 u3 n1 n3 k hne e1 e3 k1 e4
    ·have:=h.lt e1 k1;omega
   ·rw[zu _ _ ei']at e2;exact h.sep id id' u1 u2 n1 n2 k hne e1 e2 k1
 ·by_cases ei:id=i
  ·subst ei;rw[zX]at e;injection e with e;injection e with e _;subst e;rcases hblk k hk with⟨u3,n3,e3,e4⟩|e3
   ·exact h.new id u3 n3 k e3 e4 hlt
   ·omega
  ·rw[zu _ _ ei]at e;exact h.new id u n k e hk hlt
 ·have h1:=h.only;exact⟨ho.os.trans h1.os,ho.tape.trans h1.tape,ho.output.trans h1.output,Nat.le_trans h1.size ho.size,fun k hk hn=>(ho.block k (by omega) (fun⟨u3,n3,e3,e4⟩=>hn (h.new i u3 n3 k e3 e4 hk))).trans (h1.block k hk hn)⟩
end
end Go.Proofs.YtgmcbpjplcjmdaaGreat.M

namespace Go.Proofs.YtgmcbpjplcjmdaaGreat.M
open Go.RowKit
set_option maxRecDepth 100000
set_option maxHeartbeats 32000000

theorem MR.used{w0 w:World}{V S0 U U':Nat->Prop}{H:Nat->Option AObj}{ob:Nat->Option (Value×Nat)}(h:MR w0 V S0 U H ob w)(hU: ∀k,U k->U' k):MR w0 V S0 U' H ob w/\Ext (zV w0.heap.size V ob U w) (zV w0.heap.size V ob U' w):=by
 have hx:Ext (zV w0.heap.size V ob U w) (zV w0.heap.size V ob U' w):=⟨fun _ _ _ _ h=>h,rfl,hU,fun id u n _ h=>⟨u,n,h,Qy _,fun _=>rfl⟩⟩;exact⟨⟨h.live,fun id o e=>by obtain⟨h1,u,h2,h3⟩:=h.obj id o e;exact⟨hU _ h1,u,h2,h3.ext hx (fun _ _=>rfl)⟩,h.sep,h.new,h.only,h.gl⟩,hx⟩
theorem MR.quiet{w0 w w':World}{V S0 U:Nat->Prop}{H:Nat->Option AObj}{ob:Nat->Option (Value×Nat)}(h:MR w0 V S0 U H ob w)(ho:Onl (fun _=>False) w w'):MR w0 V S0 U H ob w'/\Ext (zV w0.heap.size V ob U w) (zV w0.heap.size V ob U w'):=by
 have hx:Ext (zV w0.heap.size V ob U w) (zV w0.heap.size V ob U w'):=⟨fun p b o u hu=>by
  obtain⟨h1,h0,h2⟩:=zZ.1 hu;exact zZ.2 ⟨h1,h0,by rw[World.cell?_of_block (ho.block b (World.block_lt_of_cell? w _ h2) (fun h=>h))];exact h2⟩,rfl,fun _ h=>h,fun id u n _ h=>⟨u,n,h,Qy _,fun _=>rfl⟩⟩
 refine⟨⟨h.live,fun id o e=>?_,h.sep,h.new,?_,h.gl⟩,hx⟩
 ·obtain⟨h1,u,h2,h3⟩:=h.obj id o e;exact⟨h1,u,h2,h3.ext hx (fun k hk=>ho.block k (h3.lt hk) (fun h=>h))⟩
 ·exact h.only.trans (ho.mono (fun _ _ h=>h.elim))
theorem MR.drop{w0 w:World}{V S0 U:Nat->Prop}{H:Nat->Option AObj}{ob:Nat->Option (Value×Nat)}(h:MR w0 V S0 U H ob w)(i:Nat):MR w0 V S0 U (upd H i none) (upd ob i none) w/\Ext (zV w0.heap.size V ob U w) (zV w0.heap.size V (upd ob i none) U w):=by
 have hx:Ext (zV w0.heap.size V ob U w) (zV w0.heap.size V (upd ob i none) U w):=⟨fun p b o u hu=>by
  obtain⟨h1,h0,h2⟩:=zZ.1 hu;refine zZ.2 ⟨?_,h0,h2⟩;rintro⟨id,u1,n1,e1,e2⟩;by_cases e:id=i
  ·subst e;rw[zX]at e1;cases e1
  ·rw[zu _ _ e]at e1;exact h1 ⟨id,u1,n1,e1,e2⟩,rfl,fun _ h=>h,fun id u n _ h=>by
  have h:upd ob i none id=some (u,n):=h;by_cases e:id=i
  ·subst e;rw[zX]at h;cases h
  ·rw[zu _ _ e]at h;exact⟨u,n,h,Qy _,fun _=>rfl⟩⟩
 refine⟨⟨fun id u n e=>?_,fun id o e=>?_,fun id id' u u' n n' k hne e1 e2=>?_,fun id u n k e=>?_,h.only,h.gl⟩,hx⟩
 ·by_cases ei:id=i
  ·subst ei;rw[zX]at e;cases e
  ·rw[zu _ _ ei]at e ⊢;exact h.live id u n e
 ·by_cases ei:id=i
  ·subst ei;rw[zX]at e;cases e
  ·rw[zu _ _ ei]at e ⊢;obtain⟨h1,u,h2,h3⟩:=h.obj id o e;exact⟨h1,u,h2,h3.ext hx (fun _ _=>rfl)⟩
 ·by_cases ei:id=i
  ·subst ei;rw[zX]at e1;cases e1
  ·rw[zu _ _ ei]at e1;by_cases ei':id'=i
   ·subst ei';rw[zX]at e2;cases e2
   ·rw[zu _ _ ei']at e2;exact h.sep id id' u u' n n' k hne e1 e2
 ·by_cases ei:id=i
  ·subst ei;rw[zX]at e;cases e
  ·rw[zu _ _ ei]at e;exact h.new id u n k e
theorem MR.tree{w0 w:World}{V S0 U:Nat->Prop}{H:Nat->Option AObj}{ob:Nat->Option (Value×Nat)}(h:MR w0 V S0 U H ob w){i e z p:Nat}{cs:List T}(hi:H i=some (.row e z p cs)){u:Value}{n:Nat}(hu:ob i=some (u,n)):Rep ((zV w0.heap.size V (upd ob i none) U w).mem p) u (.sl z cs):=by
 obtain⟨-,u',h2,hz,hl,m,vs,ho,hlen,hr⟩:=h.obj i _ hi;rw[hu]at h2;injection h2 with h2;injection h2 with h2 _;subst h2;have hx:=(h.drop i).2;rcases ho.2 with⟨rfl,rfl⟩|⟨g,cap,cur,rfl,-,hg,hnc,hcm,hcs,htake⟩
 ·have:cs=[]:=by
   have:=ho.1;rw[hlen]at this;exact List.eq_nil_of_length_eq_zero (by omega)
  subst this;exact .nil z
 ·have hcell: ∀i c,cs[i]? =some c-> ∃x,vs[i]? =some x/\w.cell? ⟨g,i,none⟩=some x:=fun i c hi=>by
   have hlt:i<vs.length:=by rw[hlen];exact(Qq.1 hi).1
   refine⟨vs[i],by simp,?_⟩;have:=ho.cells (g:=g) rfl i vs[i] (by simp);rw[Addr.add_lit]at this;simpa using this
  have hnot: ¬OB (upd ob i none) g:=by
   rintro⟨id,u1,n1,e1,e2⟩;by_cases e:id=i
   ·subst e;rw[zX]at e1;cases e1
   ·rw[zu _ _ e]at e1;exact h.sep id i u1 _ n1 n g e e1 hu e2 rfl
  refine .sl g 0 m cap z cs (fun i=>vs.getD i undef) hz (by rw[←hlen];exact ho.1) hnc (by simpa[maxLen]using hcm) (fun i c hi=>?_) (fun i c hi=>?_)
  ·obtain⟨x,h1,h2⟩:=hcell i c hi;refine zZ.2 ⟨hnot,hl g rfl,?_⟩;simpa[h1]using h2
  ·obtain⟨x,h1,-⟩:=hcell i c hi;simpa[h1]using(hr i c x hi h1).mono (hx.mem p)
def scal:T->Bool
 | .sl _ _=>false
 |_=>true
def lvT(p:Nat)(x:T):Nat:=if scal x then 2 else p
def lvs(p:Nat)(xs:List T):Nat:=if xs.all scal then 2 else p
@[simp] theorem zV1(x:T):lvT 2 x=2:=by unfold lvT;split<;>rfl
@[simp] theorem zVr(xs:List T):lvs 2 xs=2:=by unfold lvs;split<;>rfl
@[simp] theorem zVN(p:Nat)(k:IntKind)(n:Int):lvT p (.int k n)=2:=rfl
@[simp] theorem zUL(p:Nat)(b:Bool):lvT p (.bool b)=2:=rfl
@[simp] theorem zVS(p:Nat)(s:ByteArray):lvT p (.str s)=2:=rfl
@[simp] theorem zVg(p z:Nat)(cs:List T):lvT p (.sl z cs)=p:=rfl
@[simp] theorem zSV(p:Nat)(k:IntKind)(xs:List Int):lvs p (xs.map (.int k))=2:=by
 unfold lvs;rw[if_pos];simp[scal]
theorem Rep.scal{m m':Mem}{v:Value}{x:T}(h:Rep m v x)(hx:scal x=true):Rep m' v x:=by
 cases h<;>first|(simp[Proofs.YtgmcbpjplcjmdaaGreat.M.scal]at hx;done)|exact .any _ (by assumption)|constructor
theorem Rep.lvT{M:Nat->Mem}{p:Nat}{v:Value}{x:T}(h:Rep (M p) v x):Rep (M (lvT p x)) v x:=by
 unfold Proofs.YtgmcbpjplcjmdaaGreat.M.lvT;split
 ·rename_i hs;exact h.scal hs
 ·exact h
theorem Rep.lvs{M:Nat->Mem}{p:Nat}{v:Value}{xs:List T}{i:Nat}{x:T}(h:Rep (M p) v x)(hi:xs[i]? =some x):Rep (M (lvs p xs)) v x:=by
 unfold Proofs.YtgmcbpjplcjmdaaGreat.M.lvs;split
 ·rename_i hs;exact h.scal (List.all_eq_true.1 hs x (Qc hi))
 ·exact h
structure ASt where
 env:Nat->AV
 heap:Nat->Option AObj
 nxt:Nat
 nt:Nat
 gh:List AV
def AV.ofV:Value->AV
 | .int k n=>.t 2 (.int k n)
 | .bool b=>.t 2 (.bool b)
 | .string s=>.t 2 (.str s)
 | .slice none 0 0=>.t 2 (.sl 0 [])
 | .pointer none=>.t 2 .nilp
 | .map none=>.t 2 .zFJ
 |_=>.any
theorem VR.ofV(E:Ev)(v:Value):VR E v (AV.ofV v):=by
 cases v with
 |int k n=>exact .mkInt E 2 k n
 |bool b=>exact .zAR E 2 b
 |string s=>exact .mkStr E 2 s
 |slice a n c=>
  unfold AV.ofV;split<;>first|exact .any _|(rename_i h;injection h;done)|skip
  all_goals first|exact .any _|(rename_i h;cases h;exact .t _ 2 _ (.nil 0))
 |pointer a=>cases a with
  |none=>exact .t _ 2 _ .nilp
  |some a=>exact .any _
 |map a=>cases a with
  |none=>exact .t _ 2 _ .zFJ
  |some a=>exact .any _
 |_=>exact .any _
def ASt.eval(σ:ASt):Operand->AV
 | .tmp t=>σ.env t
 | .const v=>AV.ofV v
 | .func f=>.fn f []
 | .global g=>match GT[g]? with
  |some cs=>.pt 0 cs
  |none=>.any
def GlE(E:Ev):Prop:=∀(g:Nat) cs,GT[g]? =some cs-> ∀(i:Nat) c,cs[i]? =some c-> ∃v,E.mem 0 g i=some v/\Rep (E.mem 0) v c
theorem MR.glE{w0 w:World}{V S0 U:Nat->Prop}{H:Nat->Option AObj}{ob:Nat->Option (Value×Nat)}(h:MR w0 V S0 U H ob w):GlE (zV w0.heap.size V ob U w):=fun g cs hg i c hi=>by
 obtain⟨hlt,h1,h2⟩:=h.gl g cs hg;obtain⟨v,h3,h4⟩:=h2 i c hi;refine⟨v,zZ.2 ⟨?_,.inr (.inl rfl),?_⟩,h4 _⟩
 ·rintro⟨id,u,n,e1,e2⟩;exact h1 (h.new id u n g e1 e2 hlt)
 ·rw[World.cell?_of_block (h.only.block g hlt h1)];exact h3
theorem VR.eval{E:Ev}(hG:GlE E){σ:ASt}{a:Act}(h: ∀t,VR E (a.tmps.getD t undef) (σ.env t))(x:Operand):VR E (a.eval x) (σ.eval x):=by
 cases x with
 |tmp t=>exact h t
 |const v=>exact .ofV E v
 |func f=>exact .fn f #[] [] rfl (fun i c hi=>by simp at hi)
 |global g=>
  unfold ASt.eval
  cases hg:GT[g]? with
  |none=>simp only[hg];exact .any _
  |some cs=>
   simp only[hg];have hc:=hG g cs hg;obtain⟨f,hf⟩:=Classical.axiomOfChoice (fun i:Nat=>show ∃v:Value,∀c,cs[i]? =some c->E.mem 0 g i=some v/\Rep (E.mem 0) v c from by
    cases hq:cs[i]? with
    |none=>exact⟨undef,fun c h=>by cases h⟩
    |some c0=>
     obtain⟨v,h1,h2⟩:=hc i c0 hq;exact⟨v,fun c h=>by injection h with h;subst h;exact⟨h1,h2⟩⟩)
   exact .pt 0 g 0 cs f (fun i c hi=>by rw[Nat.zero_add];exact(hf i c hi).1) (fun i c hi=>(hf i c hi).2)
structure Eff where
 val:AV
 new:Option (Nat×AObj):=none
 del:List Nat:=[]
 tch:List Nat:=[]
def dels(H:Nat->Option AObj):List Nat->Nat->Option AObj
 |[]=>H
 |i::r=>dels (upd H i none) r
def Eff.heap(e:Eff)(H:Nat->Option AObj):Nat->Option AObj:=match e.new with
 |none=>dels H e.del
 |some (i,o)=>upd (dels H e.del) i (some o)
def Good(w0:World)(V S0 U:Nat->Prop)(ob:Nat->Option (Value×Nat))(w:World)(i:Nat)(H':Nat->Option AObj)(val:AV)(r:Result Next):Prop:=
 ∃nx v w' ob',r= .ok nx w'/\(nx= .value v\/(nx= .skip/\v=undef))/\MR w0 V S0 (fun k=>U k\/k=i) H' ob' w'/\Ext (zV w0.heap.size V ob U w) (zV w0.heap.size V ob' (fun k=>U k\/k=i) w')/\VR (zV w0.heap.size V ob' (fun k=>U k\/k=i) w') v val
section
variable{w0 w:World}{V S0 U:Nat->Prop}{H:Nat->Option AObj}{ob:Nat->Option (Value×Nat)}{i:Nat}
theorem Good.pure(h:MR w0 V S0 U H ob w){v:Value}{val:AV}(hv:VR (zV w0.heap.size V ob U w) v val):Good w0 V S0 U ob w i H val (.ok (.value v) w):=by
 obtain⟨h1,h2⟩:=h.used (U':=fun k=>U k\/k=i) (fun k hk=>.inl hk);exact⟨_,v,w,ob,rfl,.inl rfl,h1,h2,hv.ext h2⟩
theorem Good.step(h:MR w0 V S0 U H ob w){w':World}{v:Value}{val:AV}{nx:Next}(hnx:nx= .value v\/(nx= .skip/\v=undef))(j:Nat)(u':Value)(o':AObj)(ho:Onl (fun k=>∃u n,ob j=some (u,n)/\blk u=some k) w w')
  (hU:U j-> ∃u n,ob j=some (u,n)/\n<=o'.cnt/\(n=o'.cnt->u=u')) (hblk: ∀k,blk u'=some k->(∃u n,ob j=some (u,n)/\blk u=some k)\/w.heap.size<=k) (hj:j=i\/U j)
  (hor:Ext (zV w0.heap.size V ob U w) (zV w0.heap.size V (upd ob j (some (u',o'.cnt))) (fun k=>U k\/k=i) w')->OR (zV w0.heap.size V (upd ob j (some (u',o'.cnt))) (fun k=>U k\/k=i) w') w' u' o')
  (hval:Ext (zV w0.heap.size V ob U w) (zV w0.heap.size V (upd ob j (some (u',o'.cnt))) (fun k=>U k\/k=i) w')->VR (zV w0.heap.size V (upd ob j (some (u',o'.cnt))) (fun k=>U k\/k=i) w') v val):
  Good w0 V S0 U ob w i (upd H j (some o')) val (.ok nx w'):=by
 have hx0:=h.grow j u' o'.cnt ho hU hblk;have e: ∀k,(U k\/k=j)->(U k\/k=i):=fun k hk=>by
  rcases hk with hk|rfl
  ·exact .inl hk
  ·rcases hj with e|e
   ·exact .inr e
   ·exact .inl e
 have hx1:Ext (zV w0.heap.size V ob U w) (zV w0.heap.size V (upd ob j (some (u',o'.cnt))) (fun k=>U k\/k=i) w'):=⟨hx0.mem,rfl,fun id hid=>.inl hid,fun id u1 n1 hid e1=>hx0.ob id u1 n1 hid e1⟩;have hor':=hor hx1
 -- the step,at the numbers U or i
 have hUi:MR w0 V S0 (fun k=>U k\/k=i) H ob w:=(h.used (fun k hk=>.inl hk)).1;by_cases hji:j=i
 ·subst hji;obtain⟨h1,h2⟩:=h.step j u' o' ho hU hblk (fun _=>hor');exact⟨nx,v,w',_,rfl,hnx,h1,hx1,hval hx1⟩
 ·have hUj:U j:=by
   rcases hj with e|e
   ·exact absurd e hji
   ·exact e
  have ee:(fun k=>(U k\/k=i)\/k=j)=(fun k=>U k\/k=i):=by
   funext k;apply propext;constructor
   ·rintro(h|rfl)
    ·exact h
    ·exact .inl hUj
   ·intro h;exact .inl h
  obtain⟨h1,h2⟩:=hUi.step j u' o' ho (fun _=>hU hUj) hblk (fun _=>by rw[ee];exact hor');rw[ee]at h1;exact⟨nx,v,w',_,rfl,hnx,h1,hx1,hval hx1⟩
end
def aggB(P:Program)(t:TypeId):Option Bool:=(P.underlying t).map fun d=>match d with| .struct _| .array _ _=>true|_=>false
def zA6(P:Program)(t:TypeId):Option Nat:=(P.info? t).map (·.size)
def zGM(P:Program)(t:TypeId):Option Nat:=(P.info? t).map (·.bytes)
def vT:Value->Option T
 | .int k n=>some (.int k n)
 | .bool b=>some (.bool b)
 | .string s=>some (.str s)
 | .slice none 0 0=>some (.sl 0 [])
 | .pointer none=>some .nilp
 | .map none=>some .zFJ
 |_=>none
def vTs:List Value->Option (List T)
 |[]=>some []
 |v::r=>match vT v,vTs r with
  |some x,some xs=>some (x::xs)
  |_,_=>none
def zeroOf(P:Program)(t:TypeId):Option (List T):=((P.info? t).bind (·.zero)).bind fun v=>vTs v.cells.toList
def elOf(P:Program)(t:TypeId):Option TypeId:=match P.underlying t with|some (.slice e)=>some e|_=>none
def fldOf(P:Program)(t:TypeId)(f:Nat):Option (Nat×Nat×Bool):=match P.underlying t with
 |some (.struct fs)=>(fs[f]?).bind fun x=>match zA6 P x.type,aggB P x.type with|some s,some a=>some (x.offset,s,a)|_,_=>none
 |_=>none
theorem Rep.vT{m:Mem}{v:Value}{x:T}(h:vT v=some x):Rep m v x:=by
 unfold Proofs.YtgmcbpjplcjmdaaGreat.M.vT at h;split at h<;>first|cases h|skip
 ·exact .int _ _
 ·exact .bool _
 ·exact .str _
 ·exact .nil 0
 ·exact .nilp
 ·exact .zFJ
theorem zEi: ∀{vs:List Value} {xs:List T},vTs vs=some xs->vs.length=xs.length/\ ∀(i:Nat) c,xs[i]? =some c-> ∃v,vs[i]? =some v/\vT v=some c
 |[],xs,h=>by
  simp[vTs]at h;subst h;exact⟨rfl,fun i c hi=>by simp at hi⟩
 |v::r,xs,h=>by
  unfold vTs at h;split at h
  ·rename_i x xr hx hr;injection h with h;subst h;obtain⟨h1,h2⟩:=zEi hr;refine⟨by simp[h1],fun i c hi=>?_⟩
   cases i with
   |zero=>simp at hi;exact⟨v,rfl,by rw[hx,hi]⟩
   |succ i=>exact h2 i c (by simpa using hi)
  ·cases h
theorem zDM{P:Program}{t:TypeId}{b:Bool}(h:aggB P t=some b)(w:World):(isAgg t).run P w= .ok b w:=by
 unfold aggB at h
 cases hu:P.underlying t with
 |none=>rw[hu]at h;cases h
 |some d=>
  rw[hu]at h;simp only[Qg,Qx]at h;unfold isAgg;rw[Sem.run_bind,run_underlying hu w];subst h
  cases d<;>simp
theorem zt{P:Program}{t:TypeId}{s:Nat}(h:zA6 P t=some s)(w:World):(sizeOf t).run P w= .ok s w:=by
 unfold zA6 at h
 cases hq:P.info? t with
 |none=>rw[hq]at h;cases h
 |some i=>
  rw[hq]at h;simp only[Qg,Qx]at h;subst h;simp[sizeOf,typeInfo,hq]
theorem zDn{P:Program}{t:TypeId}{s:Nat}(h:zA6 P t=some s): ∃i,P.info? t=some i/\i.size=s:=by
 unfold zA6 at h
 cases hq:P.info? t with
 |none=>rw[hq]at h;cases h
 |some i=>rw[hq]at h;simp only[Qg,Qx]at h;exact⟨i,rfl,h⟩
theorem zAv{P:Program}{t e:TypeId}(h:elOf P t=some e):P.underlying t=some (.slice e):=by
 unfold elOf at h;split at h
 ·rename_i e' he;injection h with h;rw[he,h]
 ·cases h
theorem zAl(b o n:Nat):(⟨b,o,none⟩:Addr).add n=⟨b,o+n,none⟩:=by
 unfold Addr.add;by_cases h:n=0
 ·subst h;simp
 ·rw[if_neg h]
def AObj.cells:AObj->List AV
 | .row _ _ p cs=>cs.map (.t p)
 | .box _ cs=>cs
 | .map _ _ _=>[]
 | .tmap _ _ _=>[]
 | .vec _ _ _ cs=>cs
section
variable{w0 w:World}{V S0 U:Nat->Prop}{H:Nat->Option AObj}{ob:Nat->Option (Value×Nat)}{i:Nat}{P:Program}
theorem MR.cell(h:MR w0 V S0 U H ob w){id:Nat}{o:AObj}(ho:H id=some o){u:Value}{n:Nat}(hu:ob id=some (u,n)){b:Nat}(hb:blk u=some b){off:Nat}{c:AV}(hc:o.cells[off]? =some c):
  ∃x,w.cell? ⟨b,off,none⟩=some x/\w.frozen? ⟨b,off,none⟩=false/\x.oneCell'=true/\VR (zV w0.heap.size V ob U w) x c:=by
 obtain⟨-,u',h2,hor⟩:=h.obj id o ho;rw[hu]at h2;injection h2 with h2;injection h2 with h2 _;subst h2
 cases o with
 |row e z p cs=>
  obtain⟨hz,hl,m,vs,how,hlen,hr⟩:=hor;rcases how.2 with⟨rfl,rfl⟩|⟨g,cap,cur,rfl,-,hg,hnc,hcm,hcs,htake⟩
  ·cases hb
  ·obtain rfl:g=b:=by simpa[blk]using hb
   have hlt:off<cs.length:=by
    have:=(Qq.1 hc).1;simpa[AObj.cells]using this
   have hc':c= .t p cs[off]:=by
    simp[AObj.cells,hlt]at hc;exact hc.symm
   have hv:off<vs.length:=by omega
   have h3:=how.cells (g:=g) rfl off vs[off] (by simp);rw[Addr.add_lit]at h3;have hrep:=hr off cs[off] vs[off] (by simp) (by simp);refine⟨vs[off],by simpa using h3,by simp[World.frozen?,hg],hrep.one,?_⟩;rw[hc'];exact .t _ p _ hrep
 |box ty cs=>
  obtain⟨g,vs,rfl,hg,hv⟩:=hor;obtain rfl:g=b:=by simpa[blk]using hb
  cases hv with
  |agg vs cs hn h1 hr=>
   have hlt:off<vs.size:=by
    have:=(Qq.1 hc).1;simp[AObj.cells]at this;omega
   refine⟨vs[off],by simp[World.cell?,hg,hlt],by simp[World.frozen?,hg],h1 _ (by simp),?_⟩;have:=hr off c hc;simpa[Array.getD,hlt]using this
 |map K Y es=>simp[AObj.cells]at hc
 |tmap K Y es=>simp[AObj.cells]at hc
 |vec e z p cs=>
  obtain⟨-,-,m,vs,how,hlen,hone,hr⟩:=hor;rcases how.2 with⟨rfl,rfl⟩|⟨g,cap,cur,rfl,-,hg,hnc,hcm,hcs,htake⟩
  ·cases hb
  ·obtain rfl:g=b:=by simpa[blk]using hb
   have hlt:off<cs.length:=by
    have:=(Qq.1 hc).1;simpa[AObj.cells]using this
   have hv:off<vs.length:=by omega
   have h3:=how.cells (g:=g) rfl off vs[off] (by simp);rw[Addr.add_lit]at h3;exact⟨vs[off],by simpa using h3,by simp[World.frozen?,hg],hone _ (by simp),hr off c vs[off] (by simpa[AObj.cells]using hc) (by simp)⟩
theorem MR.ptr(h:MR w0 V S0 U H ob w){id off c:Nat}{v:Value}(hv:VR (zV w0.heap.size V ob U w) v (.ptr id off c)){o:AObj}(ho:H id=some o)(hc:o.cnt=c): ∃u b,ob id=some (u,c)/\blk u=some b/\v= .pointer (some ⟨b,off,none⟩)/\U id:=by
 obtain⟨hU,u,h2,-⟩:=h.obj id o ho
 cases hv with
 |ptr v id off c h1 hU' hh=>
  obtain⟨-,h3⟩:=hh u _ h2;obtain⟨b,h4,h5⟩:=h3 hc.symm;exact⟨u,b,by rw[←hc];exact h2,h4,h5,hU⟩
theorem MR.own(h:MR w0 V S0 U H ob w){id c:Nat}{v:Value}(hv:VR (zV w0.heap.size V ob U w) v (.own id c)){o:AObj}(ho:H id=some o)(hc:o.cnt=c):ob id=some (v,c)/\U id:=by
 obtain⟨hU,u,h2,-⟩:=h.obj id o ho
 cases hv with
 |own v id c h1 hU' hh=>
  obtain⟨-,h3⟩:=hh u _ h2;rw[h3 hc.symm,←hc];exact⟨h2,hU⟩
end
def cut{α:Type}(cs:List α)(off n:Nat):List α:=(cs.drop off).take n
theorem zBY{α:Type}{cs:List α}{off n i:Nat}{c:α}(h:(cut cs off n)[i]? =some c):cs[off+i]? =some c/\i<n:=by
 unfold cut at h;rw[List.getElem?_take]at h;by_cases hi:i<n
 ·rw[if_pos hi]at h;simpa[hi]using h
 ·rw[if_neg hi]at h;cases h
theorem zDe{α:Type}{cs:List α}{off n:Nat}(h:off+n<=cs.length):(cut cs off n).length=n:=by simp[cut];omega
def aLoad(P:Program)(t:TypeId)(x:AV)(H:Nat->Option AObj):Option (Bool×Eff):=
 match aggB P t,zA6 P t,x with
 |some a,some s,.ptr id off c=>
  match H id with
  |some (.box _ cs)=>if a then some (decide (cs.length=c)&&decide (off+s<=cs.length),{ val:=.agg (cut cs off s),tch:=[id] })
   else match cs[off]? with
    |some v=>some (decide (cs.length=c),{ val:=v,tch:=[id] })
    |none=>none
  |some (.row _ _ p cs)=>if a then some (decide (cs.length=c)&&decide (off+s<=cs.length),{ val:=.agg ((cut cs off s).map fun x=>.t (lvT p x) x),tch:=[id] })
   else some (decide (cs.length=c)&&decide (off<cs.length),{ val:=.t (lvT p (cs.getD off default)) (cs.getD off default),tch:=[id] })
  |some (.vec _ _ _ cs)=>if a then some (decide (cs.length=c)&&decide (off+s<=cs.length),{ val:=.agg (cut cs off s),tch:=[id] })
   else match cs[off]? with
    |some v=>some (decide (cs.length=c),{ val:=v,tch:=[id] })
    |none=>none
  |_=>none
 |some a,some s,.pt p cs=>
  if a then some (decide (s<=cs.length),{ val:=.agg ((cut cs 0 s).map fun x=>.t (lvT p x) x) })
  else match cs with
   |c::_=>some (true,{ val:=.t (lvT p c) c })
   |[]=>none
 |_,_,_=>none
theorem zDb{P:Program}{w:World}{b off s:Nat}{vs:List Value}(hl:vs.length=s)(hc: ∀i v,vs[i]? =some v->w.cell? ⟨b,off+i,none⟩=some v):(loadCells ⟨b,off,none⟩ s).run P w= .ok vs.toArray w:=by
 subst hl;refine run_loadCells_list (P:=P) (w:=w) ⟨b,off,none⟩ vs (fun j v hj=>?_);rw[zAl];exact hc j v hj
theorem zJA{α β:Type}[Inhabited α]{R:Nat->α->Prop}(n:Nat)(h: ∀i,i<n-> ∃x,R i x): ∃xs:List α,xs.length=n/\ ∀i,∀x,xs[i]? =some x->R i x:=by
 classical
 refine⟨(List.range n).map (fun i=>if hi:i<n then(h i hi).choose else default),by simp,fun i x hx=>?_⟩;by_cases hi:i<n
 ·simp[hi]at hx;rw[←hx];exact(h i hi).choose_spec
 ·simp[hi]at hx
section
variable{w0 w:World}{V S0 U:Nat->Prop}{H:Nat->Option AObj}{ob:Nat->Option (Value×Nat)}{i:Nat}{P:Program}
theorem zEO{m:Nat}{b off:Nat}{t:TypeId}{s:Nat}(ha:aggB P t=some true)(hs:zA6 P t=some s)(h:MR w0 V S0 U H ob w){cs:List AV}(hl:cs.length=s)
  (hc: ∀(j:Nat) c,cs[j]? =some c-> ∃x,w.cell? ⟨b,off+j,none⟩=some x/\x.oneCell'=true/\VR (zV w0.heap.size V ob U w) x c):
  ∃v,(Instr.loadAt t (.pointer (some ⟨b,off,none⟩))).run P w= .ok v w/\VR (zV w0.heap.size V ob U w) v (.agg cs):=by
 obtain⟨xs,hx1,hx2⟩:=zJA (β:=Nat) (R:=fun j x=>w.cell? ⟨b,off+j,none⟩=some x/\x.oneCell'=true/\ ∀c,cs[j]? =some c->VR (zV w0.heap.size V ob U w) x c) s (fun j hj=>by
  obtain⟨x,h1,h2,h3⟩:=hc j cs[j] (by simp);exact⟨x,h1,h2,fun c e=>by
   have e2:cs[j]=c:=by
    rw[Qj (by omega)]at e;injection e
   rw[←e2];exact h3⟩)
 refine⟨.agg xs.toArray,?_,.agg _ _ (by simp[hx1,hl]) (fun v hv=>?_) (fun j c hj=>?_)⟩
 ·simp[Instr.loadAt,Instr.sureAddr,loadVar,Sem.run_bind,zDM ha,zt hs,zDb hx1 (fun j v hv=>(hx2 j v hv).1)]
 ·have hv:v∈xs:=by simpa using hv
  obtain⟨j,hj,rfl⟩:=Qb hv;exact(hx2 j _ (by simp)).2.1
 ·have hlt:j<xs.length:=by rw[hx1,←hl];exact(Qq.1 hj).1
  have:=(hx2 j xs[j] (by simp)).2.2 c hj;simpa[Array.getD,hlt]using this
theorem zEJ{b off:Nat}{t:TypeId}(ha:aggB P t=some false){x:Value}(hx:w.cell? ⟨b,off,none⟩=some x):(Instr.loadAt t (.pointer (some ⟨b,off,none⟩))).run P w= .ok x w:=by
 simp[Instr.loadAt,Instr.sureAddr,loadVar,Sem.run_bind,zDM ha,hx]
theorem zOH{t:TypeId}{v:Value}{x:AV}{eff:Eff}{c:Bool}(he:aLoad P t x H=some (c,eff))(hc:c=true)(h:MR w0 V S0 U H ob w)(hv:VR (zV w0.heap.size V ob U w) v x):
  ∃y,(Instr.loadAt t v).run P w= .ok y w/\VR (zV w0.heap.size V ob U w) y eff.val/\eff.new=none/\eff.del=[]:=by
 subst hc;unfold aLoad at he;split at he
 ·rename_i a s id off c ha hs;split at he
  ·rename_i ty cs hH;by_cases haa:a=true
   ·subst haa;simp only[if_true,Qx,Qk,Qz,decide_eq_true_eq]at he;obtain⟨⟨h1,h2⟩,rfl⟩:=he;obtain⟨u,b,e1,e2,rfl,-⟩:=h.ptr hv hH h1;obtain⟨y,hy1,hy2⟩:=zEO (m:=0) ha hs h (b:=b) (off:=off) (cs:=cut cs off s) (zDe h2) (fun j c' hj=>by
     obtain⟨x,q1,-,q3,q4⟩:=h.cell hH e1 e2 (off:=off+j) (c:=c') (by simpa[AObj.cells]using(zBY hj).1);exact⟨x,q1,q3,q4⟩)
    exact⟨y,hy1,hy2,rfl,rfl⟩
   ·have haa:a=false:=by simpa using haa
    subst haa;simp only[Bool.false_eq_true,if_false]at he;split at he
    ·rename_i av hcs;simp only[Qx,Qk,decide_eq_true_eq]at he;obtain⟨h1,rfl⟩:=he;obtain⟨u,b,e1,e2,rfl,-⟩:=h.ptr hv hH h1;obtain⟨x,q1,-,q3,q4⟩:=h.cell hH e1 e2 (off:=off) (c:=av) (by simpa[AObj.cells]using hcs);exact⟨x,zEJ ha q1,q4,rfl,rfl⟩
    ·cases he
  ·rename_i e z p cs hH;by_cases haa:a=true
   ·subst haa;simp only[if_true,Qx,Qk,Qz,decide_eq_true_eq]at he;obtain⟨⟨h1,h2⟩,rfl⟩:=he;obtain⟨u,b,e1,e2,rfl,-⟩:=h.ptr hv hH h1;obtain⟨y,hy1,hy2⟩:=zEO (m:=0) ha hs h (b:=b) (off:=off) (cs:=(cut cs off s).map fun x=>.t (lvT p x) x) (by simp[zDe h2]) (fun j c' hj=>by
     have hj': ∃c0,(cut cs off s)[j]? =some c0/\c'= .t (lvT p c0) c0:=by
      rw[Qi]at hj
      cases hq:(cut cs off s)[j]? with
      |none=>rw[hq]at hj;cases hj
      |some c0=>rw[hq]at hj;simp at hj;exact⟨c0,rfl,hj.symm⟩
     obtain⟨c0,hj1,rfl⟩:=hj';obtain⟨x,q1,-,q3,q4⟩:=h.cell hH e1 e2 (off:=off+j) (c:=.t p c0) (by simp[AObj.cells,(zBY hj1).1]);exact⟨x,q1,q3,.t _ _ _ (q4.rep.lvT (M:=(zV w0.heap.size V ob U w).mem))⟩)
    exact⟨y,hy1,hy2,rfl,rfl⟩
   ·have haa:a=false:=by simpa using haa
    subst haa;simp only[Bool.false_eq_true,if_false,Qx,Qk,Qz,decide_eq_true_eq]at he;obtain⟨⟨h1,h2⟩,rfl⟩:=he;obtain⟨u,b,e1,e2,rfl,-⟩:=h.ptr hv hH h1;obtain⟨x,q1,-,q3,q4⟩:=h.cell hH e1 e2 (off:=off) (c:=.t p cs[off]) (by simp[AObj.cells,h2]);refine⟨x,zEJ ha q1,?_,rfl,rfl⟩;have q5:VR (zV w0.heap.size V ob U w) x (.t (lvT p cs[off]) cs[off]):=.t _ _ _ (q4.rep.lvT (M:=(zV w0.heap.size V ob U w).mem));simpa[h2]using q5
  ·rename_i e z p cs hH;by_cases haa:a=true
   ·subst haa;simp only[if_true,Qx,Qk,Qz,decide_eq_true_eq]at he;obtain⟨⟨h1,h2⟩,rfl⟩:=he;obtain⟨u,b,e1,e2,rfl,-⟩:=h.ptr hv hH h1;obtain⟨y,hy1,hy2⟩:=zEO (m:=0) ha hs h (b:=b) (off:=off) (cs:=cut cs off s) (zDe h2) (fun j c' hj=>by
     obtain⟨x,q1,-,q3,q4⟩:=h.cell hH e1 e2 (off:=off+j) (c:=c') (by simpa[AObj.cells]using(zBY hj).1);exact⟨x,q1,q3,q4⟩)
    exact⟨y,hy1,hy2,rfl,rfl⟩
   ·have haa:a=false:=by simpa using haa
    subst haa;simp only[Bool.false_eq_true,if_false]at he;split at he
    ·rename_i av hcs;simp only[Qx,Qk,decide_eq_true_eq]at he;obtain⟨h1,rfl⟩:=he;obtain⟨u,b,e1,e2,rfl,-⟩:=h.ptr hv hH h1;obtain⟨x,q1,-,q3,q4⟩:=h.cell hH e1 e2 (off:=off) (c:=av) (by simpa[AObj.cells]using hcs);exact⟨x,zEJ ha q1,q4,rfl,rfl⟩
    ·cases he
  ·cases he
 ·rename_i a s p cs ha hs;obtain⟨b,o,vs,rfl,hcc,hrr⟩:=hv.zT3;by_cases haa:a=true
  ·subst haa;simp only[if_true,Qx,Qk,decide_eq_true_eq]at he;obtain⟨h1,rfl⟩:=he;obtain⟨y,hy1,hy2⟩:=zEO (m:=0) ha hs h (b:=b) (off:=o) (cs:=(cut cs 0 s).map fun x=>.t (lvT p x) x) (by simp[zDe (show 0+s<=cs.length by omega)]) (fun j c' hj=>by
    have hj': ∃c0,(cut cs 0 s)[j]? =some c0/\c'= .t (lvT p c0) c0:=by
     rw[Qi]at hj
     cases hq:(cut cs 0 s)[j]? with
     |none=>rw[hq]at hj;cases hj
     |some c0=>rw[hq]at hj;simp at hj;exact⟨c0,rfl,hj.symm⟩
    obtain⟨c0,hj1,rfl⟩:=hj';have hj2:=(zBY hj1).1;rw[Nat.zero_add]at hj2;exact⟨vs j,zCh (hcc j c0 hj2),(hrr j c0 hj2).one,.t _ _ _ ((hrr j c0 hj2).lvT (M:=(zV w0.heap.size V ob U w).mem))⟩)
   exact⟨y,hy1,hy2,rfl,rfl⟩
  ·have haa:a=false:=by simpa using haa
   subst haa;simp only[Bool.false_eq_true,if_false]at he;split at he
   ·rename_i c0 cr;simp only[Qx,Qk,true_and]at he;subst he;have q1:=zCh (hcc 0 c0 rfl);rw[Nat.add_zero]at q1;exact⟨vs 0,zEJ ha q1,.t _ _ _ ((hrr 0 c0 rfl).lvT (M:=(zV w0.heap.size V ob U w).mem)),rfl,rfl⟩
   ·cases he
 ·cases he
end
def aField(P:Program)(s f:Nat)(x:AV)(H:Nat->Option AObj):Option (Bool×Eff):=
 match fldOf P s f,x with
 |some (o,sz,_),.ptr id off c=>match H id with
  |some b=>some (decide (b.cnt=c)&&decide (sz≠0),{ val:=.ptr id (off+o) c,tch:=[id] })
  |none=>none
 |some (o,sz,_),.pt p cs=>some (decide (sz≠0),{ val:=.pt p (cs.drop o) })
 |_,_=>none
def aFieldV(P:Program)(s f:Nat)(x:AV):Option (Bool×Eff):=
 match fldOf P s f,x with
 |some (o,sz,a),.agg cs=>if a then some (decide (o+sz<=cs.length),{ val:=.agg (cut cs o sz) })
  else match cs[o]? with
   |some v=>some (true,{ val:=v })
   |none=>none
 |_,_=>none
def arOf(P:Program)(t:TypeId):Option (Nat×TypeId):=match P.underlying t with|some (.array n e)=>some (n,e)|_=>none
def aIndexAddr(P:Program)(t:TypeId)(x ix:AV)(H:Nat->Option AObj):Option (Bool×Eff):=
 match elOf P t with
 |some e=>match zA6 P e,x,ix with
  |some s,.t p (.sl z cs),.t _ (.int _ i)=>
   if s=1 then some (decide (z=1)&&decide (0<=i)&&decide (i<(cs.length:Int)),{ val:=.pt p [cs.getD i.toNat default] })
   else some (decide (z=s)&&decide (0<s)&&decide (0<=i)&&decide (i.toNat*s+s<=cs.length),{ val:=.pt p (cut cs (i.toNat*s) s) })
  |some s,.own id c,.t _ (.int _ i)=>match H id with
   |some (.row _ z _ cs)=>some (decide (cs.length=c)&&decide (z=s)&&decide (0<=i)&&decide (i.toNat*s+s<=cs.length),{ val:=.ptr id (i.toNat*s) c,tch:=[id] })
   |some (.vec _ z _ cs)=>if s=1 then some (decide (cs.length=c)&&decide (z=1)&&decide (0<=i)&&decide (i<(cs.length:Int)),{ val:=.ptr id i.toNat c,tch:=[id] })
    else some (decide (cs.length=c)&&decide (z=s)&&decide (0<=i)&&decide (i.toNat*s+s<=cs.length),{ val:=.ptr id (i.toNat*s) c,tch:=[id] })
   |_=>none
  |some s,.sub id off l c,.t _ (.int _ i)=>match H id with
   |some (.row _ z _ cs)=>some (decide (cs.length=c)&&decide (z=s)&&decide (0<=i)&&decide (i<(l:Int)),{ val:=.ptr id (off+i.toNat*s) c,tch:=[id] })
   |_=>none
  |_,_,_=>none
 |none=>match arOf P t with
  |some (n,e)=>match zA6 P e,x,ix with
   |some s,.ptr id off c,.t _ (.int _ i)=>match H id with
    |some b=>some (decide (b.cnt=c)&&decide (0<=i)&&decide (i<(n:Int)),{ val:=.ptr id (off+i.toNat*s) c,tch:=[id] })
    |none=>none
   |some s,.pt p cs,.t _ (.int _ i)=>some (decide (0<=i)&&decide (i<(n:Int))&&decide (0<s),{ val:=.pt p (cs.drop (i.toNat*s)) })
   |_,_,_=>none
  |none=>none
def zC2(s:ByteArray)(i:Nat):Int:=((s[i]?).map (fun b=>(b.toNat:Int))).getD 0
def strB(P:Program)(t:TypeId):Bool:=match P.underlying t with|some .string=>true|_=>false
def aIndex(P:Program)(t:TypeId)(x ix:AV):Option (Bool×Eff):=
 match strB P t,x,ix with
 |true,.t _ (.str s),.t _ (.int _ i)=>some (decide (0<=i)&&decide (i<(s.size:Int)),{ val:=.t 2 (.int .u8 (zC2 s i.toNat)) })
 |_,.agg cs,.t _ (.int _ i)=>match arOf P t with
  |some (n,e)=>match zA6 P e,aggB P e with
   |some 1,some false=>some (decide (0<=i)&&decide (i<(n:Int))&&decide (cs.length=n),{ val:=cs.getD i.toNat .any })
   |_,_=>none
  |none=>none
 |_,_,_=>none
def oint:Option AV->Option (Option Int)
 |none=>some none
 |some (.t _ (.int _ i))=>some (some i)
 |_=>none
def aSlice(P:Program)(t:TypeId)(x:AV)(lo hi:Option AV):Option (Bool×Eff):=
 match strB P t,x,oint lo,oint hi with
 |true,.t _ (.str s),some l,some h=>some (decide (0<=l.getD 0)&&decide (l.getD 0<=h.getD s.size)&&decide (h.getD s.size<=s.size),{ val:=.t 2 (.str (s.extract (l.getD 0).toNat (h.getD s.size).toNat)) })
 |false,.t p (.sl z cs),some l,some h=>match elOf P t with
  |some e=>match zA6 P e with
   |some s=>some (decide (z=s)&&decide (0<s)&&decide (0<=l.getD 0)&&decide (l.getD 0<=h.getD ((cs.length/z:Nat):Int))&&decide (h.getD ((cs.length/z:Nat):Int)<=((cs.length/z:Nat):Int)),{ val:=.t p (.sl z (cut cs ((l.getD 0).toNat*z) (((h.getD ((cs.length/z:Nat):Int)).toNat-(l.getD 0).toNat)*z))) })
   |none=>none
  |none=>none
 |_,_,_,_=>none
def mpB(P:Program)(t:TypeId):Bool:=match P.underlying t with|some (.map _ _)=>true|_=>false
def aLen(P:Program)(t:TypeId)(x:AV)(H:Nat->Option AObj):Option (Bool×Eff):=
 match x with
 | .t _ (.str s)=>if strB P t then some (true,{ val:=.t 2 (.int .i64 s.size) })else none
 | .t _ (.sl z cs)=>match elOf P t with
  |some _=>some (true,{ val:=.t 2 (.int .i64 (cs.length/z:Nat)) })
  |none=>none
 | .sub id off l c=>match elOf P t,H id with
  |some _,some (.row _ z _ cs)=>some (decide (cs.length=c),{ val:=.t 2 (.int .i64 l),tch:=[id] })
  |_,_=>none
 | .own id c=>match elOf P t,H id with
  |some _,some (.row _ z _ cs)=>some (decide (cs.length=c),{ val:=.t 2 (.int .i64 (cs.length/z:Nat)),tch:=[id] })
  |some _,some (.vec _ z _ cs)=>some (decide (cs.length=c),{ val:=.t 2 (.int .i64 (cs.length/z:Nat)),tch:=[id] })
  |none,some (.map _ _ es)=>if mpB P t then some (decide (c=0),{ val:=.t 2 (.int .i64 es.length),tch:=[id] })else none
  |_,_=>none
 |_=>none
section
variable{w0 w:World}{V S0 U:Nat->Prop}{H:Nat->Option AObj}{ob:Nat->Option (Value×Nat)}{i:Nat}{P:Program}
theorem zHU{s f o sz:Nat}{a:Bool}(h:fldOf P s f=some (o,sz,a)): ∃fs x,P.underlying s=some (.struct fs)/\fs[f]? =some x/\x.offset=o/\zA6 P x.type=some sz/\aggB P x.type=some a:=by
 unfold fldOf at h;split at h
 ·rename_i fs hu
  cases hx:fs[f]? with
  |none=>rw[hx]at h;cases h
  |some x=>
   rw[hx]at h;simp only[Option.bind_some]at h;split at h
   ·rename_i s' a' h1 h2;simp only[Qx,Qk]at h;obtain⟨rfl,rfl,rfl⟩:=h;exact⟨fs,x,hu,hx,rfl,h1,h2⟩
   ·cases h
 ·cases h
theorem zHz{s f o sz:Nat}{a:Bool}(h:fldOf P s f=some (o,sz,a))(hz:sz≠0)(b off:Nat):(Instr.fieldAt s (.pointer (some ⟨b,off,none⟩)) f).run P w= .ok (.pointer (some ⟨b,off+o,none⟩)) w:=by
 obtain⟨fs,x,h1,h2,h3,h4,h5⟩:=zHU h;simp[Instr.fieldAt,run_underlying h1,Sem.run_bind,h2,Instr.sureAddr,fieldPlace,zt h4,hz,zAl,h3]
theorem zPP{s f:Nat}{v:Value}{x:AV}{eff:Eff}{c:Bool}(he:aField P s f x H=some (c,eff))(hc:c=true)(h:MR w0 V S0 U H ob w)(hv:VR (zV w0.heap.size V ob U w) v x):
  ∃y,(Instr.fieldAt s v f).run P w= .ok y w/\VR (zV w0.heap.size V ob U w) y eff.val/\eff.new=none/\eff.del=[]:=by
 subst hc;unfold aField at he;split at he
 ·rename_i o sz a id off c hf;split at he
  ·rename_i b hH;simp only[Qx,Qk,Qz,decide_eq_true_eq]at he;obtain⟨⟨h1,h2⟩,rfl⟩:=he;obtain⟨u,k,e1,e2,rfl,e3⟩:=h.ptr hv hH h1;refine⟨_,zHz hf h2 k off,.ptr _ id (off+o) c rfl e3 (fun u' n hu=>?_),rfl,rfl⟩;have hu:ob id=some (u',n):=hu;rw[e1]at hu;simp only[Qx,Qk]at hu;obtain⟨rfl,rfl⟩:=hu;exact⟨Qy _,fun _=>⟨k,e2,rfl⟩⟩
  ·cases he
 ·rename_i o sz a p cs hf;simp only[Qx,Qk,decide_eq_true_eq]at he;obtain⟨h2,rfl⟩:=he;obtain⟨b,off,vs,rfl,hcc,hrr⟩:=hv.zT3;refine⟨_,zHz hf h2 b off,.pt p b (off+o) (cs.drop o) (fun i=>vs (o+i)) (fun i c hi=>?_) (fun i c hi=>?_),rfl,rfl⟩
  ·rw[Nat.add_assoc];exact hcc (o+i) c (by simpa using hi)
  ·exact hrr (o+i) c (by simpa using hi)
 ·cases he
theorem zMY{s f:Nat}{v:Value}{x:AV}{eff:Eff}{c:Bool}(he:aFieldV P s f x=some (c,eff))(hc:c=true){E:Ev}(hv:VR E v x):
  ∃y,(Instr.field s v f).run P w= .ok y w/\VR E y eff.val/\eff.new=none/\eff.del=[]:=by
 subst hc;unfold aFieldV at he;split at he
 ·rename_i o sz a cs hf;obtain⟨fs,x,h1,h2,h3,h4,h5⟩:=zHU hf
  cases hv with
  |agg vs cs hn hone hr=>
   by_cases haa:a=true
   ·subst haa;simp only[if_true,Qx,Qk,decide_eq_true_eq]at he;obtain⟨h6,rfl⟩:=he;refine⟨.agg (vs.extract o (o+sz)),?_,.agg _ _ ?_ (fun y hy=>?_) (fun i c hi=>?_),rfl,rfl⟩
    ·simp[Instr.field,run_underlying h1,Sem.run_bind,h2,asAgg,part,zDM h5,zt h4,h3]
    ·rw[zDe h6];simp;omega
    ·exact hone y (by
      rw[Array.mem_iff_getElem]at hy ⊢;obtain⟨i,hi,rfl⟩:=hy;simp at hi;exact⟨o+i,by omega,by simp⟩)
    ·obtain⟨h7,h8⟩:=zBY hi;have:=hr _ _ h7;have hlt:o+i<vs.size:=by rw[hn];exact(Qq.1 h7).1
     have hlt2:i<(vs.extract o (o+sz)).size:=by simp;omega
     simp only[Array.getD,hlt,dif_pos]at this;simp only[Array.getD,hlt2,dif_pos];simpa using this
   ·have haa:a=false:=by simpa using haa
    subst haa;simp only[Bool.false_eq_true,if_false]at he;split at he
    ·rename_i y hy;simp only[Qx,Qk,true_and]at he;subst he;have hlt:o<vs.size:=by rw[hn];exact(Qq.1 hy).1
     refine⟨vs[o],?_,?_,rfl,rfl⟩
     ·simp[Instr.field,run_underlying h1,Sem.run_bind,h2,asAgg,part,zDM h5,h3,hlt]
     ·have:=hr _ _ hy;simpa[Array.getD,hlt]using this
    ·cases he
 ·cases he
theorem zJn{cs:List T}{n:Nat}(h:n<cs.length)(j:Nat)(c:T)(hc:[cs.getD n default][j]? =some c):j=0/\cs[n]? =some c:=by
 cases j with
 |zero=>simp[h]at hc;exact⟨rfl,by simp[h,hc]⟩
 |succ j=>simp at hc
theorem zHn{t:TypeId}{v y:Value}{x ix:AV}{eff:Eff}{c:Bool}(he:aIndexAddr P t x ix H=some (c,eff))(hc:c=true)(h:MR w0 V S0 U H ob w)(hv:VR (zV w0.heap.size V ob U w) v x)(hy:VR (zV w0.heap.size V ob U w) y ix):
  ∃z,(Instr.indexAt t v y).run P w= .ok z w/\VR (zV w0.heap.size V ob U w) z eff.val/\eff.new=none/\eff.del=[]:=by
 subst hc;unfold aIndexAddr at he;split at he
 ·rename_i e hel;have hu:=zAv hel;split at he
  ·rename_i s p z cs q k i hs;obtain rfl:=hy.int;have hrep:=hv.rep;have key: ∀(n cap b o:Nat),v= .slice (some ⟨b,o,none⟩) n cap->0<=i->i<(n:Int)->(Instr.indexAt t v (.int k i)).run P w= .ok (.pointer (some ⟨b,o+i.toNat*s,none⟩)) w:=fun n cap b o hvv h1 h2=>by
    subst hvv;simp[Instr.indexAt,asIntOf,run_underlying hu,Sem.run_bind,zt hs,h1,h2,zAl]
   by_cases hs1:s=1
   ·subst hs1;simp only[if_true,Qx,Qk,Qz,decide_eq_true_eq]at he;obtain⟨⟨⟨h1,h2⟩,h3⟩,rfl⟩:=he;subst h1
    cases hrep with
    |nil z=>simp at h3;omega
    |emp a z hz=>simp at h3;omega
    |sl b o n cap z cs vs hz hn h4 h5 hcc hrr=>
     have hlt:i.toNat<cs.length:=by omega
     refine⟨_,key n cap b o rfl h2 (by omega),.pt p b _ _ (fun _=>vs i.toNat) (fun j c hj=>?_) (fun j c hj=>?_),rfl,rfl⟩
     ·obtain⟨rfl,h6⟩:=zJn hlt j c hj;simpa using hcc _ c h6
     ·obtain⟨rfl,h6⟩:=zJn hlt j c hj;exact hrr _ c h6
   ·simp only[hs1,if_false,Qx,Qk,Qz,decide_eq_true_eq]at he;obtain⟨⟨⟨⟨h1,h0⟩,h2⟩,h3⟩,rfl⟩:=he;subst h1
    cases hrep with
    |nil z=>simp at h3;omega
    |emp a z hz=>simp at h3;omega
    |sl b o n cap z cs vs hz hn h4 h5 hcc hrr=>
     have hlt:i.toNat<n:=by
      rw[hn]at h3;have:(i.toNat+1)*z<=n*z:=by rw[Nat.add_mul];omega
      have:=Nat.le_of_mul_le_mul_right this hz;omega
     refine⟨_,key n cap b o rfl h2 (by omega),.pt p b _ _ (fun j=>vs (i.toNat*z+j)) (fun j c hj=>?_) (fun j c hj=>?_),rfl,rfl⟩
     ·have:=hcc _ c (zBY hj).1;rw[Nat.add_assoc];exact this
     ·exact hrr _ c (zBY hj).1
  ·rename_i s id c q k i hs;obtain rfl:=hy.int;split at he
   ·rename_i e' z p cs hH;simp only[Qx,Qk,Qz,decide_eq_true_eq]at he;obtain⟨⟨⟨⟨h1,h2⟩,h3⟩,h4⟩,rfl⟩:=he;obtain⟨e1,e2⟩:=h.own hv hH h1;obtain⟨-,u,e3,hz,hl,m,vs,how,hlen,hr⟩:=h.obj id _ hH;rw[e1]at e3;simp only[Qx,Qk]at e3;obtain⟨rfl,-⟩:=e3;subst h2;rcases how.2 with⟨rfl,rfl⟩|⟨g,cap,cur,rfl,-,hg,hnc,hcm,hcs,htake⟩
    ·have:=how.1;omega
    ·have hlt:i.toNat<m:=by
      have h5:=how.1;have:(i.toNat+1)*z<=m*z:=by rw[Nat.add_mul];omega
      have:=Nat.le_of_mul_le_mul_right this hz;omega
     refine⟨.pointer (some ⟨g,i.toNat*z,none⟩),?_,.ptr _ id _ c rfl e2 (fun u' n hu'=>?_),rfl,rfl⟩
     ·have h7:i<(m:Int):=by omega
      simp[Instr.indexAt,asIntOf,run_underlying hu,Sem.run_bind,zt hs,h3,h7,zAl]
     ·have hu':ob id=some (u',n):=hu';rw[e1]at hu';simp only[Qx,Qk]at hu';obtain⟨rfl,rfl⟩:=hu';exact⟨Qy _,fun _=>⟨g,rfl,rfl⟩⟩
   ·rename_i e' z pv cs hH;by_cases hs1:s=1
    ·simp only[hs1,if_true,Qx,Qk,Qz,decide_eq_true_eq]at he;obtain⟨⟨⟨⟨h1,h2⟩,h3⟩,h4⟩,rfl⟩:=he;obtain⟨e1,e2⟩:=h.own hv hH h1;obtain⟨-,u,e3,hz,-,m,vs,how,hlen,hone,hr⟩:=h.obj id _ hH;rw[e1]at e3;simp only[Qx,Qk]at e3;obtain⟨rfl,-⟩:=e3;subst h2 hs1;rcases how.2 with⟨rfl,rfl⟩|⟨g,cap,cur,rfl,-,hg,hnc,hcm,hcs,htake⟩
     ·have:=how.1;omega
     ·have h5:=how.1;refine⟨.pointer (some ⟨g,i.toNat,none⟩),?_,.ptr _ id _ c rfl e2 (fun u' n hu'=>?_),rfl,rfl⟩
      ·have h7:i<(m:Int):=by omega
       simp[Instr.indexAt,asIntOf,run_underlying hu,Sem.run_bind,zt hs,h3,h7,zAl]
      ·have hu':ob id=some (u',n):=hu';rw[e1]at hu';simp only[Qx,Qk]at hu';obtain⟨rfl,rfl⟩:=hu';exact⟨Qy _,fun _=>⟨g,rfl,rfl⟩⟩
    ·simp only[hs1,if_false,Qx,Qk,Qz,decide_eq_true_eq]at he;obtain⟨⟨⟨⟨h1,h2⟩,h3⟩,h4⟩,rfl⟩:=he;obtain⟨e1,e2⟩:=h.own hv hH h1;obtain⟨-,u,e3,hz,-,m,vs,how,hlen,hone,hr⟩:=h.obj id _ hH;rw[e1]at e3;simp only[Qx,Qk]at e3;obtain⟨rfl,-⟩:=e3;subst h2;rcases how.2 with⟨rfl,rfl⟩|⟨g,cap,cur,rfl,-,hg,hnc,hcm,hcs,htake⟩
     ·have:=how.1;omega
     ·have hlt:i.toNat<m:=by
       have h5:=how.1;have:(i.toNat+1)*z<=m*z:=by rw[Nat.add_mul];omega
       have:=Nat.le_of_mul_le_mul_right this hz;omega
      refine⟨.pointer (some ⟨g,i.toNat*z,none⟩),?_,.ptr _ id _ c rfl e2 (fun u' n hu'=>?_),rfl,rfl⟩
      ·have h7:i<(m:Int):=by omega
       simp[Instr.indexAt,asIntOf,run_underlying hu,Sem.run_bind,zt hs,h3,h7,zAl]
      ·have hu':ob id=some (u',n):=hu';rw[e1]at hu';simp only[Qx,Qk]at hu';obtain⟨rfl,rfl⟩:=hu';exact⟨Qy _,fun _=>⟨g,rfl,rfl⟩⟩
   ·cases he
  ·rename_i s id off l c q k i hs;obtain rfl:=hy.int;split at he
   ·rename_i e' z p cs hH;simp only[Qx,Qk,Qz,decide_eq_true_eq]at he;obtain⟨⟨⟨⟨h1,h2⟩,h3⟩,h4⟩,rfl⟩:=he;obtain⟨-,u,e3,hor⟩:=h.obj id _ hH;have e3:ob id=some (u,c):=by rw[e3];simp[AObj.cnt,h1]
    cases hv with
    |sub v id off l c g1 hU hh=>
     obtain⟨cap,g2,g3,g4⟩:=(hh u c e3).2 rfl;rcases g4 with⟨-,g4⟩|⟨b,o,g4,rfl,g5⟩
     ·omega
     ·have ho:o=off:=by omega
      subst ho;refine⟨.pointer (some ⟨b,o+i.toNat*s,none⟩),?_,.ptr _ id _ c rfl hU (fun u' n hu'=>?_),rfl,rfl⟩
      ·simp[Instr.indexAt,asIntOf,run_underlying hu,Sem.run_bind,zt hs,h3,h4,zAl]
      ·have hu':ob id=some (u',n):=hu';rw[e3]at hu';simp only[Qx,Qk]at hu';obtain⟨rfl,rfl⟩:=hu';exact⟨Qy _,fun _=>⟨b,g4,rfl⟩⟩
   ·cases he
  ·cases he
 ·split at he
  ·rename_i n e har;have hu:P.underlying t=some (.array n e):=by
    unfold arOf at har;split at har
    ·rename_i n' e' h1;simp only[Qx,Qk]at har;rw[h1,har.1,har.2]
    ·cases har
   split at he
   ·rename_i s id off c q k i hs;obtain rfl:=hy.int;split at he
    ·rename_i b hH;simp only[Qx,Qk,Qz,decide_eq_true_eq]at he;obtain⟨⟨⟨h1,h2⟩,h3⟩,rfl⟩:=he;obtain⟨u,g,e1,e2,rfl,e3⟩:=h.ptr hv hH h1;refine⟨.pointer (some ⟨g,off+i.toNat*s,none⟩),?_,.ptr _ id _ c rfl e3 (fun u' n hu'=>?_),rfl,rfl⟩
     ·simp[Instr.indexAt,asIntOf,run_underlying hu,Sem.run_bind,zt hs,h2,h3,zAl,Instr.sureAddr]
     ·have hu':ob id=some (u',n):=hu';rw[e1]at hu';simp only[Qx,Qk]at hu';obtain⟨rfl,rfl⟩:=hu';exact⟨Qy _,fun _=>⟨g,e2,rfl⟩⟩
    ·cases he
   ·rename_i s p cs q k i hs;obtain rfl:=hy.int;simp only[Qx,Qk,Qz,decide_eq_true_eq]at he;obtain⟨⟨⟨h1,h2⟩,h3⟩,rfl⟩:=he;obtain⟨b,o,vs,rfl,hcc,hrr⟩:=hv.zT3;refine⟨.pointer (some ⟨b,o+i.toNat*s,none⟩),?_,.pt p b _ _ (fun j=>vs (i.toNat*s+j)) (fun j c hj=>?_) (fun j c hj=>?_),rfl,rfl⟩
    ·simp[Instr.indexAt,asIntOf,run_underlying hu,Sem.run_bind,zt hs,h1,h2,zAl,Instr.sureAddr]
    ·rw[List.getElem?_drop]at hj;have:=hcc _ c hj;rw[Nat.add_assoc];exact this
    ·rw[List.getElem?_drop]at hj;exact hrr _ c hj
   ·cases he
  ·cases he
theorem zPo{t:TypeId}{v y:Value}{x ix:AV}{eff:Eff}{c:Bool}(he:aIndex P t x ix=some (c,eff))(hc:c=true){E:Ev}(hv:VR E v x)(hy:VR E y ix):
  ∃z,(Instr.index t v y).run P w= .ok z w/\VR E z eff.val/\eff.new=none/\eff.del=[]:=by
 subst hc;unfold aIndex at he;split at he
 ·rename_i p s q k i hs;obtain rfl:=hy.int;obtain rfl:=hv.str;simp only[Qx,Qk,Qz,decide_eq_true_eq]at he;obtain⟨⟨h1,h2⟩,rfl⟩:=he;have hu:P.underlying t=some .string:=by
   unfold strB at hs;split at hs
   ·assumption
   ·cases hs
  have hlt:i.toNat<s.size:=by omega
  refine⟨.int .u8 (zC2 s i.toNat),?_,.mkInt _ _ _ _,rfl,rfl⟩;simp[Instr.index,asIntOf,run_underlying hu,Sem.run_bind,h1,hlt,zC2]
 ·rename_i d1 d2 d3 cs q k i;obtain rfl:=hy.int;split at he
  ·rename_i n e har;have hu:P.underlying t=some (.array n e):=by
    unfold arOf at har;split at har
    ·rename_i n' e' h1;simp only[Qx,Qk]at har;rw[h1,har.1,har.2]
    ·cases har
   split at he
   ·rename_i hsz hag;simp only[Qx,Qk,Qz,decide_eq_true_eq]at he;obtain⟨⟨⟨h1,h2⟩,h3⟩,rfl⟩:=he
    cases hv with
    |agg vs cs hn hone hr=>
     have hlt:i.toNat<vs.size:=by omega
     refine⟨vs[i.toNat],?_,?_,rfl,rfl⟩
     ·simp[Instr.index,asIntOf,run_underlying hu,Sem.run_bind,h1,h2,part,zDM hag,zt hsz,hlt]
     ·have hlt2:i.toNat<cs.length:=by omega
      have:=hr i.toNat cs[i.toNat] (by simp);simpa[Array.getD,hlt,hlt2]using this
   ·cases he
  ·cases he
 ·cases he
theorem zAP{isSlice:Bool}{len cap:Nat}{lo hi:Option Value}{l h:Option Int}{kl kh:IntKind}(hl:lo=l.map (.int kl))(hh:hi=h.map (.int kh))(h1:0<=l.getD 0)(h2:l.getD 0<=h.getD len)(h3:h.getD len<=cap):
  (Instr.sliceBounds isSlice len cap lo hi none).run P w= .ok ((l.getD 0).toNat,(h.getD len).toNat,cap) w:=by
 subst hl hh
 cases l with
 |none=>cases h with
  |none=>simp[Instr.sliceBounds]
  |some h=>
   simp only[Qd,Option.getD_none]at h1 h2 h3;simp[Instr.sliceBounds,Instr.sliceBound,asIntOf,h2,h3]
 |some l=>cases h with
  |none=>
   simp only[Qd,Option.getD_none]at h1 h2 h3;simp[Instr.sliceBounds,Instr.sliceBound,asIntOf,h1,h2]
  |some h=>
   simp only[Qd]at h1 h2 h3;have h4:0<=h:=by omega
   have h5:l<=max h 0:=by omega
   simp[Instr.sliceBounds,Instr.sliceBound,asIntOf,h1,h4,h3,h5]
theorem zEI{E:Ev}{a:Option AV}{v:Option Value}{l:Option Int}(h:oint a=some l)(hv: ∀y,v=some y-> ∃x,a=some x/\VR E y x)(hn:v=none->a=none): ∃k,v=l.map (.int k):=by
 unfold oint at h;split at h
 ·injection h with h;subst h
  cases v with
  |none=>exact⟨.i64,rfl⟩
  |some y=>obtain⟨x,hx,-⟩:=hv y rfl;cases hx
 ·rename_i p k i;injection h with h;subst h
  cases v with
  |none=>exact absurd (hn rfl) (by simp)
  |some y=>
   obtain⟨x,hx,hy⟩:=hv y rfl;injection hx with hx;subst hx;exact⟨k,by rw[hy.int];rfl⟩
 ·cases h
theorem ok_slice{t:TypeId}{v:Value}{x:AV}{lo hi:Option Value}{alo ahi:Option AV}{eff:Eff}{c:Bool}(he:aSlice P t x alo ahi=some (c,eff))(hc:c=true){E:Ev}(hv:VR E v x)
  (hlo: ∀y,lo=some y-> ∃x,alo=some x/\VR E y x) (hlo0:lo=none->alo=none) (hhi: ∀y,hi=some y-> ∃x,ahi=some x/\VR E y x) (hhi0:hi=none->ahi=none):
  ∃z,(Instr.sliceAt t v lo hi none).run P w= .ok z w/\VR E z eff.val/\eff.new=none/\eff.del=[]:=by
 subst hc;unfold aSlice at he;split at he
 ·rename_i p s l h hs hl hh;obtain rfl:=hv.str;obtain⟨kl,e1⟩:=zEI hl hlo hlo0;obtain⟨kh,e2⟩:=zEI hh hhi hhi0;simp only[Qx,Qk,Qz,decide_eq_true_eq]at he;obtain⟨⟨⟨h1,h2⟩,h3⟩,rfl⟩:=he;have hu:P.underlying t=some .string:=by
   unfold strB at hs;split at hs
   ·assumption
   ·cases hs
  refine⟨_,?_,.mkStr _ _ _,rfl,rfl⟩;simp[Instr.sliceAt,Instr.slice,run_underlying hu,Sem.run_bind,zAP e1 e2 h1 h2 h3]
 ·rename_i p z cs l h hs hl hh;obtain⟨kl,e1⟩:=zEI hl hlo hlo0;obtain⟨kh,e2⟩:=zEI hh hhi hhi0;split at he
  ·rename_i e hel;have hu:=zAv hel;split at he
   ·rename_i s hsz;simp only[Qx,Qk,Qz,decide_eq_true_eq]at he;obtain⟨⟨⟨⟨⟨h0,hz0⟩,h1⟩,h2⟩,h3⟩,rfl⟩:=he;subst h0;have hrep:=hv.rep
    cases hrep with
    |nil z=>
     simp only[List.length_nil,Nat.zero_div]at h2 h3;have hb:=zAP (P:=P) (w:=w) (isSlice:=true) (len:=0) (cap:=0) e1 e2 h1 h2 h3;have hl0:(l.getD 0).toNat=0:=by omega
     have hh0:(h.getD ((0:Nat):Int)).toNat=0:=by omega
     rw[hl0,hh0]at hb;refine⟨.slice none 0 0,?_,?_,rfl,rfl⟩
     ·simp[Instr.sliceAt,Instr.slice,run_underlying hu,Sem.run_bind,hb,zt hsz]
     ·simp[cut];exact .t _ p _ (.nil z)
    |emp ad z hz=>
     simp only[List.length_nil,Nat.zero_div]at h2 h3;have hb:=zAP (P:=P) (w:=w) (isSlice:=true) (len:=0) (cap:=0) e1 e2 h1 h2 h3;have hl0:(l.getD 0).toNat=0:=by omega
     have hh0:(h.getD ((0:Nat):Int)).toNat=0:=by omega
     rw[hl0,hh0]at hb;refine⟨.slice (some ad) 0 0,?_,?_,rfl,rfl⟩
     ·simp[Instr.sliceAt,Instr.slice,run_underlying hu,Sem.run_bind,hb,zt hsz]
     ·simp[cut];exact .t _ p _ (.emp ad z hz)
    |sl b o n cap z cs vs hz hn h4 h5 hcc hrr=>
     have hdiv:cs.length/z=n:=by rw[hn];exact Nat.mul_div_cancel n hz
     rw[hdiv]at h2 h3;have hb:=zAP (P:=P) (w:=w) (isSlice:=true) (len:=n) (cap:=cap) e1 e2 h1 h2 (by omega);obtain⟨a,ha⟩: ∃a,a=(l.getD 0).toNat:=⟨_,rfl⟩;obtain⟨d,hd⟩: ∃d,d=(h.getD ((n:Nat):Int)).toNat:=⟨_,rfl⟩;have had:a<=d:=by omega
     have hdn:d<=n:=by omega
     rw[hdiv];rw[←ha,←hd]at hb ⊢;have hlen:(cut cs (a*z) ((d-a)*z)).length=(d-a)*z:=zDe (by
      rw[hn,←Nat.add_mul];exact Nat.mul_le_mul_right z (by omega))
     by_cases hca:cap=a
     ·refine⟨.slice (some ⟨b,o,none⟩) (d-a) (cap-a),?_,.t _ p _ (.sl b o (d-a) (cap-a) z _ (fun _=>undef) hz hlen (by omega) (by omega) (fun i c hi=>?_) (fun i c hi=>?_)),rfl,rfl⟩
      ·rw[hca]at hb ⊢;simp[Instr.sliceAt,Instr.slice,run_underlying hu,Sem.run_bind,hb,zt hsz]
      ·have:=(zBY hi).2;have:d-a=0:=by omega
       simp[this]at*
      ·have:=(zBY hi).2;have:d-a=0:=by omega
       simp[this]at*
     ·refine⟨.slice (some ⟨b,o+a*z,none⟩) (d-a) (cap-a),?_,.t _ p _ (.sl b _ (d-a) (cap-a) z _ (fun i=>vs (a*z+i)) hz hlen (by omega) (by omega) (fun i c hi=>?_) (fun i c hi=>?_)),rfl,rfl⟩
      ·simp[Instr.sliceAt,Instr.slice,run_underlying hu,Sem.run_bind,hb,zt hsz,hca,zAl]
      ·rw[Nat.add_assoc];exact hcc _ c (zBY hi).1
      ·exact hrr _ c (zBY hi).1
   ·cases he
  ·cases he
 ·cases he
theorem zTR{t:TypeId}{v:Value}{x:AV}{eff:Eff}{c:Bool}(he:aLen P t x H=some (c,eff))(hc:c=true)(h:MR w0 V S0 U H ob w)(hv:VR (zV w0.heap.size V ob U w) v x)(ty:TypeId):
  ∃y,(Builtin.len_ #[t] ty #[v]).run P w= .ok y w/\VR (zV w0.heap.size V ob U w) y eff.val/\eff.new=none/\eff.del=[]:=by
 subst hc;unfold aLen at he;split at he
 ·rename_i p s;obtain rfl:=hv.str;split at he
  ·rename_i hs;have hu:P.underlying t=some .string:=by
    unfold strB at hs;split at hs
    ·assumption
    ·cases hs
   simp only[Qx,Qk,true_and]at he;subst he;exact⟨_,by simp[Builtin.len_,run_underlying hu,Sem.run_bind,goInt],.mkInt _ _ _ _,rfl,rfl⟩
  ·cases he
 ·rename_i p z cs;split at he
  ·rename_i e hel;have hu:=zAv hel;simp only[Qx,Qk,true_and]at he;subst he;have hrep:=hv.rep
   cases hrep with
   |nil z=>exact⟨_,by simp[Builtin.len_,run_underlying hu,Sem.run_bind,goInt];rfl,by simpa using VR.mkInt _ 2 .i64 0,rfl,rfl⟩
   |emp a z hz=>exact⟨_,by simp[Builtin.len_,run_underlying hu,Sem.run_bind,goInt];rfl,by simpa using VR.mkInt _ 2 .i64 0,rfl,rfl⟩
   |sl b o n cap z cs vs hz hn h4 h5 hcc hrr=>
    have hdiv:cs.length/z=n:=by rw[hn];exact Nat.mul_div_cancel n hz
    rw[hdiv];exact⟨_,by simp[Builtin.len_,run_underlying hu,Sem.run_bind,goInt],.mkInt _ _ _ _,rfl,rfl⟩
  ·cases he
 ·rename_i id off l c;split at he
  ·rename_i e e' z p cs hel hH;have hu:=zAv hel;simp only[Qx,Qk,decide_eq_true_eq]at he;obtain⟨h1,rfl⟩:=he;obtain⟨-,u,e3,hor⟩:=h.obj id _ hH;have e3:ob id=some (u,c):=by rw[e3];simp[AObj.cnt,h1]
   cases hv with
   |sub v id off l c g1 hU hh=>
    obtain⟨cap,g2,g3,g4⟩:=(hh u c e3).2 rfl;rcases g4 with⟨rfl,rfl⟩|⟨b,o,g4,rfl,g5⟩
    ·exact⟨_,by simp[Builtin.len_,run_underlying hu,Sem.run_bind,goInt],.mkInt _ _ _ _,rfl,rfl⟩
    ·exact⟨_,by simp[Builtin.len_,run_underlying hu,Sem.run_bind,goInt],.mkInt _ _ _ _,rfl,rfl⟩
  ·cases he
 ·rename_i id c;split at he
  ·rename_i e e' z p cs hel hH;have hu:=zAv hel;simp only[Qx,Qk,decide_eq_true_eq]at he;obtain⟨h1,rfl⟩:=he;obtain⟨e1,e2⟩:=h.own hv hH h1;obtain⟨-,u,e3,hz,hl,m,vs,how,hlen,hr⟩:=h.obj id _ hH;rw[e1]at e3;simp only[Qx,Qk]at e3;obtain⟨rfl,-⟩:=e3;have hdiv:cs.length/z=m:=by rw[←hlen,how.1];exact Nat.mul_div_cancel m hz
   rw[hdiv];rcases how.2 with⟨rfl,rfl⟩|⟨g,cap,cur,rfl,-,hg,hnc,hcm,hcs,htake⟩
   ·exact⟨_,by simp[Builtin.len_,run_underlying hu,Sem.run_bind,goInt],.mkInt _ _ _ _,rfl,rfl⟩
   ·exact⟨_,by simp[Builtin.len_,run_underlying hu,Sem.run_bind,goInt],.mkInt _ _ _ _,rfl,rfl⟩
  ·rename_i e e' z pv cs hel hH;have hu:=zAv hel;simp only[Qx,Qk,decide_eq_true_eq]at he;obtain⟨h1,rfl⟩:=he;obtain⟨e1,e2⟩:=h.own hv hH h1;obtain⟨-,u,e3,hz,-,m,vs,how,hlen,hone,hr⟩:=h.obj id _ hH;rw[e1]at e3;simp only[Qx,Qk]at e3;obtain⟨rfl,-⟩:=e3;have hdiv:cs.length/z=m:=by rw[←hlen,how.1];exact Nat.mul_div_cancel m hz
   rw[hdiv];rcases how.2 with⟨rfl,rfl⟩|⟨g,cap,cur,rfl,-,hg,hnc,hcm,hcs,htake⟩
   ·exact⟨_,by simp[Builtin.len_,run_underlying hu,Sem.run_bind,goInt],.mkInt _ _ _ _,rfl,rfl⟩
   ·exact⟨_,by simp[Builtin.len_,run_underlying hu,Sem.run_bind,goInt],.mkInt _ _ _ _,rfl,rfl⟩
  ·rename_i K Y es hel hH;split at he
   ·rename_i hmp;obtain⟨K1,Y1,hu⟩: ∃K Y,P.underlying t=some (.map K Y):=by
     unfold mpB at hmp;split at hmp
     ·rename_i K Y h1;exact⟨K,Y,h1⟩
     ·cases hmp
    simp only[Qx,Qk,decide_eq_true_eq]at he;obtain⟨h1,rfl⟩:=he;obtain⟨e1,e2⟩:=h.own hv hH (by simpa[AObj.cnt]using h1.symm);obtain⟨-,u,e3,r,clock,xs,rfl,hg,hsz,hrr⟩:=h.obj id _ hH;rw[e1]at e3;simp only[Qx,Qk]at e3;obtain⟨rfl,-⟩:=e3;rw[←hsz];exact⟨_,by simp[Builtin.len_,run_underlying hu,Sem.run_bind,goInt,getObj,Sem.run,hg],.mkInt _ _ _ _,rfl,rfl⟩
   ·cases he
  ·cases he
 ·cases he
def aSliceO(P:Program)(i:Nat)(t:TypeId)(x:AV)(lo hi:Option AV)(H:Nat->Option AObj):Option (Bool×Eff):=match x with
 | .own id c=>match elOf P t,H id,lo,hi with
  |some e,some (.row e' z p cs),none,some (.t _ (.int _ h))=>match zA6 P e with
   |some s=>some (decide (cs.length=c)&&decide (z=s)&&decide (0<=h)&&decide (h.toNat*z<=cs.length),{ val:=.own i (cs.take (h.toNat*z)).length,new:=some (i,.row e' z p (cs.take (h.toNat*z))),del:=[id],tch:=[i,id] })
   |none=>none
  |some e,some (.row e' z p cs),some (.t _ (.int _ l)),none=>match zA6 P e with
   |some s=>some (decide (cs.length=c)&&decide (z=s)&&decide (0<=l)&&decide (l.toNat*z<=cs.length),{ val:=.sub id (l.toNat*z) (cs.length/z-l.toNat) c,tch:=[id] })
   |none=>none
  |_,_,_,_=>none
 |x=>aSlice P t x lo hi
theorem zOI{t:TypeId}{v:Value}{x:AV}{lo hi:Option Value}{alo ahi:Option AV}{eff:Eff}{c:Bool}(he:aSliceO P i t x alo ahi H=some (c,eff))(hc:c=true)(h:MR w0 V S0 U H ob w)(hi0: ¬U i)(hv:VR (zV w0.heap.size V ob U w) v x)
  (hlo: ∀y,lo=some y-> ∃x,alo=some x/\VR (zV w0.heap.size V ob U w) y x) (hlon:lo=none->alo=none) (hhi: ∀y,hi=some y-> ∃x,ahi=some x/\VR (zV w0.heap.size V ob U w) y x) (hhin:hi=none->ahi=none):
  Good w0 V S0 U ob w i (eff.heap H) eff.val ((Instr.sliceAt t v lo hi none>>=fun v=>pure (.value v):Sem Next).run P w):=by
 subst hc;unfold aSliceO at he;split at he
 ·rename_i id c;split at he
  ·rename_i e e' z p cs q k h' hel hH;have hu:=zAv hel;split at he
   ·rename_i s hs;simp only[Qx,Qk,Qz,decide_eq_true_eq]at he;obtain⟨⟨⟨⟨h1,h2⟩,h3⟩,h4⟩,rfl⟩:=he;subst h2;obtain⟨e1,e2⟩:=h.own hv hH h1;obtain⟨-,u,e3,hz,hl,m,vs,how,hlen,hr⟩:=h.obj id _ hH;rw[e1]at e3;simp only[Qx,Qk]at e3;obtain⟨rfl,-⟩:=e3;obtain⟨a,ha⟩: ∃a,a=h'.toNat:=⟨_,rfl⟩;rw[←ha]at h4 ⊢;have ham:a<=m:=by
     have h5:=how.1;have:a*z<=m*z:=by omega
     exact Nat.le_of_mul_le_mul_right this hz
    have hlon2:lo=none:=by
     cases lo with
     |none=>rfl
     |some y=>obtain⟨x,hx,-⟩:=hlo y rfl;cases hx
    obtain⟨kk,rfl⟩: ∃kk,hi=some (.int kk h'):=by
     cases hi with
     |none=>have:=hhin rfl;cases this
     |some y=>
      obtain⟨x,hx,hy⟩:=hhi y rfl;injection hx with hx;subst hx;exact⟨_,by rw[hy.int]⟩
    subst hlon2
    -- the value and its row
    obtain⟨v',hrun,hown,hblk⟩: ∃v':Value,(Instr.sliceAt t v none (some (.int kk h')) none).run P w= .ok v' w/\w.ownsRow 0 e' z v' a (vs.take (a*z))/\(∀k,blk v'=some k->blk v=some k):=by
     rcases how.2 with⟨rfl,hvs⟩|⟨g,cap,cur,rfl,h0,hg,hnc,hcm,hcs,htake⟩
     ·have hm0:m=0:=by
       have h5:=how.1;rw[hvs]at h5;simp at h5;rcases h5 with h5|h5<;>omega
      have ha0:a=0:=by omega
      have hb:=zAP (P:=P) (w:=w) (isSlice:=true) (len:=0) (cap:=0) (lo:=none) (hi:=some (.int kk h')) (l:=none) (h:=some h') (kl:=.i64) (kh:=kk) rfl rfl (by simp) (by simpa using h3) (by simp;omega);refine⟨.slice none 0 0,?_,?_,fun k hk=>hk⟩
      ·simp only[Option.getD_none,Qd]at hb;have hh0:h'.toNat=0:=by omega
       rw[hh0]at hb;simp[Instr.sliceAt,Instr.slice,run_underlying hu,Sem.run_bind,hb,zt hs]
      ·rw[ha0];simpa using World.ownsRow_nil w 0 e' z
     ·have hb:=zAP (P:=P) (w:=w) (isSlice:=true) (len:=m) (cap:=cap) (lo:=none) (hi:=some (.int kk h')) (l:=none) (h:=some h') (kl:=.i64) (kh:=kk) rfl rfl (by simp) (by simpa using h3) (by simp;omega);simp only[Option.getD_none,Qd,←ha]at hb;refine⟨.slice (some ⟨g,0,none⟩) a cap,?_,⟨?_,.inr ⟨g,cap,cur,rfl,h0,hg,by omega,hcm,hcs,?_⟩⟩,fun k hk=>hk⟩
      ·by_cases hcap:cap=0
       ·subst hcap;simp[Instr.sliceAt,Instr.slice,run_underlying hu,Sem.run_bind,hb,zt hs]
       ·simp[Instr.sliceAt,Instr.slice,run_underlying hu,Sem.run_bind,hb,zt hs,hcap,zAl]
      ·have h5:=how.1;have h6:a*z<=m*z:=Nat.mul_le_mul_right z ham;simp;omega
      ·have h6:a*z<=m*z:=Nat.mul_le_mul_right z ham;rw[←htake,List.take_take];congr 1;omega
    simp only[Sem.run_bind,hrun,Result.andThen_ok,Sem.run_pure];obtain⟨nm,hnm⟩: ∃nm,nm=(AObj.row e' z p (cs.take (a*z))).cnt:=⟨_,rfl⟩;obtain⟨ob',hob'⟩: ∃ob',ob'=upd (upd ob id none) i (some (v',nm)):=⟨_,rfl⟩;have hid:id≠i:=fun e=>hi0 (e▸e2)
    have hfi:ob i=none:=by
     cases ho:ob i with
     |none=>rfl
     |some pr=>
      obtain⟨o,g1,-⟩:=h.live i pr.1 pr.2 (by rw[ho]);exact absurd (h.obj i o g1).1 hi0
    have obs: ∀k u n,ob' k=some (u,n)->(k=i/\u=v'/\n=nm)\/(k≠i/\k≠id/\ob k=some (u,n)):=fun k u n e=>by
     rw[hob']at e;by_cases ki:k=i
     ·subst ki;rw[zX]at e;simp only[Qx,Qk]at e;exact .inl ⟨rfl,e.1.symm,e.2.symm⟩
     ·rw[zu _ _ ki]at e;by_cases kd:k=id
      ·subst kd;rw[zX]at e;cases e
      ·rw[zu _ _ kd]at e;exact .inr ⟨ki,kd,e⟩
    have hOB: ∀b,OB ob' b->OB ob b:=by
     rintro b ⟨k,u,n,g1,g2⟩;rcases obs k u n g1 with⟨rfl,rfl,rfl⟩|⟨-,-,g3⟩
     ·exact⟨id,_,_,e1,hblk b g2⟩
     ·exact⟨k,u,n,g3,g2⟩
    have hx:Ext (zV w0.heap.size V ob U w) (zV w0.heap.size V ob' (fun k=>U k\/k=i) w):=⟨fun p b o u hu'=>by
      obtain⟨g1,g2,g3⟩:=zZ.1 hu';exact zZ.2 ⟨fun hb=>g1 (hOB b hb),g2,g3⟩,rfl,fun k hk=>.inl hk,fun k u' n' hU e=>by
      have e:ob' k=some (u',n'):=e;rcases obs k u' n' e with⟨rfl,-,-⟩|⟨-,-,g3⟩
      ·exact absurd hU hi0
      ·exact⟨u',n',g3,Qy _,fun _=>rfl⟩⟩
    have hi_ob:ob' i=some (v',nm):=by rw[hob'];exact zX _ _ _
    refine⟨_,v',w,ob',rfl,.inl rfl,⟨fun k u n e=>?_,fun k o ho=>?_,fun k k' u u' n n' b hne g1 g2 hb hb'=>?_,fun k u n b g1 hb hlt=>?_,h.only,h.gl⟩,hx,?_⟩
    ·rcases obs k u n e with⟨rfl,-,rfl⟩|⟨g1,g2,g3⟩
     ·exact⟨_,zX _ _ _,hnm⟩
     ·obtain⟨o,g4,g5⟩:=h.live k u n g3;exact⟨o,by show upd (upd H id none) i _ k=_;rw[zu _ _ g1,zu _ _ g2];exact g4,g5⟩
    ·have ho:upd (upd H id none) i (some (AObj.row e' z p (cs.take (a*z)))) k=some o:=ho;by_cases ki:k=i
     ·subst ki;rw[zX]at ho;injection ho with ho;subst ho;refine⟨.inr rfl,v',by rw[hi_ob,hnm],hz,fun b hb=>hl b (hblk b hb),a,vs.take (a*z),hown,by simp[hlen],fun j c' x' hj hx'=>?_⟩;rw[List.getElem?_take]at hj hx';split at hj
      ·rename_i hja;rw[if_pos hja]at hx';exact(hr j c' x' hj hx').mono (hx.mem p)
      ·cases hj
     ·rw[zu _ _ ki]at ho;by_cases kd:k=id
      ·subst kd;rw[zX]at ho;cases ho
      ·rw[zu _ _ kd]at ho;obtain⟨g1,u,g2,g3⟩:=h.obj k o ho;refine⟨.inl g1,u,by rw[hob',zu _ _ ki,zu _ _ kd];exact g2,g3.ext hx (fun _ _=>rfl)⟩
    ·rcases obs k u n g1 with⟨rfl,rfl,rfl⟩|⟨a1,a2,a3⟩<;>rcases obs k' u' n' g2 with⟨rfl,rfl,rfl⟩|⟨b1,b2,b3⟩
     ·exact absurd rfl hne
     ·exact h.sep id k' _ u' _ n' b (Ne.symm b2) e1 b3 (hblk b hb) hb'
     ·exact h.sep k id u _ n _ b a2 a3 e1 hb (hblk b hb')
     ·exact h.sep k k' u u' n n' b hne a3 b3 hb hb'
    ·rcases obs k u n g1 with⟨rfl,rfl,rfl⟩|⟨-,-,g3⟩
     ·exact h.new id _ _ b e1 (hblk b hb) hlt
     ·exact h.new k u n b g3 hb hlt
    ·refine .own v' i _ ?_ (.inr rfl) (fun u n hu'=>?_)
     ·rcases hown.2 with⟨rfl,-⟩|⟨g,cap,cur,rfl,-⟩<;>rfl
     ·have hu':ob' i=some (u,n):=hu';rw[hi_ob]at hu';simp only[Qx,Qk]at hu';obtain⟨rfl,rfl⟩:=hu';exact⟨by rw[hnm];exact Qy _,fun _=>rfl⟩
   ·cases he
  ·rename_i e e' z p cs q k l hel hH;have hu:=zAv hel;split at he
   ·rename_i s hs;simp only[Qx,Qk,Qz,decide_eq_true_eq]at he;obtain⟨⟨⟨⟨h1,h2⟩,h3⟩,h4⟩,rfl⟩:=he;subst h2;obtain⟨e1,e2⟩:=h.own hv hH h1;obtain⟨-,u,e3,hz,hl,m,vs,how,hlen,hr⟩:=h.obj id _ hH;rw[e1]at e3;simp only[Qx,Qk]at e3;obtain⟨rfl,-⟩:=e3;obtain⟨a,ha⟩: ∃a,a=l.toNat:=⟨_,rfl⟩;rw[←ha]at h4 ⊢;have hm:cs.length/z=m:=by
     have h5:vs.length=m*z:=how.1;rw[←hlen,h5,Nat.mul_div_cancel _ hz]
    have ham:a<=m:=by
     rw[←hm];exact(Nat.le_div_iff_mul_le hz).2 h4
    have hhin2:hi=none:=by
     cases hi with
     |none=>rfl
     |some y=>obtain⟨x,hx,-⟩:=hhi y rfl;cases hx
    obtain⟨kk,rfl⟩: ∃kk,lo=some (.int kk l):=by
     cases lo with
     |none=>have:=hlon rfl;cases this
     |some y=>
      obtain⟨x,hx,hy⟩:=hlo y rfl;injection hx with hx;subst hx;exact⟨_,by rw[hy.int]⟩
    subst hhin2;have sub: ∀(v':Value),v'.oneCell'=true->(∃cap,m-a<=cap/\cap<=9223372036854775807/\((v'= .slice none 0 0/\m-a=0)\/ ∃b o,blk v=some b/\v'= .slice (some ⟨b,o,none⟩) (m-a) cap/\(m-a=0\/o=a*z)))->(Instr.sliceAt t v (some (.int kk l)) none none).run P w= .ok v' w->Good w0 V S0 U ob w i H (.sub id (a*z) (cs.length/z-a) c) ((Instr.sliceAt t v (some (.int kk l)) none none>>=fun v=>pure (.value v):Sem Next).run P w):=fun v' g1 g2 hrun=>by
     simp only[Sem.run_bind,hrun,Result.andThen_ok,Sem.run_pure];refine Good.pure h (.sub v' id (a*z) _ c g1 e2 (fun u n hu'=>?_));have hu':ob id=some (u,n):=hu';rw[e1]at hu';simp only[Qx,Qk]at hu';obtain⟨rfl,rfl⟩:=hu';exact⟨Qy _,fun _=>by rw[hm];exact g2⟩
    rcases how.2 with⟨rfl,hvs⟩|⟨g,cap,cur,rfl,h0,hg,hnc,hcm,hcs,htake⟩
    ·have hm0:m=0:=by
      have h5:=how.1;rw[hvs]at h5;simp at h5;rcases h5 with h5|h5<;>omega
     have ha0:a=0:=by omega
     have hb:=zAP (P:=P) (w:=w) (isSlice:=true) (len:=0) (cap:=0) (lo:=some (.int kk l)) (hi:=none) (l:=some l) (h:=none) (kl:=kk) (kh:=.i64) rfl rfl (by simpa using h3) (by simp;omega) (by simp);refine sub (.slice none 0 0) rfl ⟨0,by omega,by omega,.inl ⟨rfl,by omega⟩⟩ ?_;simp only[Option.getD_none,Qd,←ha,ha0]at hb;simp[Instr.sliceAt,Instr.slice,run_underlying hu,Sem.run_bind,hb,zt hs]
    ·have hb:=zAP (P:=P) (w:=w) (isSlice:=true) (len:=m) (cap:=cap) (lo:=some (.int kk l)) (hi:=none) (l:=some l) (h:=none) (kl:=kk) (kh:=.i64) rfl rfl (by simpa using h3) (by simp;omega) (by simpa using hnc);simp only[Option.getD_none,Qd,←ha]at hb;have hmt:((m:Nat):Int).toNat=m:=by omega
     rw[hmt]at hb;have hcm2:cap<=9223372036854775807:=by simpa[maxLen]using hcm
     by_cases hca:cap=a
     ·refine sub (.slice (some ⟨g,0,none⟩) (m-a) (cap-a)) rfl ⟨cap-a,by omega,by omega,.inr ⟨g,0,rfl,rfl,.inl (by omega)⟩⟩ ?_;rw[hca]at hb ⊢;simp[Instr.sliceAt,Instr.slice,run_underlying hu,Sem.run_bind,hb,zt hs]
     ·refine sub (.slice (some ⟨g,a*z,none⟩) (m-a) (cap-a)) rfl ⟨cap-a,by omega,by omega,.inr ⟨g,a*z,rfl,rfl,.inr rfl⟩⟩ ?_;simp[Instr.sliceAt,Instr.slice,run_underlying hu,Sem.run_bind,hb,zt hs,hca,zAl]
   ·cases he
  ·cases he
 ·obtain⟨y,g1,g2,g3,g4⟩:=ok_slice (w:=w) he rfl hv hlo hlon hhi hhin;simp only[Sem.run_bind,g1,Result.andThen_ok,Sem.run_pure];have:eff.heap H=H:=by unfold Eff.heap;rw[g3,g4];rfl
  rw[this];exact Good.pure h g2
end
def zVT(k:IntKind)(x y:Int):Int:=k.wrap ((BitVec.ofInt k.bits x&&&BitVec.ofInt k.bits y).toNat:Int)
def orI(k:IntKind)(x y:Int):Int:=k.wrap ((BitVec.ofInt k.bits x|||BitVec.ofInt k.bits y).toNat:Int)
def zOO(k:IntKind)(x y:Int):Int:=k.wrap ((BitVec.ofInt k.bits x&&& ~~~ BitVec.ofInt k.bits y).toNat:Int)
def zTw(k:IntKind)(x y:Int):Int:=k.wrap (x*2^(min y.toNat k.bits))
def zOq(k:IntKind)(x y:Int):Int:=x.fdiv (2^(min y.toNat k.bits))
@[simp] theorem zVO(k:IntKind)(x:Int):zOq k x 1=x/2:=by
 have hb:min (1:Int).toNat k.bits=1:=by cases k<;>rfl
 unfold zOq;rw[hb];exact Int.fdiv_eq_ediv_of_nonneg x (by decide)
@[simp] theorem zTj(a:Int):zVT .i64 a 1=a%2:=by
 have h1:(BitVec.ofInt 64 1).toNat=1:=by decide
 show IntKind.i64.wrap ((BitVec.ofInt 64 a&&&BitVec.ofInt 64 1).toNat:Int)=a%2;rw[BitVec.toNat_and,h1,Nat.and_one_is_mod,BitVec.toNat_ofInt,IntKind.wrap_i64];omega
def iB(op:BinOp)(k:IntKind)(x y:Int):Option (Bool×T):=
 match op with
 | .add=>some (true,.int k (k.wrap (x+y)))
 | .sub=>some (true,.int k (k.wrap (x-y)))
 | .mul=>some (true,.int k (k.wrap (x*y)))
 | .quo=>some (decide (y≠0),.int k (k.wrap (x.tdiv y)))
 | .rem=>some (decide (y≠0),.int k (x.tmod y))
 | .eql=>some (true,.bool (x==y))
 | .neq=>some (true,.bool (x !=y))
 | .lss=>some (true,.bool (decide (x<y)))
 | .leq=>some (true,.bool (decide (x<=y)))
 | .gtr=>some (true,.bool (decide (x>y)))
 | .geq=>some (true,.bool (decide (x≥y)))
 | .and=>some (true,.int k (zVT k x y))
 | .or=>some (true,.int k (orI k x y))
 | .andNot=>some (true,.int k (zOO k x y))
 | .shl=>some (decide (0<=y),.int k (zTw k x y))
 | .shr=>some (decide (0<=y),.int k (zOq k x y))
 |_=>none
@[simp] def iC(op:BinOp)(k:IntKind)(x y:Int):Option (Bool×Eff):=
 match op with
 | .shr=>some (decide (0<=y),{ val:=.t 2 (.int k (zOq k x y)) })
 | .shl=>some (decide (0<=y),{ val:=.t 2 (.int k (zTw k x y)) })
 |_=>none
def sB(op:BinOp)(x y:ByteArray):Option (Bool×T):=
 match op with
 | .add=>some (decide (x.size+y.size<=9223372036854775807),.str (x++y))
 | .eql=>some (true,.bool (x.toList==y.toList))
 | .neq=>some (true,.bool !(x.toList==y.toList))
 | .lss=>some (true,.bool (Op.bytesLess x.toList y.toList))
 |_=>none
def boolB(P:Program)(t:TypeId):Bool:=match P.underlying t with|some .bool=>true|_=>false
def aBin(P:Program)(op:BinOp)(t:TypeId)(x y:AV):Option (Bool×Eff):=
 match x,y with
 | .t _ (.int k a),.t _ (.int k' b)=>if k=k' then(iB op k a b).map fun(c,r)=>(c,{ val:=.t 2 r })else iC op k a b
 | .t _ (.str a),.t _ (.str b)=>(sB op a b).map fun(c,r)=>(c,{ val:=.t 2 r })
 | .t _ (.bool a),.t _ (.bool b)=>if boolB P t then match op with
   | .eql=>some (true,{ val:=.t 2 (.bool (a==b)) })
   | .neq=>some (true,{ val:=.t 2 (.bool !(a==b)) })
   |_=>none
  else none
 | .t _ (.sl z cs),.t _ (.sl 0 [])=>if(elOf P t).isSome then match op with
   | .eql=>some (decide (0<cs.length)||decide (z=0),{ val:=.t 2 (.bool (decide (cs.length=0))) })
   | .neq=>some (decide (0<cs.length)||decide (z=0),{ val:=.t 2 (.bool (decide (0<cs.length))) })
   |_=>none
  else none
 |_,_=>none
def aUn(op:UnOp)(x:AV):Option (Bool×Eff):=
 match op,x with
 | .neg,.t _ (.int k n)=>some (true,{ val:=.t 2 (.int k (k.wrap (0-n))) })
 | .not,.t _ (.bool b)=>some (true,{ val:=.t 2 (.bool !b) })
 |_,_=>none
def intB(P:Program)(t:TypeId):Option IntKind:=match P.underlying t with|some (.int k)=>some k|_=>none
def isU8:T->Bool
 | .int .u8 _=>true
 |_=>false
def u8n:T->Int
 | .int _ n=>n
 |_=>0
def zBa(cs:List T):ByteArray:=cs.foldl (fun r c=>r.push (UInt8.ofNat (u8n c).toNat)) ByteArray.empty
def aConv(P:Program)(src dst:TypeId)(x:AV)(H:Nat->Option AObj):Option (Bool×Eff):=
 match x with
 | .t _ (.int _ n)=>match intB P src,intB P dst with
  |some _,some k=>some (true,{ val:=.t 2 (.int k (k.wrap n)) })
  |some _,none=>if strB P dst then some (true,{ val:=.t 2 (.str (Utf8.encode n)) })else none
  |_,_=>none
 | .t _ (.str s)=>if strB P src&&strB P dst then some (true,{ val:=.t 2 (.str s) })else none
 | .t _ (.sl z cs)=>match elOf P src with
  |some e=>if intB P e=some .u8&&strB P dst then some (cs.all isU8&&decide (z<=1),{ val:=.t 2 (.str (zBa cs)) })else none
  |none=>none
 | .own id c=>match elOf P src,H id with
  |some e,some (.row _ z _ cs)=>if intB P e=some .u8&&strB P dst then some (decide (cs.length=c)&&cs.all isU8&&decide (z<=1),{ val:=.t 2 (.str (zBa cs)),tch:=[id] })else none
  |_,_=>none
 |_=>none
theorem zA4{P:Program}{t:TypeId}(h:strB P t=true):P.underlying t=some .string:=by
 unfold strB at h;split at h
 ·assumption
 ·cases h
theorem zAb{P:Program}{t:TypeId}{k:IntKind}(h:intB P t=some k):P.underlying t=some (.int k):=by
 unfold intB at h;split at h
 ·rename_i k' h1;injection h with h;rw[h1,h]
 ·cases h
theorem zPh{P:Program}{t:TypeId}(h:boolB P t=true):P.underlying t=some .bool:=by
 unfold boolB at h;split at h
 ·assumption
 ·cases h
theorem zFB{cs:List T}{vs:List Value}{m:Mem}(hl:vs.length=cs.length)(ha:cs.all isU8=true)(hr: ∀(i:Nat) c x,cs[i]? =some c->vs[i]? =some x->Rep m x c):vs=(cs.map u8n).map (Value.int .u8):=by
 apply List.ext_getElem?;intro i;by_cases hi:i<cs.length
 ·have h1:=hr i cs[i] (vs[i]'(by omega)) (by simp) (by simp);have h2:=List.all_eq_true.1 ha cs[i] (by simp);have h3:vs[i]'(by omega)= .int .u8 (u8n cs[i]):=by
   generalize cs[i]=c at*
   generalize vs[i]'(by omega)=v at*
   cases h1 with
   |int k n=>cases k<;>simp[isU8]at h2<;>rfl
   |_=>simp[isU8]at h2
  simp[hi,hl,h3]
 ·simp[hi,hl]
theorem zHL{P:Program}{w:World}{src dst e:TypeId}(h1:elOf P src=some e)(h2:intB P e=some .u8)(h3:strB P dst=true){b o n cap:Nat}{cs:List T}{vs:List Value}(hv:vs=(cs.map u8n).map (Value.int .u8))(hn:vs.length=n)(hc: ∀i v,vs[i]? =some v->w.cell? ⟨b,o+i,none⟩=some v):
  (convert src dst (.slice (some ⟨b,o,none⟩) n cap)).run P w= .ok (.string (zBa cs)) w:=by
 rw[run_convert_bytes_string w src dst e (some ⟨b,o,none⟩) n cap (zAv h1) (zAb h2) (zA4 h3),run_bytesToString w ⟨b,o,none⟩ n cap (cs.map u8n) (by rw[←hv];exact zDb hn hc)];unfold zBa;rw[List.foldl_map]
theorem zIa{P:Program}{w:World}{t:TypeId}(h:P.underlying t=some .bool)(a b:Bool):(Op.equal t (.bool a) (.bool b)).run P w= .ok (a==b) w:=by
 have e:Op.maxDepth=9999+1:=rfl;unfold Op.equal;rw[e,Op.equalIn,Sem.run_bind,run_underlying h];rfl
section
variable{w0 w:World}{V S0 U:Nat->Prop}{H:Nat->Option AObj}{ob:Nat->Option (Value×Nat)}{i:Nat}{P:Program}
theorem zTd{op:BinOp}{t:TypeId}{xo yo:Operand}{v u:Value}{x y:AV}{eff:Eff}{c:Bool}(he:aBin P op t x y=some (c,eff))(hc:c=true){E:Ev}(hv:VR E v x)(hu:VR E u y):
  ∃z,(do eqGuard op t xo yo v u;binOp op t v u:Sem Value).run P w= .ok z w/\VR E z eff.val/\eff.new=none/\eff.del=[]:=by
 subst hc;unfold aBin at he;split at he
 ·rename_i p k a q k' b;obtain rfl:=hv.int;obtain rfl:=hu.int;split at he
  ·rename_i hk;subst hk
   cases op with
   |quo=>simp[iB]at he;obtain⟨h0,rfl⟩:=he;exact⟨_,by simp[eqGuard,binOp,Op.intDiv,h0],.mkInt _ _ _ _,rfl,rfl⟩
   |rem=>simp[iB]at he;obtain⟨h0,rfl⟩:=he;exact⟨_,by simp[eqGuard,binOp,Op.intDiv,h0],.mkInt _ _ _ _,rfl,rfl⟩
   |add=>simp[iB]at he;subst he;exact⟨_,by simp[eqGuard,binOp,Op.intArith],.mkInt _ _ _ _,rfl,rfl⟩
   |sub=>simp[iB]at he;subst he;exact⟨_,by simp[eqGuard,binOp,Op.intArith],.mkInt _ _ _ _,rfl,rfl⟩
   |mul=>simp[iB]at he;subst he;exact⟨_,by simp[eqGuard,binOp,Op.intArith],.mkInt _ _ _ _,rfl,rfl⟩
   |eql=>simp[iB]at he;subst he;exact⟨_,by simp[eqGuard,binOp,Op.intCmp],.zAR _ _ _,rfl,rfl⟩
   |neq=>simp[iB]at he;subst he;exact⟨_,by simp[eqGuard,binOp,Op.intCmp],.zAR _ _ _,rfl,rfl⟩
   |lss=>simp[iB]at he;subst he;exact⟨_,by simp[eqGuard,binOp,Op.intCmp],.zAR _ _ _,rfl,rfl⟩
   |leq=>simp[iB]at he;subst he;exact⟨_,by simp[eqGuard,binOp,Op.intCmp],.zAR _ _ _,rfl,rfl⟩
   |gtr=>simp[iB]at he;subst he;exact⟨_,by simp[eqGuard,binOp,Op.intCmp],.zAR _ _ _,rfl,rfl⟩
   |geq=>simp[iB]at he;subst he;exact⟨_,by simp[eqGuard,binOp,Op.intCmp],.zAR _ _ _,rfl,rfl⟩
   |and=>simp[iB]at he;subst he;exact⟨_,by simp[eqGuard,binOp,Op.intBits,zVT],.mkInt _ _ _ _,rfl,rfl⟩
   |andNot=>simp[iB]at he;subst he;exact⟨_,by simp[eqGuard,binOp,Op.intBits,zOO],.mkInt _ _ _ _,rfl,rfl⟩
   |or=>simp[iB]at he;subst he;exact⟨_,by simp[eqGuard,binOp,Op.intBits,orI],.mkInt _ _ _ _,rfl,rfl⟩
   |shl=>simp[iB]at he;obtain⟨h0,rfl⟩:=he;exact⟨_,by simp[eqGuard,binOp,Op.shift,Int.not_lt.2 h0,zTw],.mkInt _ _ _ _,rfl,rfl⟩
   |shr=>simp[iB]at he;obtain⟨h0,rfl⟩:=he;exact⟨_,by simp[eqGuard,binOp,Op.shift,Int.not_lt.2 h0,zOq],.mkInt _ _ _ _,rfl,rfl⟩
   |_=>simp[iB]at he
  ·rename_i hk
   cases op with
   |shl=>simp[iC]at he;obtain⟨h0,rfl⟩:=he;exact⟨_,by simp[eqGuard,binOp,Op.shift,Int.not_lt.2 h0,zTw],.mkInt _ _ _ _,rfl,rfl⟩
   |shr=>simp[iC]at he;obtain⟨h0,rfl⟩:=he;exact⟨_,by simp[eqGuard,binOp,Op.shift,Int.not_lt.2 h0,zOq],.mkInt _ _ _ _,rfl,rfl⟩
   |_=>simp[iC]at he
 ·rename_i p a q b;obtain rfl:=hv.str;obtain rfl:=hu.str
  cases op with
  |add=>
   simp only[sB,Qg,Qx,Qk,decide_eq_true_eq]at he;obtain⟨h0,rfl⟩:=he;have h1: ¬((a.size+b.size:Nat):Int)>IntKind.i64.max:=by
    have:IntKind.i64.max=9223372036854775807:=rfl;omega
   exact⟨_,by simp only[eqGuard,binOp,Op.stringOp,if_neg h1];simp,.mkStr _ _ _,rfl,rfl⟩
  |eql=>simp[sB]at he;subst he;exact⟨_,by simp[eqGuard,binOp,Op.stringOp],.zAR _ _ _,rfl,rfl⟩
  |neq=>simp[sB]at he;subst he;exact⟨_,by simp[eqGuard,binOp,Op.stringOp],.zAR _ _ _,rfl,rfl⟩
  |lss=>simp[sB]at he;subst he;exact⟨_,by simp[eqGuard,binOp,Op.stringOp],.zAR _ _ _,rfl,rfl⟩
  |_=>simp[sB]at he
 ·rename_i p a q b;obtain rfl:=hv.bool;obtain rfl:=hu.bool;split at he
  ·rename_i hb;have hub:=zPh hb;have hrun:=zIa (w:=w) hub a b
   cases op with
   |eql=>simp at he;subst he;exact⟨.bool (a==b),by simp[eqGuard,binOp,hrun],.zAR _ _ _,rfl,rfl⟩
   |neq=>simp at he;subst he;exact⟨.bool !(a==b),by simp[eqGuard,binOp,hrun],.zAR _ _ _,rfl,rfl⟩
   |_=>simp at he
  ·cases he
 ·rename_i p z cs q;have hu0:u= .slice none 0 0:=by
   have hrep:=hu.rep
   cases hrep with
   |nil z=>rfl
   |emp a z hz=>omega
   |sl b o n cap z cs vs hz=>omega
  subst hu0;split at he
  ·rename_i hel;obtain⟨e,hel⟩:=Option.isSome_iff_exists.1 hel;have hut:=zAv hel;obtain⟨a,n,cap,rfl,hb⟩: ∃a n cap,v= .slice a n cap/\(0<cs.length\/z=0->a.isNone=decide (cs.length=0)):=by
    have hrep:=hv.rep
    cases hrep with
    |nil z=>exact⟨none,0,0,rfl,fun _=>rfl⟩
    |emp a z hz=>exact⟨_,0,0,rfl,fun h=>by simp at h;omega⟩
    |sl b o n cap z cs vs hz hn=>exact⟨_,n,cap,rfl,fun h=>by
      have:cs.length≠0:=by omega
      simpa using this⟩
   have hrun:(Op.equal t (.slice a n cap) (.slice none 0 0)).run P w= .ok a.isNone w:=by
    cases a with
    |none=>rw[Op.equal,show Op.maxDepth=9999+1 from rfl,Op.equalIn];simp[run_underlying hut]
    |some a=>rw[Op.equal,show Op.maxDepth=9999+1 from rfl,Op.equalIn];simp[run_underlying hut]
   cases op with
   |eql=>
    simp only[Qx,Qk,Bool.or_eq_true,decide_eq_true_eq]at he;obtain⟨h0,rfl⟩:=he;refine⟨.bool a.isNone,by simp[eqGuard,binOp,hrun],?_,rfl,rfl⟩;rw[hb h0];exact .zAR _ _ _
   |neq=>
    simp only[Qx,Qk,Bool.or_eq_true,decide_eq_true_eq]at he;obtain⟨h0,rfl⟩:=he;refine⟨.bool !a.isNone,by simp[eqGuard,binOp,hrun],?_,rfl,rfl⟩;rw[hb h0,show(!decide (cs.length=0))=decide (0<cs.length) by
     by_cases h:cs.length=0
     ·simp[h]
     ·have:0<cs.length:=by omega
      simp[h,this]]
    exact .zAR _ _ _
   |_=>simp at he
  ·cases he
 ·cases he
theorem zUc{op:UnOp}{v:Value}{x:AV}{eff:Eff}{c:Bool}(he:aUn op x=some (c,eff))(hc:c=true){E:Ev}(hv:VR E v x):
  ∃z,(Op.unary op v).run P w= .ok z w/\VR E z eff.val/\eff.new=none/\eff.del=[]:=by
 subst hc;unfold aUn at he;split at he
 ·obtain rfl:=hv.int;simp only[Qx,Qk,true_and]at he;subst he;exact⟨_,by simp[Op.unary,Op.intArith],.mkInt _ _ _ _,rfl,rfl⟩
 ·obtain rfl:=hv.bool;simp only[Qx,Qk,true_and]at he;subst he;exact⟨_,by simp[Op.unary],.zAR _ _ _,rfl,rfl⟩
 ·cases he
theorem zR2{src dst:TypeId}{v:Value}{x:AV}{eff:Eff}{c:Bool}(he:aConv P src dst x H=some (c,eff))(hc:c=true)(h:MR w0 V S0 U H ob w)(hv:VR (zV w0.heap.size V ob U w) v x):
  ∃y,(convert src dst v).run P w= .ok y w/\VR (zV w0.heap.size V ob U w) y eff.val/\eff.new=none/\eff.del=[]:=by
 subst hc;unfold aConv at he;split at he
 ·obtain rfl:=hv.int;split at he
  ·rename_i k' k h1 h2;simp only[Qx,Qk,true_and]at he;subst he;exact⟨_,by simp[convert,run_underlying (zAb h1),run_underlying (zAb h2),Sem.run_bind,Conv.intToInt],.mkInt _ _ _ _,rfl,rfl⟩
  ·rename_i k' h1 h2;split at he
   ·rename_i hb;simp only[Qx,Qk,true_and]at he;subst he;exact⟨_,run_convert_int_string w src dst _ _ (by rw[zAb h1];rfl) (zA4 hb),.mkStr _ _ _,rfl,rfl⟩
   ·cases he
  ·cases he
 ·rename_i p s;obtain rfl:=hv.str;split at he
  ·rename_i hb;simp only[Qz]at hb;simp only[Qx,Qk,true_and]at he;subst he;exact⟨_,by simp[convert,run_underlying (zA4 hb.1),run_underlying (zA4 hb.2),Sem.run_bind],.mkStr _ _ _,rfl,rfl⟩
  ·cases he
 ·rename_i p z cs;split at he
  ·rename_i e hel;split at he
   ·rename_i hb;simp only[Qz,decide_eq_true_eq]at hb;simp only[Qx,Qk,Qz,decide_eq_true_eq]at he;obtain⟨⟨h1,h2⟩,rfl⟩:=he;have hrep:=hv.rep
    cases hrep with
    |nil z=>exact⟨_,by rw[run_convert_bytes_string w src dst e none 0 0 (zAv hel) (zAb hb.1) (zA4 hb.2)];simp[Conv.bytesToString];rfl,.mkStr _ _ _,rfl,rfl⟩
    |emp ad z hz=>exact⟨_,by rw[run_convert_bytes_string w src dst e (some ad) 0 0 (zAv hel) (zAb hb.1) (zA4 hb.2)];simp[Conv.bytesToString];rfl,.mkStr _ _ _,rfl,rfl⟩
    |sl b o n cap z cs vs hz hn h4 h5 hcc hrr=>
     obtain rfl:z=1:=by omega
     have hvs:(List.range n).map vs=(cs.map u8n).map (Value.int .u8):=zFB (m:=(zV w0.heap.size V ob U w).mem p) (by simp[hn]) h1 (fun i c x hi hx=>by
      have hlt:i<n:=by have:=(Qq.1 hi).1;omega
      simp[hlt]at hx;rw[←hx];exact hrr i c hi)
     refine⟨_,zHL hel hb.1 hb.2 hvs (by simp) (fun i v hi=>?_),.mkStr _ _ _,rfl,rfl⟩;have hlt:i<n:=by have:=(Qq.1 hi).1;simpa using this
     simp[hlt]at hi;rw[←hi];exact zCh (hcc i (cs[i]'(by omega)) (by simp))
   ·cases he
  ·cases he
 ·rename_i id c;split at he
  ·rename_i e e' z p cs hel hH;split at he
   ·rename_i hb;simp only[Qz,decide_eq_true_eq]at hb;simp only[Qx,Qk,Qz,decide_eq_true_eq]at he;obtain⟨⟨⟨h1,h2⟩,h3⟩,rfl⟩:=he;obtain⟨e1,e2⟩:=h.own hv hH h1;obtain⟨-,u,e3,hz,hl,m,vs,how,hlen,hr⟩:=h.obj id _ hH;rw[e1]at e3;simp only[Qx,Qk]at e3;obtain⟨rfl,-⟩:=e3;obtain rfl:z=1:=by omega
    have hvs:=zFB hlen h2 hr;rcases how.2 with⟨rfl,rfl⟩|⟨g,cap,cur,rfl,-,hg,hnc,hcm,hcs,htake⟩
    ·have:cs=[]:=by
      have:=how.1;rw[hlen]at this;exact List.eq_nil_of_length_eq_zero (by omega)
     subst this;exact⟨_,by rw[run_convert_bytes_string w src dst e none 0 0 (zAv hel) (zAb hb.1) (zA4 hb.2)];simp[Conv.bytesToString];rfl,.mkStr _ _ _,rfl,rfl⟩
    ·refine⟨_,zHL hel hb.1 hb.2 hvs (by have:=how.1;omega) (fun i v hi=>?_),.mkStr _ _ _,rfl,rfl⟩;have:=how.cells (g:=g) rfl i v hi;rw[Addr.add_lit]at this;simpa using this
   ·cases he
  ·cases he
 ·cases he
end
def AV.leaf:AV->Bool
 | .t _ _| .own _ _| .ptr _ _ _| .sub _ _ _ _| .pt _ _| .fn _ _=>true
 |_=>false
theorem VR.zSW{E:Ev}{v:Value}{a:AV}(h:VR E v a)(ha:a.leaf=true):v.oneCell'=true:=by
 cases h with
 |t v p x h=>exact h.one
 |own v id c h1=>exact h1
 |ptr v id off c h1=>exact h1
 |sub v id off l c h1=>exact h1
 |pt=>rfl
 |fn=>rfl
 |_=>simp[AV.leaf]at ha
theorem zNW{v:Value}(h:v.oneCell'=true):v.cells= #[v]:=by cases v<;>first|rfl|simp[Value.oneCell']at h
def avCells(a:AV):Option (List AV):=match a with
 | .agg cs=>some cs
 |a=>if a.leaf then some [a]else none
theorem VR.cells{E:Ev}{v:Value}{a:AV}{cs:List AV}(h:VR E v a)(hc:avCells a=some cs):v.cells.size=cs.length/\(∀x,x∈v.cells->x.oneCell'=true)/\ ∀(j:Nat) c,cs[j]? =some c->VR E (v.cells.getD j undef) c:=by
 unfold avCells at hc;split at hc
 ·rename_i cs';injection hc with hc;subst hc
  cases h with
  |agg vs cs hn h1 hr=>exact⟨hn,h1,hr⟩
 ·rename_i hna;split at hc
  ·rename_i hl;injection hc with hc;subst hc;have h1:=h.zSW hl;rw[zNW h1];refine⟨rfl,fun x hx=>?_,fun j c hj=>?_⟩
   ·simp at hx;rw[hx];exact h1
   ·cases j with
    |zero=>simp at hj;subst hj;exact h
    |succ j=>simp at hj
  ·cases hc
theorem VR.zVD{E:Ev}{vs:Array Value}{cs:List AV}(hn:vs.size=cs.length)(h1: ∀x,x∈vs->x.oneCell'=true)(hr: ∀(j:Nat) c,cs[j]? =some c->VR E (vs.getD j undef) c):VR E (.agg vs) (.agg cs):=.agg vs cs hn h1 hr
section
variable{w0 w:World}{V S0 U:Nat->Prop}{H:Nat->Option AObj}{ob:Nat->Option (Value×Nat)}{i:Nat}{P:Program}
theorem MR.free(h:MR w0 V S0 U H ob w)(hi: ¬U i):ob i=none:=by
 cases ho:ob i with
 |none=>rfl
 |some p=>
  obtain⟨o,h1,-⟩:=h.live i p.1 p.2 (by rw[ho]);exact absurd (h.obj i o h1).1 hi
theorem Good.box(h:MR w0 V S0 U H ob w)(hi: ¬U i){ty:TypeId}{vs:Array Value}{cs:List AV}(hv:VR (zV w0.heap.size V ob U w) (.agg vs) (.agg cs)):
  Good w0 V S0 U ob w i (upd H i (some (.box ty cs))) (.ptr i 0 cs.length) (.ok (.value (.pointer (some ⟨w.heap.size,0,none⟩))) (w.alloc (.cells vs ty))):=by
 have hf:=h.free hi;refine Good.step h (.inl rfl) i (.pointer (some ⟨w.heap.size,0,none⟩)) (.box ty cs) (Onl.alloc _ _ _) (fun hU=>absurd hU hi) (fun k hk=>.inr ?_) (.inl rfl) (fun hx=>⟨w.heap.size,vs,rfl,heap_alloc_new w _,hv.ext hx⟩) (fun hx=>.ptr _ i 0 _ rfl (.inr rfl) (fun u n hu=>?_))
 ·obtain rfl:w.heap.size=k:=by simpa[blk]using hk
  exact Qy _
 ·have hu:upd ob i (some (.pointer (some ⟨w.heap.size,0,none⟩),(AObj.box ty cs).cnt)) i=some (u,n):=hu;rw[zX]at hu;simp only[Qx,Qk]at hu;obtain⟨rfl,rfl⟩:=hu;exact⟨Qy _,fun _=>⟨_,rfl,rfl⟩⟩
theorem Good.row(h:MR w0 V S0 U H ob w)(hi: ¬U i){e z p n cap:Nat}{vs:List Value}{cs:List T}{u:Value}{w':World}(hz:0<z)(ho:Onl (fun _=>False) w w')(hown:w'.ownsRow 0 e z u n vs)(hlen:vs.length=cs.length)(hblk: ∀k,blk u=some k->w.heap.size<=k)(hr: ∀(j:Nat) c x,cs[j]? =some c->vs[j]? =some x->Rep ((zV w0.heap.size V ob U w).mem p) x c):
  Good w0 V S0 U ob w i (upd H i (some (.row e z p cs))) (.own i cs.length) (.ok (.value u) w'):=by
 have hf:=h.free hi;have hs:=h.only.size;refine Good.step h (.inl rfl) i u (.row e z p cs) (ho.mono (fun _ _ h=>h.elim)) (fun hU=>absurd hU hi) (fun k hk=>.inr (hblk k hk)) (.inl rfl) (fun hx=>⟨hz,fun k hk=>.inl (by have:=hblk k hk;omega),n,vs,hown,hlen,fun j c x hj hxx=>(hr j c x hj hxx).mono (hx.mem p)⟩) (fun hx=>.own _ i _ ?_ (.inr rfl) (fun u' n' hu=>?_))
 ·rcases hown.2 with⟨rfl,-⟩|⟨g,cap,cur,rfl,-⟩<;>rfl
 ·have hu:upd ob i (some (u,(AObj.row e z p cs).cnt)) i=some (u',n'):=hu;rw[zX]at hu;simp only[Qx,Qk]at hu;obtain⟨rfl,rfl⟩:=hu;exact⟨Qy _,fun _=>rfl⟩
theorem Good.vec(h:MR w0 V S0 U H ob w)(hi: ¬U i){e z p n:Nat}{vs:List Value}{cs:List AV}{u:Value}{w':World}(ho:Onl (fun _=>False) w w')(hz:0<z)(hown:w'.ownsRow 0 e z u n vs)(hlen:vs.length=cs.length)(hblk: ∀k,blk u=some k->w.heap.size<=k)(hone: ∀v∈vs,v.oneCell'=true)(hr: ∀(j:Nat) c x,cs[j]? =some c->vs[j]? =some x->VR (zV w0.heap.size V ob U w) x c):
  Good w0 V S0 U ob w i (upd H i (some (.vec e z p cs))) (.own i cs.length) (.ok (.value u) w'):=by
 have hf:=h.free hi;have hs:=h.only.size;refine Good.step h (.inl rfl) i u (.vec e z p cs) (ho.mono (fun _ _ h=>h.elim)) (fun hU=>absurd hU hi) (fun k hk=>.inr (hblk k hk)) (.inl rfl) (fun hx=>⟨hz,fun k hk=>.inl (by have:=hblk k hk;omega),n,vs,hown,hlen,hone,fun j c x hj hxx=>(hr j c x hj hxx).ext hx⟩) (fun hx=>.own _ i _ ?_ (.inr rfl) (fun u' n' hu=>?_))
 ·rcases hown.2 with⟨rfl,-⟩|⟨g,cap,cur,rfl,-⟩<;>rfl
 ·have hu:upd ob i (some (u,(AObj.vec e z p cs).cnt)) i=some (u',n'):=hu;rw[zX]at hu;simp only[Qx,Qk]at hu;obtain⟨rfl,rfl⟩:=hu;exact⟨Qy _,fun _=>rfl⟩
end
def aAlloc(P:Program)(i:Nat)(e:TypeId):Option (Bool×Eff):=match zeroOf P e with
 |some zs=>some (true,{ val:=.ptr i 0 (zs.map (AV.t 2)).length,new:=some (i,.box e (zs.map (.t 2))),tch:=[i] })
 |none=>none
def aBox(i:Nat)(e:TypeId)(x:AV):Option (Bool×Eff):=match avCells x with
 |some cs=>some (true,{ val:=.ptr i 0 cs.length,new:=some (i,.box e cs),tch:=[i] })
 |none=>none
theorem zBU{P:Program}{e:TypeId}{zs:List T}(h:zeroOf P e=some zs): ∃inf v,P.info? e=some inf/\inf.zero=some v/\vTs v.cells.toList=some zs:=by
 unfold zeroOf at h
 cases hi:P.info? e with
 |none=>rw[hi]at h;cases h
 |some inf=>
  rw[hi]at h
  cases hz:inf.zero with
  |none=>simp[hz]at h
  |some v=>simp[hz]at h;exact⟨inf,v,rfl,hz,h⟩
theorem VR.zero{E:Ev}{v:Value}{zs:List T}(h:vTs v.cells.toList=some zs):VR E (.agg v.cells) (.agg (zs.map (.t 2))):=by
 obtain⟨h1,h2⟩:=zEi h;have h3: ∀j c,zs[j]? =some c-> ∃x,v.cells[j]? =some x/\vT x=some c:=fun j c hj=>by
  obtain⟨x,h4,h5⟩:=h2 j c hj;exact⟨x,by simpa using h4,h5⟩
 refine .agg _ _ (by simpa using h1) (fun x hx=>?_) (fun j c hj=>?_)
 ·obtain⟨j,hj,rfl⟩:=Array.getElem_of_mem hx;have hlt:j<zs.length:=by simp at h1;omega
  obtain⟨x,h4,h5⟩:=h3 j zs[j] (by simp);rw[Array.getElem?_eq_getElem hj]at h4;injection h4 with h4;rw[h4];exact(Rep.vT (m:=E.mem 0) h5).one
 ·rw[Qi]at hj
  cases hq:zs[j]? with
  |none=>rw[hq]at hj;cases hj
  |some c0=>
   rw[hq]at hj;simp at hj;subst hj;obtain⟨x,h4,h5⟩:=h3 j c0 hq;have hlt:=(Array.getElem?_eq_some_iff.1 h4);obtain⟨hlt,hx⟩:=hlt;have:v.cells.getD j undef=x:=by simp[Array.getD,hlt,hx]
   rw[this];exact .t _ 2 _ (Rep.vT h5)
section
variable{w0 w:World}{V S0 U:Nat->Prop}{H:Nat->Option AObj}{ob:Nat->Option (Value×Nat)}{i:Nat}{P:Program}
theorem zPL{e:TypeId}{eff:Eff}{c:Bool}(he:aAlloc P i e=some (c,eff))(h:MR w0 V S0 U H ob w)(hi: ¬U i):
  Good w0 V S0 U ob w i (eff.heap H) eff.val ((Instr.alloc e true (.tuple #[])>>=fun v=>pure (.value v):Sem Next).run P w):=by
 unfold aAlloc at he;split at he
 ·rename_i zs hz;simp only[Qx,Qk]at he;obtain⟨-,rfl⟩:=he;obtain⟨inf,v,h1,h2,h3⟩:=zBU hz;have hg:=Good.box h hi (ty:=e) (VR.zero (E:=zV w0.heap.size V ob U w) h3);rw[List.length_map]at hg;simp[Instr.alloc,zeroValue,typeInfo,h1,h2,newVar,newRow];exact hg
 ·cases he
theorem zSu{e:TypeId}{x:AV}{v:Value}{eff:Eff}{c:Bool}(he:aBox i e x=some (c,eff))(h:MR w0 V S0 U H ob w)(hi: ¬U i)(hv:VR (zV w0.heap.size V ob U w) v x):
  Good w0 V S0 U ob w i (eff.heap H) eff.val ((Instr.box e v>>=fun v=>pure (.value v):Sem Next).run P w):=by
 unfold aBox at he;split at he
 ·rename_i cs hc;simp only[Qx,Qk]at he;obtain⟨-,rfl⟩:=he;obtain⟨h1,h2,h3⟩:=hv.cells hc;have hg:=Good.box h hi (ty:=e) (VR.zVD h1 h2 h3);simp[Instr.box,newVar,newRow];exact hg
 ·cases he
end
inductive zEp{α β:Type}(R:α->β->Prop):List α->List β->Prop where
 |nil:zEp R [] []
 |cons {a:α} {b:β} {l:List α} {k:List β} (h:R a b) (t:zEp R l k):zEp R (a::l) (b::k)
def zUU(cs:List AV)(off:Nat)(xs:List AV):List AV:=xs.zipIdx.foldl (fun cs p=>cs.set (off+p.2) p.1) cs
def afill(place:Nat->Option (Nat×Nat))(cs:List AV):List (Nat×AV)->Option (List AV)
 |[]=>some cs
 |(i,x)::r=>match place i,avCells x with
  |some (off,sz),some xs=>if xs.length=sz/\off+xs.length<=cs.length then afill place (zUU cs off xs) r else none
  |_,_=>none
theorem VR.set{E:Ev}{vs:Array Value}{cs:List AV}(h:VR E (.agg vs) (.agg cs)){v:Value}{c:AV}(hv:VR E v c)(h1:v.oneCell'=true)(k:Nat):VR E (.agg (vs.setIfInBounds k v)) (.agg (cs.set k c)):=by
 cases h with
 |agg vs cs hn hone hr=>
  refine .agg _ _ (by simpa using hn) (fun x hx=>?_) (fun j d hj=>?_)
  ·rcases Array.mem_or_eq_of_mem_setIfInBounds hx with h2|h2
   ·exact hone x h2
   ·rw[h2];exact h1
  ·rw[List.getElem?_set]at hj;by_cases e:k=j
   ·subst e;rw[if_pos rfl]at hj;by_cases hlt:k<cs.length
    ·rw[if_pos hlt]at hj;injection hj with hj;subst hj;have:k<vs.size:=by omega
     simpa[Array.getD,this]using hv
    ·rw[if_neg hlt]at hj;cases hj
   ·rw[if_neg e]at hj;have:=hr j d hj;have hlt:j<vs.size:=by rw[hn];exact(Qq.1 hj).1
    simp only[Array.getD,hlt,dif_pos]at this;simpa[Array.getD,hlt,Array.getElem_setIfInBounds,e]using this
theorem VR.setMany{E:Ev}(off:Nat): ∀(xs:List Value) (ys:List AV) (k:Nat) (vs:Array Value) (cs:List AV),VR E (.agg vs) (.agg cs)->xs.length=ys.length->(∀(j:Nat) x y,xs[j]? =some x->ys[j]? =some y->VR E x y/\x.oneCell'=true)→
  VR E (.agg ((xs.zipIdx k).foldl (fun cs (p:Value×Nat)=>cs.setIfInBounds (off+p.2) p.1) vs)) (.agg ((ys.zipIdx k).foldl (fun cs p=>cs.set (off+p.2) p.1) cs))
 |[],ys,k,vs,cs,h,hl,_=>by
  have:ys=[]:=List.eq_nil_of_length_eq_zero (by simpa using hl.symm);subst this;exact h
 |x::xs,[],k,vs,cs,h,hl,_=>by simp at hl
 |x::xs,y::ys,k,vs,cs,h,hl,hr=>by
  have h0:=hr 0 x y rfl rfl;simp only[List.zipIdx_cons,List.foldl_cons];exact VR.setMany off xs ys (k+1) _ _ (h.set h0.1 h0.2 (off+k)) (by simpa using hl) (fun j a b ha hb=>hr (j+1) a b (by simpa using ha) (by simpa using hb))
theorem zKK(off:Nat): ∀(ys:List AV) (k:Nat) (cs:List AV),((ys.zipIdx k).foldl (fun cs p=>cs.set (off+p.2) p.1) cs).length=cs.length
 |[],_,_=>rfl
 |y::ys,k,cs=>by simp only[List.zipIdx_cons,List.foldl_cons];rw[zKK off ys];simp
theorem zJl{E:Ev}(place:Nat->Option (Nat×Nat)): ∀(ps:List (Nat×Value)) (qs:List (Nat×AV)) (vs:Array Value) (cs cs':List AV),VR E (.agg vs) (.agg cs)->zEp (fun p q=>p.1=q.1/\VR E p.2 q.2) ps qs->afill place cs qs=some cs'-> ∃vs',Instr.fill place vs ps=some vs'/\VR E (.agg vs') (.agg cs')
 |[],qs,vs,cs,cs',h,hf,ha=>by
  cases hf;simp[afill]at ha;subst ha;exact⟨vs,rfl,h⟩
 |(i,v)::ps,qs,vs,cs,cs',h,hf,ha=>by
  cases hf with
  | @cons _ q _ qs hq hf=>
  obtain⟨i',x⟩:=q;obtain⟨he,hv⟩:=hq;simp only at he hv;subst he;unfold afill at ha;split at ha
  ·rename_i off sz xs hp hx;split at ha
   ·rename_i hc;obtain⟨h1,h2,h3⟩:=hv.cells hx;have hsz:vs.size=cs.length:=by cases h;assumption
    have hnew:=VR.setMany (E:=E) off v.cells.toList xs 0 vs cs h (by simpa using h1) (fun j a b ha hb=>by
     have hlt:=(Qq.1 ha).1;simp at hlt;have h4:=h3 j b hb;have h5:v.cells[j]=a:=by simpa[hlt]using ha
     rw[show v.cells.getD j undef=a by simp[Array.getD,hlt,h5]]at h4;exact⟨h4,h2 a (by rw[←h5];simp)⟩)
    obtain⟨vs',e1,e2⟩:=zJl place ps qs _ _ cs' hnew hf ha;refine⟨vs',?_,e2⟩;unfold Instr.fill;rw[hp];have hcond:(decide (v.cells.size≠sz)||decide (off+v.cells.size>vs.size))=false:=by
     simp only[Bool.or_eq_false_iff,decide_eq_false_iff_not];omega
    simp only[hcond];rw[←e1];congr 1;rw[←Array.foldl_toList];simp
   ·cases ha
  ·cases ha
def plOf(P:Program)(t:TypeId):Option (Nat->Option (Nat×Nat)):=match P.underlying t with
 |some (.struct fs)=>(fs.toList.mapM (fun f=>(P.info? f.type).map fun i=>(f.offset,i.size))).map fun ps=>fun i=>ps[i]?
 |some (.array _ e)=>(P.info? e).map fun ie=>fun i=>some (i*ie.size,ie.size)
 |_=>none
def aBuild(P:Program)(t:TypeId)(parts:List (Nat×AV)):Option (Bool×Eff):=match zeroOf P t,plOf P t with
 |some zs,some pl=>(afill pl (zs.map (.t 2)) parts).map fun cs=>(true,{ val:=.agg cs })
 |_,_=>none
section
variable{w0 w:World}{V S0 U:Nat->Prop}{H:Nat->Option AObj}{ob:Nat->Option (Value×Nat)}{i:Nat}{P:Program}
theorem zPW{t:TypeId}{parts:Array (Nat×Value)}{qs:List (Nat×AV)}{eff:Eff}{c:Bool}(he:aBuild P t qs=some (c,eff)){E:Ev}(hf:zEp (fun p q=>p.1=q.1/\VR E p.2 q.2) parts.toList qs):
  ∃y,(Instr.build t parts).run P w= .ok y w/\VR E y eff.val/\eff.new=none/\eff.del=[]:=by
 unfold aBuild at he;split at he
 ·rename_i zs pl hz hp
  cases ha:afill pl (zs.map (.t 2)) qs with
  |none=>rw[ha]at he;cases he
  |some cs=>
   rw[ha]at he;simp only[Qg,Qx,Qk]at he;obtain⟨-,rfl⟩:=he;obtain⟨inf,v,h1,h2,h3⟩:=zBU hz;obtain⟨vs',e1,e2⟩:=zJl pl parts.toList qs v.cells _ cs (VR.zero h3) hf ha;refine⟨.agg vs',run_build w t parts vs' ?_,e2,rfl,rfl⟩;unfold plOf at hp;unfold Program.built;split at hp
   ·rename_i fs hu
    cases hq:fs.toList.mapM (fun f=>(P.info? f.type).map fun i=>(f.offset,i.size))with
    |none=>rw[hq]at hp;cases hp
    |some ps=>
     rw[hq]at hp;simp only[Qg,Qx]at hp;subst hp;simp only[h1,hu,h2,hq];simpa using e1
   ·rename_i n e hu
    cases hq:P.info? e with
    |none=>rw[hq]at hp;cases hp
    |some ie=>
     rw[hq]at hp;simp only[Qg,Qx]at hp;subst hp;simp only[h1,hu,h2,hq];exact e1
   ·cases hp
 ·cases he
end
def putL{α:Type}(cs:List α)(off:Nat)(xs:List α):List α:=match xs with
 |[x]=>cs.set off x
 |_=>cs.take off++xs++cs.drop (off+xs.length)
theorem zOV{α:Type}{cs:List α}{off:Nat}{xs:List α}(h:off+xs.length<=cs.length):putL cs off xs=cs.take off++xs++cs.drop (off+xs.length):=by
 unfold putL;split
 ·rename_i x;simp at h;rw[List.set_eq_take_append_cons_drop,if_pos (by omega)];simp
 ·rfl
theorem zP3{α:Type}{cs:List α}{off:Nat}{xs:List α}(h:off+xs.length<=cs.length):(putL cs off xs).length=cs.length:=by
 rw[zOV h];simp;omega
theorem zB2{α:Type}{cs:List α}{off:Nat}{xs:List α}(h:off+xs.length<=cs.length)(j:Nat):(cs.take off++xs++cs.drop (off+xs.length))[j]? =if off<=j/\j<off+xs.length then xs[j-off]? else cs[j]?:=by
 by_cases h1:j<off
 ·rw[if_neg (by omega),List.append_assoc,Qw (by simp;omega),List.getElem?_take,if_pos h1]
 ·by_cases h2:j<off+xs.length
  ·rw[if_pos ⟨by omega,h2⟩,List.append_assoc,Qa (by simp;omega),Qw (by simp;omega)];congr 1;simp;omega
  ·rw[if_neg (by omega),Qa (by simp;omega),List.getElem?_drop];congr 1;simp;omega
def tsOf:List AV->Option (Nat×List T)
 |[]=>some (2,[])
 | .t p x::r=>(tsOf r).map fun(q,xs)=>(min (lvT p x) q,x::xs)
 |_=>none
theorem zGV{lo:Nat}{V:Nat->Prop}{ob:Nat->Option (Value×Nat)}{U:Nat->Prop}{w:World}: ∀{cs:List AV} {p:Nat} {xs:List T},tsOf cs=some (p,xs)->cs.length=xs.length/\ ∀(j:Nat) x v,xs[j]? =some x->(∀c,cs[j]? =some c->VR (zV lo V ob U w) v c)->Rep ((zV lo V ob U w).mem p) v x
 |[],p,xs,h=>by
  simp[tsOf]at h;obtain⟨rfl,rfl⟩:=h;exact⟨rfl,fun j x v hj=>by simp at hj⟩
 |a::r,p,xs,h=>by
  cases a with
  |t q y=>
   unfold tsOf at h
   cases hr:tsOf r with
   |none=>rw[hr]at h;cases h
   |some z=>
    obtain⟨q2,xs2⟩:=z;rw[hr]at h;simp only[Qg,Qx,Qk]at h;obtain⟨rfl,rfl⟩:=h;obtain⟨h1,h2⟩:=zGV (lo:=lo) (V:=V) (ob:=ob) (U:=U) (w:=w) hr;refine⟨by simp[h1],fun j x v hj hv=>?_⟩
    cases j with
    |zero=>
     simp at hj;subst hj;exact((hv _ rfl).rep.lvT (M:=(zV lo V ob U w).mem)).mono (fun b o u hu=>zAm (Nat.min_le_left _ _) b o u hu)
    |succ j=>exact(h2 j x v (by simpa using hj) (fun c hc=>hv c (by simpa using hc))).mono (fun b o u hu=>zAm (Nat.min_le_right _ _) b o u hu)
  |_=>simp[tsOf]at h
def aStore(P:Program)(t:TypeId)(x y:AV)(H:Nat->Option AObj):Option (Bool×Eff):=
 match x,avCells y,zA6 P t with
 | .ptr id off c,some xs,some s=>match H id with
  |some (.box ty cs)=>some (decide (cs.length=c)&&decide (xs.length=s)&&decide (off+xs.length<=cs.length),{ val:=.any,new:=some (id,.box ty (putL cs off xs)),tch:=[id] })
  |some (.row e z p cs)=>match xs with
   |[.t q d]=>some (decide (cs.length=c)&&decide (1=s)&&decide (off<cs.length),{ val:=.any,new:=some (id,.row e z (min p (lvT q d)) (cs.set off d)),tch:=[id] })
   |xs=>match tsOf xs with
    |some (q,ds)=>some (decide (cs.length=c)&&decide (xs.length=s)&&decide (off+xs.length<=cs.length),{ val:=.any,new:=some (id,.row e z (min p q) (cs.take off++ds++cs.drop (off+ds.length))),tch:=[id] })
    |none=>none
  |some (.vec e z p cs)=>match xs with
   |[d]=>some (decide (cs.length=c)&&decide (1=s)&&decide (off<cs.length),{ val:=.any,new:=some (id,.vec e z p (cs.set off d)),tch:=[id] })
   |_=>none
  |_=>none
 |_,_,_=>none
section
variable{w0 w:World}{V S0 U:Nat->Prop}{H:Nat->Option AObj}{ob:Nat->Option (Value×Nat)}{i:Nat}{P:Program}
theorem zCE{t:TypeId}{b off s:Nat}{ty:TypeId}{cur:Array Value}{y:Value}(hs:zA6 P t=some s)(hy:y.cells.size=s)(hg:w.heap[b]? =some (.cells cur ty (0,0)))(hfit:off+s<=cur.size)(h1: ∀x,x∈y.cells->x.oneCell'=true):
  (Instr.storeAt t (.pointer (some ⟨b,off,none⟩)) y).run P w= .ok () (w.setRow b (cur.toList.take off++y.cells.toList++cur.toList.drop (off+s)).toArray):=by
 have hr:=run_storeCells_at (P:=P) b off ty y.cells.toList 0 cur w hg (by simp[hy];omega) (by simpa using h1);have hl:y.cells.toList.length=s:=by simp[hy]
 rw[hl,Nat.add_zero]at hr;simp[Instr.storeAt,Instr.sureAddr,storeVar,Sem.run_bind,zt hs,hy,hr]
theorem zPj{t:TypeId}{v y:Value}{x ay:AV}{eff:Eff}{c:Bool}(he:aStore P t x ay H=some (c,eff))(hc:c=true)(h:MR w0 V S0 U H ob w)(hi: ¬U i)(hv:VR (zV w0.heap.size V ob U w) v x)(hy:VR (zV w0.heap.size V ob U w) y ay):
  Good w0 V S0 U ob w i (eff.heap H) eff.val ((do Instr.storeAt t v y;pure .skip:Sem Next).run P w):=by
 subst hc;unfold aStore at he;split at he
 ·rename_i id off c xs s hx hs;obtain⟨y1,y2,y3⟩:=hy.cells hx;split at he
  ·rename_i ty cs hH;simp only[Qx,Qk,Qz,decide_eq_true_eq]at he;obtain⟨⟨⟨h1,h2⟩,h3⟩,rfl⟩:=he;obtain⟨u,b,e1,e2,rfl,e3⟩:=h.ptr hv hH h1;obtain⟨-,u',e4,b',vs,rfl,hg,hvr⟩:=h.obj id _ hH;rw[e1]at e4;simp only[Qx,Qk]at e4;obtain⟨rfl,-⟩:=e4;obtain rfl:b'=b:=by simpa[blk]using e2
   cases hvr with
   |agg vs cs hn hone hr=>
   have hrun:=zCE (P:=P) (w:=w) (off:=off) hs (by omega) hg (by omega) y2;simp only[Sem.run_bind,hrun,Result.andThen_ok,Sem.run_pure];have hl:y.cells.toList.length=s:=by simp;omega
   refine Good.step h (.inr ⟨rfl,rfl⟩) id (.pointer (some ⟨b',0,none⟩)) (.box ty (putL cs off xs)) ⟨rfl,rfl,rfl,by simp[World.setRow],fun k hk hn=>setRow_other w b' k _ (fun e=>hn ⟨_,_,e1,by rw[e];rfl⟩)⟩ (fun _=>⟨_,_,e1,by simp[AObj.cnt,zP3 h3,h1],fun _=>rfl⟩) (fun k hk=>.inl ⟨_,_,e1,hk⟩) (.inr e3) (fun hx'=>⟨b',_,rfl,setRow_heap w b' vs _ ty _ hg,?_⟩) (fun _=>.any _);have hpe:=zOV h3;obtain⟨E',hE'⟩: ∃E',E'=zV w0.heap.size V (upd ob id (some (.pointer (some ⟨b',0,none⟩),(AObj.box ty (putL cs off xs)).cnt))) (fun k=>U k\/k=i) (w.setRow b' (vs.toList.take off++y.cells.toList++vs.toList.drop (off+s)).toArray):=⟨_,rfl⟩;rw[←hE']at hx' ⊢;rw[hpe];have hcs:off+y.cells.toList.length<=vs.toList.length:=by simp;omega
   have hsp:=zB2 (cs:=vs.toList) (xs:=y.cells.toList) hcs;rw[hl]at hsp;refine .agg _ _ ?_ (fun z hz=>?_) (fun j d hj=>?_)
   ·simp;omega
   ·simp only[List.mem_toArray,List.mem_append]at hz;rcases hz with(hz|hz)|hz
    ·exact hone z (by simpa using List.mem_of_mem_take hz)
    ·exact y2 z (by simpa using hz)
    ·exact hone z (by simpa using List.mem_of_mem_drop hz)
   ·rw[zB2 h3]at hj;have hsz:(vs.toList.take off++y.cells.toList++vs.toList.drop (off+s))[j]? =some ((vs.toList.take off++y.cells.toList++vs.toList.drop (off+s)).toArray.getD j undef):=by
     have hlt:j<(vs.toList.take off++y.cells.toList++vs.toList.drop (off+s)).length:=by
      have:j<cs.length:=by
       by_cases hc:off<=j/\j<off+xs.length
       ·omega
       ·rw[if_neg hc]at hj;exact(Qq.1 hj).1
      simp;omega
     rw[Qj hlt];simp only[Array.getD,List.size_toArray,hlt,dif_pos];simp
    rw[hsp]at hsz;by_cases hc:off<=j/\j<off+xs.length
    ·rw[if_pos hc]at hj;rw[if_pos (by omega)]at hsz;have h5:=(y3 (j-off) d hj).ext hx';have hlt:j-off<y.cells.size:=by omega
     have h6:y.cells.toList[j-off]? =some (y.cells.getD (j-off) undef):=by simp[Array.getD,hlt]
     rw[h6]at hsz;injection hsz with hsz;rw[←hsz];exact h5
    ·rw[if_neg hc]at hj;rw[if_neg (by omega)]at hsz;have h5:=(hr j d hj).ext hx';have hlt:j<vs.size:=by rw[hn];exact(Qq.1 hj).1
     have h6:vs.toList[j]? =some (vs.getD j undef):=by simp[Array.getD,hlt]
     rw[h6]at hsz;injection hsz with hsz;rw[←hsz];exact h5
  ·rename_i e z p cs hH;split at he
   ·rename_i q d;simp only[Qx,Qk,Qz,decide_eq_true_eq]at he;obtain⟨⟨⟨h1,h2⟩,h3⟩,rfl⟩:=he;subst h2;obtain⟨u,b,e1,e2,rfl,e3⟩:=h.ptr hv hH h1;obtain⟨-,u',e4,hz,hl,m,vs,how,hlen,hr⟩:=h.obj id _ hH;rw[e1]at e4;simp only[Qx,Qk]at e4;obtain⟨rfl,-⟩:=e4;rcases how.2 with⟨rfl,rfl⟩|⟨g,cap,cur,rfl,-,hg,hnc,hcm,hcs,htake⟩
    ·cases e2
    ·obtain rfl:g=b:=by simpa[blk]using e2
     have hvl:vs.length=m*z:=how.1;have hcur:m*z<=cur.size:=by rw[hcs];exact Nat.mul_le_mul_right z hnc
     have hrun:=zCE (P:=P) (w:=w) (off:=off) hs (by simpa using y1) hg (by omega) y2;simp only[Sem.run_bind,hrun,Result.andThen_ok,Sem.run_pure];have hd:Rep ((zV w0.heap.size V ob U w).mem q) (y.cells.getD 0 undef) d:=(y3 0 (.t q d) rfl).rep;obtain⟨x0,hx0⟩: ∃x0,y.cells= #[x0]:=by
      have hsz:y.cells.size=1:=by simpa using y1
      refine⟨y.cells[0],?_⟩;apply Array.ext
      ·simpa using hsz
      ·intro i h1 h2;obtain rfl:i=0:=by simp at h2;omega
       rfl
     rw[hx0]at hd ⊢;simp only[Array.getD]at hd;have hd:Rep ((zV w0.heap.size V ob U w).mem q) x0 d:=hd;refine Good.step h (.inr ⟨rfl,rfl⟩) id (.slice (some ⟨g,0,none⟩) m cap) (.row e z (min p (lvT q d)) (cs.set off d)) ⟨rfl,rfl,rfl,by simp[World.setRow],fun k hk hn=>setRow_other w g k _ (fun e=>hn ⟨_,_,e1,by rw[e];rfl⟩)⟩ (fun _=>⟨_,_,e1,by simp[AObj.cnt,h1],fun _=>rfl⟩) (fun k hk=>.inl ⟨_,_,e1,hk⟩) (.inr e3) (fun hx'=>⟨hz,fun k hk=>zBc (hl k hk) (Nat.min_le_left p (lvT q d)),m,vs.set off x0,?_,by simp[hlen],fun j c x hj hxx=>?_⟩) (fun _=>.any _)
     ·have hsp:(cur.toList.take off++[x0]++cur.toList.drop (off+1))=cur.toList.set off x0:=by
       rw[List.set_eq_take_append_cons_drop,if_pos (by simp;omega)];simp
      have e9:(#[x0]:Array Value).toList=[x0]:=rfl;rw[e9,hsp];refine⟨by simpa using hvl,.inr ⟨g,cap,_,rfl,by omega,setRow_heap w g cur _ e _ hg,hnc,hcm,by simpa using hcs,?_⟩⟩;rw[List.toList_toArray,List.take_set,htake]
     ·rw[List.getElem?_set]at hj hxx;by_cases ej:off=j
      ·subst ej;rw[if_pos rfl,if_pos h3]at hj;rw[if_pos rfl,if_pos (by omega)]at hxx;injection hj with hj;injection hxx with hxx;subst hj hxx;exact(hd.lvT (M:=(zV w0.heap.size V ob U w).mem)).mono (fun b o u hu=>hx'.mem _ _ _ _ (zAm (Nat.min_le_right p (lvT q d)) b o u hu))
      ·rw[if_neg ej]at hj hxx;exact(hr j c x hj hxx).mono (fun b o u hu=>hx'.mem _ _ _ _ (zAm (Nat.min_le_left p (lvT q d)) b o u hu))
   ·rename_i xs' hne;split at he
    ·rename_i q ds hts;simp only[Qx,Qk,Qz,decide_eq_true_eq]at he;obtain⟨⟨⟨h1,h2⟩,h3⟩,rfl⟩:=he;obtain⟨u,b,e1,e2,rfl,e3⟩:=h.ptr hv hH h1;obtain⟨-,u',e4,hz,hl,m,vs,how,hlen,hr⟩:=h.obj id _ hH;rw[e1]at e4;simp only[Qx,Qk]at e4;obtain⟨rfl,-⟩:=e4;obtain⟨hdl,hdr⟩:=zGV (lo:=w0.heap.size) (V:=V) (ob:=ob) (U:=U) (w:=w) hts;rcases how.2 with⟨rfl,rfl⟩|⟨g,cap,cur,rfl,-,hg,hnc,hcm,hcs,htake⟩
     ·cases e2
     ·obtain rfl:g=b:=by simpa[blk]using e2
      have hvl:vs.length=m*z:=how.1;have hcur:m*z<=cur.size:=by rw[hcs];exact Nat.mul_le_mul_right z hnc
      have hrun:=zCE (P:=P) (w:=w) (off:=off) hs (by omega) hg (by omega) y2;simp only[Sem.run_bind,hrun,Result.andThen_ok,Sem.run_pure];have hY:y.cells.toList.length=s:=by simp;omega
      have hvs:off+y.cells.toList.length<=vs.length:=by omega
      have hcu:off+y.cells.toList.length<=cur.toList.length:=by simp;omega
      have hcd:off+ds.length<=cs.length:=by omega
      have hsp1:=zB2 hcu;have hsp2:=zB2 hvs;have hsp3:=zB2 hcd;rw[hY]at hsp1 hsp2;have htk:(cur.toList.take off++y.cells.toList++cur.toList.drop (off+s)).take (m*z)=vs.take off++y.cells.toList++vs.drop (off+s):=by
       apply List.ext_getElem?;intro j;rw[List.getElem?_take,hsp1,hsp2];have hj:vs[j]? =if j<m*z then cur.toList[j]? else none:=by rw[←htake,List.getElem?_take]
       by_cases c:off<=j/\j<off+s
       ·rw[if_pos c,if_pos c,if_pos (by omega)]
       ·rw[if_neg c,if_neg c,hj]
      refine Good.step h (.inr ⟨rfl,rfl⟩) id (.slice (some ⟨g,0,none⟩) m cap) (.row e z (min p q) (cs.take off++ds++cs.drop (off+ds.length))) ⟨rfl,rfl,rfl,by simp[World.setRow],fun k hk hn=>setRow_other w g k _ (fun e=>hn ⟨_,_,e1,by rw[e];rfl⟩)⟩ (fun _=>⟨_,_,e1,by simp[AObj.cnt];omega,fun _=>rfl⟩) (fun k hk=>.inl ⟨_,_,e1,hk⟩) (.inr e3) (fun hx'=>⟨hz,fun k hk=>zBc (hl k hk) (Nat.min_le_left p q),m,vs.take off++y.cells.toList++vs.drop (off+s),?_,by simp;omega,fun j c x hj hxx=>?_⟩) (fun _=>.any _)
      ·refine⟨by simp;omega,.inr ⟨g,cap,_,rfl,by omega,setRow_heap w g cur _ e _ hg,hnc,hcm,by simp;omega,?_⟩⟩;rw[List.toList_toArray,htk]
      ·rw[hsp3]at hj;rw[hsp2]at hxx;by_cases ej:off<=j/\j<off+s
       ·rw[if_pos (by omega)]at hj;rw[if_pos ej]at hxx;have h6:y.cells.getD (j-off) undef=x:=by
         have hlt:j-off<y.cells.size:=by omega
         have h7:y.cells.toList[j-off]? =some (y.cells.getD (j-off) undef):=by simp[Array.getD,hlt]
         rw[h7]at hxx;exact Option.some.inj hxx
        have h8:=hdr (j-off) c x hj (fun c' hc'=>by rw[←h6];exact y3 _ _ hc');exact h8.mono (fun b o u hu=>hx'.mem _ _ _ _ (zAm (Nat.min_le_right p q) b o u hu))
       ·rw[if_neg (by omega)]at hj;rw[if_neg ej]at hxx;exact(hr j c x hj hxx).mono (fun b o u hu=>hx'.mem _ _ _ _ (zAm (Nat.min_le_left p q) b o u hu))
    ·cases he
  ·rename_i e z p cs hH;split at he
   ·rename_i d;simp only[Qx,Qk,Qz,decide_eq_true_eq]at he;obtain⟨⟨⟨h1,h2⟩,h3⟩,rfl⟩:=he;subst h2;obtain⟨u,b,e1,e2,rfl,e3⟩:=h.ptr hv hH h1;obtain⟨-,u',e4,hz,hlv,m,vs,how,hlen,hone,hr⟩:=h.obj id _ hH;rw[e1]at e4;simp only[Qx,Qk]at e4;obtain⟨rfl,-⟩:=e4;rcases how.2 with⟨rfl,rfl⟩|⟨g,cap,cur,rfl,-,hg,hnc,hcm,hcs,htake⟩
    ·cases e2
    ·obtain rfl:g=b:=by simpa[blk]using e2
     have hvl:vs.length=m*z:=how.1;have hnz:m*z<=cap*z:=Nat.mul_le_mul_right z hnc;have hcur:m*z<=cur.size:=by omega
     have hrun:=zCE (P:=P) (w:=w) (off:=off) hs (by simpa using y1) hg (by omega) y2;simp only[Sem.run_bind,hrun,Result.andThen_ok,Sem.run_pure];have hd:VR (zV w0.heap.size V ob U w) (y.cells.getD 0 undef) d:=y3 0 d rfl;obtain⟨x0,hx0⟩: ∃x0,y.cells= #[x0]:=by
      have hsz:y.cells.size=1:=by simpa using y1
      refine⟨y.cells[0],?_⟩;apply Array.ext
      ·simpa using hsz
      ·intro i h1 h2;obtain rfl:i=0:=by simp at h2;omega
       rfl
     have hone0:x0.oneCell'=true:=y2 x0 (by rw[hx0];simp);rw[hx0]at hd ⊢;simp only[Array.getD]at hd;have hd:VR (zV w0.heap.size V ob U w) x0 d:=hd;refine Good.step h (.inr ⟨rfl,rfl⟩) id (.slice (some ⟨g,0,none⟩) m cap) (.vec e z p (cs.set off d)) ⟨rfl,rfl,rfl,by simp[World.setRow],fun k hk hn=>setRow_other w g k _ (fun e=>hn ⟨_,_,e1,by rw[e];rfl⟩)⟩ (fun _=>⟨_,_,e1,by simp[AObj.cnt,h1],fun _=>rfl⟩) (fun k hk=>.inl ⟨_,_,e1,hk⟩) (.inr e3) (fun hx'=>⟨hz,hlv,m,vs.set off x0,?_,by simp[hlen],fun v hv=>?_,fun j c x hj hxx=>?_⟩) (fun _=>.any _)
     ·have hsp:(cur.toList.take off++[x0]++cur.toList.drop (off+1))=cur.toList.set off x0:=by
       rw[List.set_eq_take_append_cons_drop,if_pos (by simp;omega)];simp
      have e9:(#[x0]:Array Value).toList=[x0]:=rfl;rw[e9,hsp];refine⟨by simpa using hvl,.inr ⟨g,cap,_,rfl,by omega,setRow_heap w g cur _ e _ hg,hnc,hcm,by simpa using hcs,?_⟩⟩;rw[List.toList_toArray,List.take_set,htake]
     ·rcases List.mem_or_eq_of_mem_set hv with hv|rfl
      ·exact hone v hv
      ·exact hone0
     ·rw[List.getElem?_set]at hj hxx;by_cases ej:off=j
      ·subst ej;rw[if_pos rfl,if_pos h3]at hj;rw[if_pos rfl,if_pos (by omega)]at hxx;injection hj with hj;injection hxx with hxx;subst hj hxx;exact hd.ext hx'
      ·rw[if_neg ej]at hj hxx;exact(hr j c x hj hxx).ext hx'
   ·cases he
  ·cases he
 ·cases he
end
def frz(H:Nat->Option AObj):List (Nat×AV)->Option (Bool×List (Nat×AV)×List Nat)
 |[]=>some (true,[],[])
 |(k,.own id c)::r=>match H id with
  |some (.row _ z p cs)=>(frz (upd H id none) r).map fun(b,ps,ds)=>(decide (cs.length=c)&&b,(k,.t p (.sl z cs))::ps,id::ds)
  |_=>none
 |(k,a)::r=>(frz H r).map fun(b,ps,ds)=>(b,(k,a)::ps,ds)
theorem zEp.imp{α β:Type}{R S:α->β->Prop}(hi: ∀a b,R a b->S a b): ∀{l:List α} {k:List β},zEp R l k->zEp S l k
 |_,_,.nil=>.nil
 |_,_,.cons h t=>.cons (hi _ _ h) (zEp.imp hi t)
theorem zCe{w0 w:World}{V S0 U:Nat->Prop}: ∀(qs:List (Nat×AV)) {H:Nat->Option AObj} {ob:Nat->Option (Value×Nat)} {ps:List (Nat×Value)} {b:Bool} {qs':List (Nat×AV)} {ds:List Nat},MR w0 V S0 U H ob w->zEp (fun p q=>p.1=q.1/\VR (zV w0.heap.size V ob U w) p.2 q.2) ps qs->frz H qs=some (b,qs',ds)->b=true→
  ∃ob',MR w0 V S0 U (dels H ds) ob' w/\Ext (zV w0.heap.size V ob U w) (zV w0.heap.size V ob' U w)/\zEp (fun p q=>p.1=q.1/\VR (zV w0.heap.size V ob' U w) p.2 q.2) ps qs'
 |[],H,ob,ps,b,qs',ds,h,ha,hf,hb=>by
  cases ha;simp[frz]at hf;obtain⟨-,rfl,rfl⟩:=hf;exact⟨ob,h,Ext.refl _,.nil⟩
 |(k,q)::qs,H,ob,ps,b,qs',ds,h,ha,hf,hb=>by
  cases ha with
  | @cons p _ ps _ hp ha=>
  obtain⟨hk,hv⟩:=hp;simp only at hk hv;have plain: ∀(r:Option (Bool×List (Nat×AV)×List Nat)),r=(frz H qs).map (fun(b,ps,ds)=>(b,(k,q)::ps,ds))->r=some (b,qs',ds)-> ∃ob',MR w0 V S0 U (dels H ds) ob' w/\Ext (zV w0.heap.size V ob U w) (zV w0.heap.size V ob' U w)/\zEp (fun p q=>p.1=q.1/\VR (zV w0.heap.size V ob' U w) p.2 q.2) (p::ps) qs':=fun r hr hr2=>by
   rw[hr]at hr2
   cases hq:frz H qs with
   |none=>rw[hq]at hr2;cases hr2
   |some x=>
    obtain⟨b2,qs2,ds2⟩:=x;rw[hq]at hr2;simp only[Qg,Qx,Qk]at hr2;obtain⟨rfl,rfl,rfl⟩:=hr2;obtain⟨ob',h1,h2,h3⟩:=zCe qs h ha hq hb;exact⟨ob',h1,h2,.cons ⟨hk,hv.ext h2⟩ h3⟩
  cases q with
  |own id c=>
   unfold frz at hf;split at hf
   ·rename_i e z p' cs hH
    cases hq:frz (upd H id none) qs with
    |none=>rw[hq]at hf;cases hf
    |some x=>
     obtain⟨b2,qs2,ds2⟩:=x;rw[hq]at hf;simp only[Qg,Qx,Qk]at hf;obtain⟨hb2,rfl,rfl⟩:=hf;rw[hb]at hb2;simp only[Qz,decide_eq_true_eq]at hb2;obtain⟨e1,-⟩:=h.own hv hH hb2.1;have ht:=h.tree hH e1;obtain⟨h4,h5⟩:=h.drop id;obtain⟨ob',h1,h2,h3⟩:=zCe qs h4 (zEp.imp (fun a b hab=>⟨hab.1,hab.2.ext h5⟩) ha) hq hb2.2;exact⟨ob',h1,h5.trans h2,.cons ⟨hk,.t _ _ _ (ht.mono (h2.mem _))⟩ h3⟩
   ·cases hf
  |any=>exact plain _ rfl (by simpa only[frz]using hf)
  |t p x=>exact plain _ rfl (by simpa only[frz]using hf)
  |ptr id off c=>exact plain _ rfl (by simpa only[frz]using hf)
  |sub id off l c=>exact plain _ rfl (by simpa only[frz]using hf)
  |pt p cs=>exact plain _ rfl (by simpa only[frz]using hf)
  |agg cs=>exact plain _ rfl (by simpa only[frz]using hf)
  |tup cs=>exact plain _ rfl (by simpa only[frz]using hf)
  |fn f cs=>exact plain _ rfl (by simpa only[frz]using hf)
theorem Good.pre{w0 w:World}{V S0 U:Nat->Prop}{ob ob1:Nat->Option (Value×Nat)}{i:Nat}{H':Nat->Option AObj}{val:AV}{r:Result Next}(hx:Ext (zV w0.heap.size V ob U w) (zV w0.heap.size V ob1 U w))(hg:Good w0 V S0 U ob1 w i H' val r):Good w0 V S0 U ob w i H' val r:=by
 obtain⟨nx,v,w',ob',e1,e2,e3,e4,e5⟩:=hg;exact⟨nx,v,w',ob',e1,e2,e3,hx.trans e4,e5⟩
def isOwn:AV->Bool
 | .own _ _=>true
 |_=>false
def frzL(H:Nat->Option AObj)(cs:List AV):Option (Bool×Nat×List T×List Nat):=match frz H (cs.map fun a=>(0,a))with
 |some (b,ps,ds)=>match tsOf (ps.map (·.2))with
  |some (p,xs)=>some (b,p,xs,ds)
  |none=>none
 |none=>none
theorem zEp.get{α β:Type}{R:α->β->Prop}: ∀{l:List α} {k:List β},zEp R l k->l.length=k.length/\ ∀(j:Nat) a b,l[j]? =some a->k[j]? =some b->R a b
 |_,_,.nil=>⟨rfl,fun j a b h=>by simp at h⟩
 |_,_,.cons h t=>by
  obtain⟨h1,h2⟩:=zEp.get t;refine⟨by simp[h1],fun j a b ha hb=>?_⟩
  cases j with
  |zero=>simp at ha hb;subst ha hb;exact h
  |succ j=>exact h2 j a b (by simpa using ha) (by simpa using hb)
theorem zEp.of{α β:Type}{R:α->β->Prop}: ∀{l:List α} {k:List β},l.length=k.length->(∀(j:Nat) a b,l[j]? =some a->k[j]? =some b->R a b)->zEp R l k
 |[],[],_,_=>.nil
 |a::l,b::k,h,hr=>.cons (hr 0 a b rfl rfl) (zEp.of (by simpa using h) (fun j x y hx hy=>hr (j+1) x y (by simpa using hx) (by simpa using hy)))
 |[],_::_,h,_=>by simp at h
 |_::_,[],h,_=>by simp at h
theorem zI1{w0 w:World}{V S0 U:Nat->Prop}{H:Nat->Option AObj}{ob:Nat->Option (Value×Nat)}{cs:List AV}{vs:List Value}{b:Bool}{p:Nat}{xs:List T}{ds:List Nat}(h:MR w0 V S0 U H ob w)(hl:vs.length=cs.length)(hr: ∀(j:Nat) c x,cs[j]? =some c->vs[j]? =some x->VR (zV w0.heap.size V ob U w) x c)(hf:frzL H cs=some (b,p,xs,ds))(hb:b=true):
  ∃ob',MR w0 V S0 U (dels H ds) ob' w/\Ext (zV w0.heap.size V ob U w) (zV w0.heap.size V ob' U w)/\vs.length=xs.length/\ ∀(j:Nat) c x,xs[j]? =some c->vs[j]? =some x->Rep ((zV w0.heap.size V ob' U w).mem p) x c:=by
 unfold frzL at hf;split at hf
 ·rename_i b2 ps ds2 hfr;split at hf
  ·rename_i p2 xs2 hts;simp only[Qx,Qk]at hf;obtain⟨rfl,rfl,rfl,rfl⟩:=hf;obtain⟨ob',h1,h2,h3⟩:=zCe _ h (zEp.of (l:=vs.map fun v=>((0:Nat),v)) (k:=cs.map fun a=>((0:Nat),a)) (by simp[hl]) (fun j a c ha hc=>by
    rw[Qi]at ha hc
    cases hv:vs[j]? with
    |none=>rw[hv]at ha;cases ha
    |some v=>cases hq:cs[j]? with
     |none=>rw[hq]at hc;cases hc
     |some q=>
      rw[hv]at ha;rw[hq]at hc;simp only[Qg,Qx]at ha hc;subst ha hc;exact⟨rfl,hr j q v hq hv⟩)) hfr hb
   obtain⟨h4,h5⟩:=zEp.get h3;obtain⟨h6,h7⟩:=zGV (lo:=w0.heap.size) (V:=V) (ob:=ob') (U:=U) (w:=w) hts;refine⟨ob',h1,h2,by simpa[h6]using h4.trans (by simpa using h6),fun j c x hj hx=>h7 j c x hj (fun d hd=>?_)⟩;rw[Qi]at hd
   cases hq:ps[j]? with
   |none=>rw[hq]at hd;cases hd
   |some q=>
    rw[hq]at hd;simp only[Qg,Qx]at hd;subst hd;exact(h5 j (0,x) q (by rw[Qi,hx];rfl) hq).2
  ·cases hf
 ·cases hf
def aBuildSlice(P:Program)(i:Nat)(t:TypeId)(len:Nat)(parts:List (Nat×AV))(H:Nat->Option AObj):Option (Bool×Eff):=
 match elOf P t with
 |some e=>match zA6 P e,zeroOf P e with
  |some s,some zs=>match afill (fun i=>some (i*s,s)) ((List.range (len*s)).map fun j=>AV.t 2 (zs.getD (j%s) default)) parts with
   |some cs=>if cs.any isOwn=true then some (decide (len*s<=16777216)&&decide (zs.length=s)&&decide (0<s),{ val:=.own i cs.length,new:=some (i,.vec e s 2 cs),tch:=[i] })
    else match frzL H cs with
     |some (b,p,xs,ds)=>some (b&&decide (len*s<=16777216)&&decide (zs.length=s)&&decide (0<s),{ val:=.own i xs.length,new:=some (i,.row e s p xs),del:=ds,tch:=i::ds })
     |none=>none
   |none=>none
  |_,_=>none
 |none=>none
def zBi(z:Value)(n:Nat):Array Value:=(Array.range n).map (z.cells[· %z.cells.size]!)
theorem zH4(place:Nat->Option (Nat×Nat)): ∀(qs:List (Nat×AV)) (cs cs':List AV),afill place cs qs=some cs'->cs'.length=cs.length
 |[],cs,cs',h=>by simp[afill]at h;rw[h]
 |(i,x)::r,cs,cs',h=>by
  unfold afill at h;split at h
  ·split at h
   ·rename_i off sz xs hp hx hc;have:=zH4 place r _ cs' h;rw[this];unfold zUU;exact zKK off xs 0 cs
   ·cases h
  ·cases h
section
variable{w0 w:World}{V S0 U:Nat->Prop}{H:Nat->Option AObj}{ob:Nat->Option (Value×Nat)}{i:Nat}{P:Program}
theorem VR.zED{E:Ev}{v:Value}{zs:List T}{s:Nat}(h:vTs v.cells.toList=some zs)(hs:zs.length=s)(h0:0<s)(n:Nat):VR E (.agg (zBi v n)) (.agg ((List.range n).map fun j=>AV.t 2 (zs.getD (j%s) default))):=by
 obtain⟨h1,h2⟩:=zEi h;have hcs:v.cells.size=s:=by simp at h1;omega
 have key: ∀j,j<n-> ∃hj:j%s<v.cells.size,vT v.cells[j%s]=some (zs.getD (j%s) default):=fun j hj=>by
  have hlt:j%s<s:=Nat.mod_lt j h0;have hz:j%s<zs.length:=by omega
  obtain⟨x,h4,h5⟩:=h2 (j%s) zs[j%s] (by simp);refine⟨by omega,?_⟩;have h6:v.cells[j%s]'(by omega)=x:=by
   have:v.cells.toList[j%s]? =some (v.cells[j%s]'(by omega)):=by simp[hcs,hlt]
   rw[this]at h4;injection h4
  rw[h6,h5];simp[hz]
 have hval: ∀j (hj:j<n),(zBi v n)[j]'(by simp[zBi];exact hj)=v.cells[j%s]'(key j hj).1:=fun j hj=>by
  obtain⟨hlt,-⟩:=key j hj;have e:(zBi v n)[j]'(by simp[zBi];exact hj)=v.cells[j%v.cells.size]!:=by simp[zBi]
  have e2:v.cells[j%v.cells.size]! =v.cells[j%s]!:=by rw[hcs]
  rw[e,e2];exact getElem!_pos v.cells (j%s) hlt
 refine .agg _ _ (by simp[zBi]) (fun x hx=>?_) (fun j c hj=>?_)
 ·obtain⟨j,hj,rfl⟩:=Array.getElem_of_mem hx;have hjn:j<n:=by simpa[zBi]using hj
  obtain⟨hlt,hk⟩:=key j hjn;rw[hval j hjn];exact(Rep.vT (m:=E.mem 0) hk).one
 ·rw[Qi]at hj;have hjn:j<n:=by
   cases hq:(List.range n)[j]? with
   |none=>rw[hq]at hj;cases hj
   |some y=>simpa using(Qq.1 hq).1
  obtain⟨hlt,hk⟩:=key j hjn;rw[show(List.range n)[j]? =some j by simp[hjn]]at hj;simp only[Qg,Qx]at hj;subst hj;have hsz:j<(zBi v n).size:=by simpa[zBi]using hjn
  have e:(zBi v n).getD j undef=v.cells[j%s]:=by
   rw[←hval j hjn];simp[Array.getD,hsz]
  rw[e];exact .t _ 2 _ (Rep.vT hk)
theorem zF6{t:TypeId}{len:Nat}{parts:Array (Nat×Value)}{qs:List (Nat×AV)}{eff:Eff}{c:Bool}(he:aBuildSlice P i t len qs H=some (c,eff))(hc:c=true)(h:MR w0 V S0 U H ob w)(hi: ¬U i)
  (hf:zEp (fun p q=>p.1=q.1/\VR (zV w0.heap.size V ob U w) p.2 q.2) parts.toList qs):
  Good w0 V S0 U ob w i (eff.heap H) eff.val ((Instr.buildSlice t len parts>>=fun v=>pure (.value v):Sem Next).run P w):=by
 subst hc;unfold aBuildSlice at he;split at he
 ·rename_i e hel;split at he
  ·rename_i s zs hs hz;split at he
   ·rename_i cs hfi;obtain⟨inf,v,z1,z2,z3⟩:=zBU hz;obtain⟨inf',q1,q2⟩:=zDn hs;rw[z1]at q1;injection q1 with q1;subst q1;have hu:=zAv hel;have hlen:cs.length=len*s:=by rw[zH4 _ _ _ _ hfi];simp
    have build:zs.length=s->0<s->len*s<=16777216-> ∃vs':Array Value,(Instr.buildSlice t len parts).run P w= .ok (.slice (some ⟨w.heap.size,0,none⟩) len len) (w.alloc (.cells vs' e))/\vs'.size=cs.length/\(∀x,x∈vs'->x.oneCell'=true)/\ ∀(j:Nat) c,cs[j]? =some c->VR (zV w0.heap.size V ob U w) (vs'.getD j undef) c:=fun h3 h4 h2=>by
     obtain⟨vs',f1,f2⟩:=zJl (E:=zV w0.heap.size V ob U w) (fun i=>some (i*s,s)) parts.toList qs (zBi v (len*s)) _ cs (VR.zED z3 h3 h4 (len*s)) hf hfi
     cases f2 with
     |agg vs' cs hn hone hr=>
     refine⟨vs',?_,hn,hone,hr⟩;by_cases h0:len*s=0
     ·have hl0:len=0:=by
       rcases Nat.mul_eq_zero.1 h0 with h|h<;>omega
      subst hl0;have hvv:zBi v 0= #[]:=by unfold zBi;rw[show Array.range 0= #[]from rfl];simp
      have hf2:Instr.fill (fun i=>some (i*s,s)) #[] parts.toList=some vs':=by rw[Nat.zero_mul]at f1;rw[←f1,hvv]
      simp[Instr.buildSlice,run_underlying hu,sizeOf,typeInfo,z1,q2,newRow,show Array.range 0= #[]from rfl,hf2]
     ·exact run_buildSlice w t e len parts vs' inf v hu z1 z2 (by rw[q2];omega) (by rw[q2];exact h0) (by rw[q2];exact f1)
    have hown: ∀vs':Array Value,0<s->vs'.size=cs.length->len*s<=16777216->(w.alloc (.cells vs' e)).ownsRow 0 e s (.slice (some ⟨w.heap.size,0,none⟩) len len) len vs'.toList:=fun vs' h4 hn h2=>⟨by simp;omega,.inr ⟨w.heap.size,len,vs',rfl,by omega,heap_alloc_new w _,Qy _,by
        have:len<=len*s:=Nat.le_mul_of_pos_right len h4;simp only[maxLen];omega,by omega,by rw[Qn (by simp;omega)]⟩⟩
    have hget: ∀(vs':Array Value) (j:Nat) x,vs'.toList[j]? =some x->vs'.getD j undef=x:=fun vs' j x hx=>by
     have hlt:j<vs'.size:=by simpa using(Qq.1 hx).1
     have:vs'.toList[j]? =some (vs'.getD j undef):=by simp[Array.getD,hlt]
     rw[this]at hx;injection hx
    split at he
    ·rename_i hs1;simp only[Qx,Qk,Qz,decide_eq_true_eq]at he;obtain⟨⟨⟨h2,h3⟩,h4⟩,rfl⟩:=he;obtain⟨vs',hrun,hn,hone,hr⟩:=build h3 h4 h2;simp only[Sem.run_bind,hrun,Result.andThen_ok,Sem.run_pure];exact Good.vec h hi (e:=e) (z:=s) (p:=2) (n:=len) (vs:=vs'.toList) (cs:=cs) (u:=.slice (some ⟨w.heap.size,0,none⟩) len len) (w':=w.alloc (.cells vs' e)) (Onl.alloc _ _ _) h4 (hown vs' h4 hn h2) (by simpa using hn) (fun k hk=>by
       obtain rfl:w.heap.size=k:=by simpa[blk]using hk
       exact Qy _) (fun x hx=>hone x (by simpa using hx)) (fun j c x hj hx=>by rw[←hget vs' j x hx];exact hr j c hj)
    ·split at he
     ·rename_i b p xs ds hfr;simp only[Qx,Qk,Qz,decide_eq_true_eq]at he;obtain⟨⟨⟨⟨h1,h2⟩,h3⟩,h4⟩,rfl⟩:=he;obtain⟨vs',hrun,hn,hone,hr⟩:=build h3 h4 h2;obtain⟨ob1,hm1,hx1,hlx,hrx⟩:=zI1 (vs:=vs'.toList) h (by simpa using hn) (fun j c x hj hx=>by rw[←hget vs' j x hx];exact hr j c hj) hfr h1;refine Good.pre hx1 ?_;simp only[Sem.run_bind,hrun,Result.andThen_ok,Sem.run_pure];exact Good.row hm1 hi (e:=e) (z:=s) (p:=p) (n:=len) (cap:=len) (vs:=vs'.toList) (cs:=xs) (u:=.slice (some ⟨w.heap.size,0,none⟩) len len) (w':=w.alloc (.cells vs' e)) h4 (Onl.alloc _ _ _)
       (hown vs' h4 hn h2) hlx (fun k hk=>by
         obtain rfl:w.heap.size=k:=by simpa[blk]using hk
         exact Qy _) hrx
     ·cases he
   ·cases he
  ·cases he
 ·cases he
end
def zN(zs:List T)(s n:Nat):List T:=(List.range (n*s)).map fun j=>zs.getD (j%s) default
def aMake(P:Program)(i:Nat)(t:TypeId)(l c:AV):Option (Bool×Eff):=
 match elOf P t with
 |some e=>match zA6 P e,zGM P e,zeroOf P e,l,c with
  |some 1,some by_,some [z],.t _ (.int _ n),.t _ (.int _ m)=>some (decide (0<=n)&&decide (n<=m)&&decide ((by_:Int)*m<=140737488355328)&&decide (0<by_),{ val:=.own i (List.replicate n.toNat z).length,new:=some (i,.row e 1 2 (List.replicate n.toNat z)),tch:=[i] })
  |some s,some by_,some zs,.t _ (.int _ n),.t _ (.int _ m)=>some (decide (1<s)&&decide (zs.length=s)&&decide (0<=n)&&decide (n<=m)&&decide (m*(s:Int)<=140737488355328)&&decide ((by_:Int)*m<=140737488355328)&&decide (0<by_),{ val:=.own i (zN zs s n.toNat).length,new:=some (i,.row e s 2 (zN zs s n.toNat)),tch:=[i] })
  |_,_,_,_,_=>none
 |none=>none
theorem zIZ{P:Program}{t:TypeId}{s:Nat}(h:zGM P t=some s): ∃i,P.info? t=some i/\i.bytes=s:=by
 unfold zGM at h
 cases hq:P.info? t with
 |none=>rw[hq]at h;cases h
 |some i=>rw[hq]at h;simp only[Qg,Qx]at h;exact⟨i,rfl,h⟩
section
variable{w0 w:World}{V S0 U:Nat->Prop}{H:Nat->Option AObj}{ob:Nat->Option (Value×Nat)}{i:Nat}{P:Program}
theorem zRw{t:TypeId}{l c:AV}{vl vc:Value}{eff:Eff}{b:Bool}(he:aMake P i t l c=some (b,eff))(hb:b=true)(h:MR w0 V S0 U H ob w)(hi: ¬U i)(hl:VR (zV w0.heap.size V ob U w) vl l)(hc:VR (zV w0.heap.size V ob U w) vc c):
  Good w0 V S0 U ob w i (eff.heap H) eff.val ((Instr.makeSlice t vl vc>>=fun v=>pure (.value v):Sem Next).run P w):=by
 subst hb;unfold aMake at he;split at he
 ·rename_i e hel;split at he
  ·rename_i by_ z q1 k1 n q2 k2 m hs hby hz;obtain rfl:=hl.int;obtain rfl:=hc.int;simp only[Qx,Qk,Qz,decide_eq_true_eq]at he;obtain⟨⟨⟨⟨h1,h2⟩,h3⟩,h4⟩,rfl⟩:=he;obtain⟨inf,v,z1,z2,z3⟩:=zBU hz;obtain⟨inf',q1,hsz⟩:=zDn hs;rw[z1]at q1;injection q1 with q1;subst q1
   obtain⟨inf',q1,hbz⟩:=zIZ hby;rw[z1]at q1;injection q1 with q1;subst q1
   have hm63:m<=140737488355328:=by
    have:(1:Int)*m<=(by_:Int)*m:=Int.mul_le_mul_of_nonneg_right (by omega) (by omega);omega
   have hrun:=run_make (P:=P) w t e inf v (zAv hel) z1 z2 k1 k2 n m h1 h2 (by rw[hbz];omega) (by omega);rw[hsz,Nat.mul_one]at hrun;simp only[Sem.run_bind,hrun,Result.andThen_ok,Sem.run_pure];have hvr:=VR.zED (E:=zV w0.heap.size V ob U w) z3 rfl (by simp) m.toNat;change VR _ (.agg (madeCells v.cells m.toNat)) _ at hvr;have hsize:=size_madeCells v.cells m.toNat;obtain⟨cur,hcur⟩: ∃cur,cur=madeCells v.cells m.toNat:=⟨_,rfl⟩;rw[←hcur]at hvr hsize ⊢
   cases hvr with
   |agg vs cs hn hone hr=>
   refine Good.row h hi (n:=n.toNat) (cap:=m.toNat) (vs:=cur.toList.take n.toNat) (by omega) (Onl.alloc _ _ _) ⟨by simp;omega,.inr ⟨w.heap.size,m.toNat,cur,rfl,by omega,heap_alloc_new w _,by omega,by simp only[maxLen];omega,by omega,by simp⟩⟩ (by simp;omega) (fun k hk=>?_) (fun j c x hj hx=>?_)
   ·obtain rfl:w.heap.size=k:=by simpa[blk]using hk
    exact Qy _
   ·have hjn:j<n.toNat:=by have:=(Qq.1 hj).1;simpa using this
    have hjm:j<m.toNat:=by omega
    have hcz:z=c:=by simpa[hjn]using hj
    subst hcz;have h5:=hr j (.t 2 z) (by simp[hjm,Nat.mod_one]);have hlt:j<cur.size:=by omega
    have h6:cur.getD j undef=x:=by
     have:(cur.toList.take n.toNat)[j]? =some (cur.getD j undef):=by simp[Array.getD,hlt,hjn]
     rw[this]at hx;injection hx
    rw[h6]at h5;exact h5.rep
  ·rename_i s by_ zs q1 k1 n q2 k2 m _ hs hby hz;obtain rfl:=hl.int;obtain rfl:=hc.int;simp only[Qx,Qk,Qz,decide_eq_true_eq]at he;obtain⟨⟨⟨⟨⟨⟨⟨s1,s2⟩,h1⟩,h2⟩,h5⟩,h3⟩,h4⟩,rfl⟩:=he;obtain⟨inf,v,z1,z2,z3⟩:=zBU hz;obtain⟨inf',q1,hsz⟩:=zDn hs;rw[z1]at q1;injection q1 with q1;subst q1
   obtain⟨inf',q1,hbz⟩:=zIZ hby;rw[z1]at q1;injection q1 with q1;subst q1
   have hm63:m<=140737488355328:=by
    have:(1:Int)*m<=(by_:Int)*m:=Int.mul_le_mul_of_nonneg_right (by omega) (by omega);omega
   have hrun:=run_make (P:=P) w t e inf v (zAv hel) z1 z2 k1 k2 n m h1 h2 (by rw[hbz];omega) (by omega);rw[hsz]at hrun;simp only[Sem.run_bind,hrun,Result.andThen_ok,Sem.run_pure];have hvr:=VR.zED (E:=zV w0.heap.size V ob U w) z3 s2 (by omega) (m.toNat*s);change VR _ (.agg (madeCells v.cells (m.toNat*s))) _ at hvr;have hsize:=size_madeCells v.cells (m.toNat*s);obtain⟨cur,hcur⟩: ∃cur,cur=madeCells v.cells (m.toNat*s):=⟨_,rfl⟩;rw[←hcur]at hvr hsize ⊢;have hnm:n.toNat*s<=m.toNat*s:=Nat.mul_le_mul_right _ (by omega);have hzl:(zN zs s n.toNat).length=n.toNat*s:=by simp[zN]
   cases hvr with
   |agg vs cs hn hone hr=>
   refine Good.row h hi (n:=n.toNat) (cap:=m.toNat) (vs:=cur.toList.take (n.toNat*s)) (by omega) (Onl.alloc _ _ _) ⟨by simp;omega,.inr ⟨w.heap.size,m.toNat,cur,rfl,by omega,heap_alloc_new w _,by omega,by simp only[maxLen];omega,by omega,by simp⟩⟩ (by rw[hzl];simp;omega) (fun k hk=>?_) (fun j c x hj hx=>?_)
   ·obtain rfl:w.heap.size=k:=by simpa[blk]using hk
    exact Qy _
   ·have hjn:j<n.toNat*s:=by have:=(Qq.1 hj).1;rwa [hzl]at this
    have hjm:j<m.toNat*s:=by omega
    have hcz:zs.getD (j%s) default=c:=by
     unfold zN at hj;rw[Qi,List.getElem?_range hjn]at hj;simpa using hj
    subst hcz;have h5:=hr j (.t 2 (zs.getD (j%s) default)) (by simp[hjm]);have hlt:j<cur.size:=by omega
    have h6:cur.getD j undef=x:=by
     have:(cur.toList.take (n.toNat*s))[j]? =some (cur.getD j undef):=by simp[Array.getD,hlt,hjn]
     rw[this]at hx;injection hx
    rw[h6]at h5;exact h5.rep
  ·cases he
 ·cases he
end
def srcOf(H:Nat->Option AObj)(s:Nat)(x:AV):Option (Bool×Nat×List T×List Nat):=match x with
 | .t q (.sl z ys)=>some (decide (z=s)||ys.isEmpty,q,ys,[])
 | .own id c=>match H id with
  |some (.row _ z q ys)=>some (decide (ys.length=c)&&decide (z=s),q,ys,[id])
  |_=>none
 |_=>none
def vecOf(H:Nat->Option AObj)(s:Nat)(x:AV):Option (Bool×List AV×Nat):=match x with
 | .own id c=>match H id with
  |some (.vec _ z _ ys)=>some (decide (ys.length=c)&&decide (z=s),ys,id)
  |_=>none
 |_=>none
def aAppend(P:Program)(i:Nat)(t:TypeId)(d x:AV)(H:Nat->Option AObj):Option (Bool×Eff):=
 match elOf P t with
 |some e=>match zA6 P e,zGM P e,zeroOf P e with
  |some s,some by_,some zs=>match vecOf H s x with
   |some (b,ys,rd)=>match d with
    | .own id c=>match H id with
     |some (.vec e' z p cs)=>some (b&&decide (cs.length=c)&&decide (z=s)&&decide (e'=e)&&decide (0<by_)&&decide (zs.length=s)&&decide ((cs.length+ys.length)*by_<=140737488355328),{ val:=.own id (cs++ys).length,new:=some (id,.vec e z p (cs++ys)),tch:=[id,rd] })
     |some (.row e' z p cs)=>match frzL H ys with
      |some (b2,q,ts,ds)=>some (b&&b2&& !ds.contains id&&decide (cs.length=c)&&decide (0<s)&&decide (z=s)&&decide (e'=e)&&decide (0<by_)&&decide (zs.length=s)&&decide ((cs.length+ts.length)*by_<=140737488355328),{ val:=.own id (cs++ts).length,new:=some (id,.row e z (min p (lvs q ts)) (cs++ts)),del:=ds,tch:=id::rd::ds })
      |none=>none
     |_=>none
    | .t _ (.sl 0 [])=>match frzL H ys with
     |some (b2,q,ts,ds)=>some (b&&b2&&decide (0<s)&&decide (0<by_)&&decide (zs.length=s)&&decide (ts.length*by_<=140737488355328),{ val:=.own i ts.length,new:=some (i,.row e s (lvs q ts) ts),del:=ds,tch:=i::rd::ds })
     |none=>none
    |_=>none
   |none=>match srcOf H s x with
    |some (b,q,ys,rd)=>match d with
     | .own id c=>match H id with
      |some (.row e' z p cs)=>some (b&&decide (cs.length=c)&&decide (z=s)&&decide (e'=e)&&decide (0<by_)&&decide (zs.length=s)&&decide ((cs.length+ys.length)*by_<=140737488355328),{ val:=.own id (cs++ys).length,new:=some (id,.row e z (min p (lvs q ys)) (cs++ys)),tch:=id::rd })
      |some (.vec e' z p cs)=>some (b&&decide (cs.length=c)&&decide (z=s)&&decide (e'=e)&&decide (0<by_)&&decide (zs.length=s)&&decide ((cs.length+ys.length)*by_<=140737488355328),{ val:=.own id (cs++ys.map (AV.t q)).length,new:=some (id,.vec e z p (cs++ys.map (AV.t q))),tch:=id::rd })
      |_=>none
     | .t _ (.sl 0 [])=>some (b&&decide (0<s)&&decide (0<by_)&&decide (zs.length=s)&&decide (ys.length*by_<=140737488355328),{ val:=.own i ys.length,new:=some (i,.row e s (lvs q ys) ys),tch:=i::rd })
     |_=>none
    |none=>none
  |_,_,_=>none
 |none=>none
theorem zNR: ∀(ds:List Nat) (H:Nat->Option AObj) (k:Nat),k∉ds->dels H ds k=H k
 |[],H,k,_=>rfl
 |d::r,H,k,h=>by
  unfold dels;rw[zNR r _ k (fun e=>h (by simp[e]))];exact zu _ _ (fun e=>h (by simp[e]))
section
variable{w0 w:World}{V S0 U:Nat->Prop}{H:Nat->Option AObj}{ob:Nat->Option (Value×Nat)}{i:Nat}{P:Program}
theorem zJo{s:Nat}{x:AV}{v:Value}{b:Bool}{q:Nat}{ys:List T}{rd:List Nat}(he:srcOf H s x=some (b,q,ys,rd))(hb:b=true)(h:MR w0 V S0 U H ob w)(hv:VR (zV w0.heap.size V ob U w) v x):
  ∃(a:Option Addr) (m cap:Nat) (news:List Value),v= .slice a m cap/\news.length=m*s/\news.length=ys.length/\(a=none->m=0)/\(∀ad,a=some ad-> ∀(j:Nat) u,news[j]? =some u->w.cell? (ad.add j)=some u)/\ ∀(j:Nat) c x,ys[j]? =some c->news[j]? =some x->Rep ((zV w0.heap.size V ob U w).mem q) x c:=by
 subst hb;unfold srcOf at he;split at he
 ·rename_i q' z ys';simp only[Qx,Qk,Bool.or_eq_true,decide_eq_true_eq]at he;obtain⟨h1,rfl,rfl,-⟩:=he;have hrep:=hv.rep
  cases hrep with
  |nil z=>exact⟨none,0,0,[],rfl,by simp,rfl,fun _=>rfl,fun ad h=>(by cases h),fun j c x hj=>by simp at hj⟩
  |emp a z hz=>exact⟨some a,0,0,[],rfl,by simp,rfl,fun _=>rfl,fun ad h j u hj=>by simp at hj,fun j c x hj=>by simp at hj⟩
  |sl b o n cap z cs vs hz hn h4 h5 hcc hrr=>
   refine⟨some ⟨b,o,none⟩,n,cap,(List.range ys'.length).map vs,rfl,?_,by simp,fun h=>(by cases h),fun ad had j u hj=>?_,fun j c x hj hx=>?_⟩
   ·rcases h1 with h1|h1
    ·subst h1;simpa using hn
    ·have:ys'=[]:=by simpa using h1
     subst this;have hn':n*z=0:=by rw[←hn];rfl
     have hn0:n=0:=by rcases Nat.mul_eq_zero.1 hn' with g|g<;>omega
     simp[hn0]
   ·injection had with had;subst had;have hlt:j<ys'.length:=by have:=(Qq.1 hj).1;simpa using this
    simp[hlt]at hj;rw[←hj,zAl];exact zCh (hcc j ys'[j] (by simp))
   ·have hlt:=(Qq.1 hj).1;simp[hlt]at hx;rw[←hx];exact hrr j c hj
 ·rename_i id c;split at he
  ·rename_i e z q' ys' hH;simp only[Qx,Qk,Qz,decide_eq_true_eq]at he;obtain⟨⟨h1,h2⟩,rfl,rfl,-⟩:=he;subst h2;obtain⟨e1,-⟩:=h.own hv hH h1;obtain⟨-,u,e3,hz,hl,m,vs,how,hlen,hr⟩:=h.obj id _ hH;rw[e1]at e3;simp only[Qx,Qk]at e3;obtain⟨rfl,-⟩:=e3;rcases how.2 with⟨rfl,rfl⟩|⟨g,cap,cur,rfl,-,hg,hnc,hcm,hcs,htake⟩
   ·exact⟨none,0,0,vs,rfl,how.1,hlen,fun _=>rfl,fun ad h=>(by cases h),hr⟩
   ·exact⟨_,m,cap,vs,rfl,how.1,hlen,fun h=>(by cases h),fun ad had j u hj=>by
     injection had with had;subst had;exact how.cells (g:=g) rfl j u hj,hr⟩
  ·cases he
 ·cases he
theorem zSE{t ty e:TypeId}{inf:TypeInfo}{zv:Value}{s by_:Nat}(ht:P.underlying t=some (.slice e))(hi:P.info? e=some inf)(hz0:inf.zero=some zv)(hsz:inf.size=s)(hby:inf.bytes=by_)(hzs:zv.cells.size=s)(hs:0<s)
  {v:Value} {n:Nat} {xs:List Value} (hown:w.ownsRow 0 e s v n xs) {a:Option Addr} {m sc:Nat} {news:List Value} (hl:news.length=m*s) (hn0:a=none->m=0) (hc: ∀ad,a=some ad-> ∀(j:Nat) u,news[j]? =some u->w.cell? (ad.add j)=some u) (h1: ∀u∈news,u.oneCell'=true)
  (h63:n+m<=maxLen) (hbytes:(n+m)*by_<=140737488355328):
  ∃v' w',(Builtin.append_ #[t,t] ty #[v,.slice a m sc]).run P w= .ok v' w'/\w'.ownsRow 0 e s v' (n+m) (xs++news)/\w.grownBy w' v.ownBlock/\(v'.ownBlock=v.ownBlock\/v'.ownBlock=some w.heap.size)/\(m=0->v'=v):=by
 by_cases hm:m=0
 ·subst hm;have hy:news=[]:=List.eq_nil_of_length_eq_zero (by omega);subst hy;refine⟨v,w,?_,by simpa using hown,⟨rfl,rfl,rfl,Qy _,fun _ _ _=>rfl⟩,.inl rfl,fun _=>rfl⟩
  cases a with
  |none=>
   rcases hown.2 with⟨rfl,rfl⟩|⟨g,cap,cur,rfl,_,_,hnc,_⟩
   ·simp[Builtin.append_,run_underlying ht,sizeOf,typeInfo,hi,Builtin.lenOf,Builtin.firstCells]
   ·simp[Builtin.append_,run_underlying ht,sizeOf,typeInfo,hi,Builtin.lenOf,Builtin.firstCells,hnc,storeCells]
  |some ad=>
   rcases hown.2 with⟨rfl,rfl⟩|⟨g,cap,cur,rfl,_,_,hnc,_⟩
   ·simp[Builtin.append_,run_underlying ht,sizeOf,typeInfo,hi,Builtin.lenOf,Builtin.firstCells,loadCells,loadCellsFrom]
   ·simp[Builtin.append_,run_underlying ht,sizeOf,typeInfo,hi,Builtin.lenOf,Builtin.firstCells,hnc,storeCells,loadCells,loadCellsFrom]
 ·cases a with
  |none=>exact absurd (hn0 rfl) hm
  |some ad=>
   obtain⟨v',w',hrun,r1,r2,_,r4⟩:=run_append_own_at (P:=P) w 0 t ty e inf zv s by_ ht hi hz0 hsz hby hzs hs v n xs hown ad m sc news hl (hc ad rfl) h1 h63 hbytes (by omega);exact⟨v',w',hrun,r1,r2,r4,fun h=>absurd h hm⟩
theorem zAO{v:Value}{w:World}{e s n:Nat}{xs:List Value}(h:w.ownsRow 0 e s v n xs):v.ownBlock=blk v:=by
 rcases h.2 with⟨rfl,_⟩|⟨g,cap,cur,rfl,_⟩<;>rfl
structure Src(P:Program)(w:World)(s m:Nat)(a:Option Addr)(news:List Value):Prop where
 l:news.length=m*s
 n0:a=none->m=0
 c: ∀ad,a=some ad-> ∀(j:Nat) u,news[j]? =some u->w.cell? (ad.add j)=some u
 one: ∀u∈news,u.oneCell'=true
structure Ety(P:Program)(t e:TypeId)(s by_:Nat):Prop where
 u:P.underlying t=some (.slice e)
 i: ∃inf zv,P.info? e=some inf/\inf.zero=some zv/\inf.size=s/\inf.bytes=by_/\zv.cells.size=s
 s0:0<s
 b0:0<by_
theorem zNr{t e ty:TypeId}{s by_:Nat}(hE:Ety P t e s by_){v:Value}{n:Nat}{xs:List Value}(hown:w.ownsRow 0 e s v n xs){a:Option Addr}{m sc:Nat}{news:List Value}(hs:Src P w s m a news)(hsz:(xs.length+news.length)*by_<=140737488355328):
  ∃v' w',(Builtin.append_ #[t,t] ty #[v,.slice a m sc]).run P w= .ok v' w'/\w'.ownsRow 0 e s v' (n+m) (xs++news)/\w.grownBy w' v.ownBlock/\(v'.ownBlock=v.ownBlock\/v'.ownBlock=some w.heap.size)/\(news.length=0->v'=v):=by
 obtain⟨inf,zv,z1,z2,z3,z4,z5⟩:=hE.i;have hnm:n+m<=xs.length+news.length:=by
  have g1:n<=n*s:=Nat.le_mul_of_pos_right n hE.s0;have g2:m<=m*s:=Nat.le_mul_of_pos_right m hE.s0;have g3:=hown.1;have g4:=hs.l;omega
 have hby2:(n+m)*by_<=140737488355328:=Nat.le_trans (Nat.mul_le_mul_right by_ hnm) hsz;have hlim:n+m<=140737488355328:=Nat.le_trans (Nat.le_mul_of_pos_right (n+m) hE.b0) hby2;obtain⟨v',w',hrun,r1,r2,r3,r4⟩:=zSE (ty:=ty) (sc:=sc) hE.u z1 z2 z3 z4 z5 hE.s0 hown hs.l hs.n0 hs.c hs.one (by simp only[maxLen];omega) hby2;refine⟨v',w',hrun,r1,r2,r3,fun h0=>r4 ?_⟩;have hl:=hs.l;rw[h0]at hl;have:=hE.s0;rcases Nat.mul_eq_zero.1 hl.symm with g|g<;>omega
theorem zNC{t e ty:TypeId}{s by_:Nat}(hE:Ety P t e s by_)(h:MR w0 V S0 U H ob w){id c p q:Nat}{cs ys:List T}(hH:H id=some (.row e s p cs)){vd:Value}(hd:VR (zV w0.heap.size V ob U w) vd (.own id c))(hc:cs.length=c){a:Option Addr}{m sc:Nat}{news:List Value}(hs:Src P w s m a news)(hl:news.length=ys.length)
  (hrr: ∀(j:Nat) c x,ys[j]? =some c->news[j]? =some x->Rep ((zV w0.heap.size V ob U w).mem q) x c) (hsz:(cs.length+ys.length)*by_<=140737488355328):
  Good w0 V S0 U ob w i (upd H id (some (.row e s (min p (lvs q ys)) (cs++ys)))) (.own id (cs++ys).length) ((Builtin.append_ #[t,t] ty #[vd,.slice a m sc]>>=fun v=>pure (.value v):Sem Next).run P w):=by
 obtain⟨e1,e2⟩:=h.own hd hH hc;obtain⟨-,u,e3,hzp,hlv,n,vs,how,hlen,hr⟩:=h.obj id _ hH;rw[e1]at e3;simp only[Qx,Qk]at e3;obtain⟨rfl,-⟩:=e3;obtain⟨v',w',hrun,r1,r2,r3,r4⟩:=zNr (ty:=ty) (sc:=sc) hE how hs (by rw[hlen,hl];exact hsz);simp only[Sem.run_bind,hrun,Result.andThen_ok,Sem.run_pure];have hb1:=zAO how;have hb2:=zAO r1;refine Good.step h (.inl rfl) id v' (.row e s (min p (lvs q ys)) (cs++ys)) (Onl.grown r2 (fun k hk=>⟨_,_,e1,by rw[←hb1];exact hk⟩)) (fun _=>⟨_,_,e1,by simp[AObj.cnt,hc],fun heq=>?_⟩) (fun k hk=>?_) (.inr e2) (fun hx'=>⟨hzp,fun k hk=>?_,n+m,vs++news,r1,by simp[hlen,hl],fun j c x hj hxx=>?_⟩) (fun hx'=>.own _ id _ ?_ (.inl e2) (fun u' n' hu'=>?_))
 ·simp[AObj.cnt]at heq;exact(r4 (by omega)).symm
 ·rw[←hb2]at hk;rcases r3 with g|g
  ·exact .inl ⟨_,_,e1,by rw[←hb1,←g];exact hk⟩
  ·rw[g]at hk;injection hk with hk;exact .inr (by omega)
 ·rw[←hb2]at hk;rcases r3 with g|g
  ·exact zBc (hlv k (by rw[←hb1,←g];exact hk)) (Nat.min_le_left p (lvs q ys))
  ·rw[g]at hk;injection hk with hk
   have:=h.only.size;exact .inl (by omega)
 ·by_cases hlt:j<cs.length
  ·rw[Qw hlt]at hj;rw[Qw (by omega)]at hxx;exact(hr j c x hj hxx).mono (fun b o u hu=>hx'.mem _ _ _ _ (zAm (Nat.min_le_left p (lvs q ys)) b o u hu))
  ·rw[Qa (by omega)]at hj;rw[Qa (by omega),hlen]at hxx;exact((hrr _ c x hj hxx).lvs (M:=(zV w0.heap.size V ob U w).mem) hj).mono (fun b o u hu=>hx'.mem _ _ _ _ (zAm (Nat.min_le_right p (lvs q ys)) b o u hu))
 ·rcases r1.2 with⟨rfl,_⟩|⟨g,cap,cur,rfl,_⟩<;>rfl
 ·have hu':upd ob id (some (v',(AObj.row e s (min p (lvs q ys)) (cs++ys)).cnt)) id=some (u',n'):=hu';rw[zX]at hu';simp only[Qx,Qk]at hu';obtain⟨rfl,rfl⟩:=hu';exact⟨Qy _,fun _=>rfl⟩
theorem zMq{t e ty:TypeId}{s p by_:Nat}(hE:Ety P t e s by_)(h:MR w0 V S0 U H ob w){id c:Nat}{cs ys:List AV}(hH:H id=some (.vec e s p cs)){vd:Value}(hd:VR (zV w0.heap.size V ob U w) vd (.own id c))(hc:cs.length=c){a:Option Addr}{m sc:Nat}{news:List Value}(hs:Src P w s m a news)(hl:news.length=ys.length)
  (hrr: ∀(j:Nat) c x,ys[j]? =some c->news[j]? =some x->VR (zV w0.heap.size V ob U w) x c) (hsz:(cs.length+ys.length)*by_<=140737488355328):
  Good w0 V S0 U ob w i (upd H id (some (.vec e s p (cs++ys)))) (.own id (cs++ys).length) ((Builtin.append_ #[t,t] ty #[vd,.slice a m sc]>>=fun v=>pure (.value v):Sem Next).run P w):=by
 obtain⟨e1,e2⟩:=h.own hd hH hc;obtain⟨-,u,e3,hz,hlv,n,vs,how,hlen,hone,hr⟩:=h.obj id _ hH;rw[e1]at e3;simp only[Qx,Qk]at e3;obtain⟨rfl,-⟩:=e3;obtain⟨v',w',hrun,r1,r2,r3,r4⟩:=zNr (ty:=ty) (sc:=sc) hE how hs (by rw[hlen,hl];exact hsz);simp only[Sem.run_bind,hrun,Result.andThen_ok,Sem.run_pure];have hb1:=zAO how;have hb2:=zAO r1;refine Good.step h (.inl rfl) id v' (.vec e s p (cs++ys)) (Onl.grown r2 (fun k hk=>⟨_,_,e1,by rw[←hb1];exact hk⟩)) (fun _=>⟨_,_,e1,by simp[AObj.cnt,hc],fun heq=>?_⟩) (fun k hk=>?_) (.inr e2) (fun hx'=>⟨hz,fun k hk=>?_,n+m,vs++news,r1,by simp[hlen,hl],fun x hx=>?_,fun j c x hj hxx=>?_⟩) (fun hx'=>.own _ id _ ?_ (.inl e2) (fun u' n' hu'=>?_))
 ·simp[AObj.cnt]at heq;exact(r4 (by omega)).symm
 ·rw[←hb2]at hk;rcases r3 with g|g
  ·exact .inl ⟨_,_,e1,by rw[←hb1,←g];exact hk⟩
  ·rw[g]at hk;injection hk with hk;exact .inr (by omega)
 ·rw[←hb2]at hk;rcases r3 with g|g
  ·exact hlv k (by rw[←hb1,←g];exact hk)
  ·rw[g]at hk;injection hk with hk
   have:=h.only.size;exact .inl (by omega)
 ·rcases List.mem_append.1 hx with hx|hx
  ·exact hone x hx
  ·exact hs.one x hx
 ·by_cases hlt:j<cs.length
  ·rw[Qw hlt]at hj;rw[Qw (by omega)]at hxx;exact(hr j c x hj hxx).ext hx'
  ·rw[Qa (by omega)]at hj;rw[Qa (by omega),hlen]at hxx;exact(hrr _ c x hj hxx).ext hx'
 ·rcases r1.2 with⟨rfl,_⟩|⟨g,cap,cur,rfl,_⟩<;>rfl
 ·have hu':upd ob id (some (v',(AObj.vec e s p (cs++ys)).cnt)) id=some (u',n'):=hu';rw[zX]at hu';simp only[Qx,Qk]at hu';obtain⟨rfl,rfl⟩:=hu';exact⟨Qy _,fun _=>rfl⟩
theorem zMP{t e ty:TypeId}{s by_:Nat}(hE:Ety P t e s by_)(h:MR w0 V S0 U H ob w)(hi: ¬U i){q:Nat}{ys:List T}{a:Option Addr}{m sc:Nat}{news:List Value}(hs:Src P w s m a news)(hl:news.length=ys.length)
  (hrr: ∀(j:Nat) c x,ys[j]? =some c->news[j]? =some x->Rep ((zV w0.heap.size V ob U w).mem q) x c) (hsz:ys.length*by_<=140737488355328):
  Good w0 V S0 U ob w i (upd H i (some (.row e s (lvs q ys) ys))) (.own i ys.length) ((Builtin.append_ #[t,t] ty #[.slice none 0 0,.slice a m sc]>>=fun v=>pure (.value v):Sem Next).run P w):=by
 obtain⟨v',w',hrun,r1,r2,r3,r4⟩:=zNr (ty:=ty) (sc:=sc) hE (World.ownsRow_nil w 0 e s) hs (by rw[hl];simpa using hsz);simp only[Sem.run_bind,hrun,Result.andThen_ok,Sem.run_pure];have hb2:=zAO r1;rw[List.nil_append]at r1;refine Good.row h hi (n:=0+m) (cap:=0) (vs:=news) hE.s0 (Onl.grown r2 (fun k hk=>by cases hk)) r1 hl (fun k hk=>?_) (fun j c x hj hx=>(hrr j c x hj hx).lvs (M:=(zV w0.heap.size V ob U w).mem) hj);rw[←hb2]at hk;rcases r3 with g|g
 ·rw[g]at hk;cases hk
 ·rw[g]at hk;injection hk with hk;omega
theorem zIc{s:Nat}{x:AV}{v:Value}{b:Bool}{ys:List AV}{rd:Nat}(he:vecOf H s x=some (b,ys,rd))(hb:b=true)(h:MR w0 V S0 U H ob w)(hv:VR (zV w0.heap.size V ob U w) v x):
  ∃(a:Option Addr) (m cap:Nat) (news:List Value),v= .slice a m cap/\Src P w s m a news/\news.length=ys.length/\ ∀(j:Nat) c x,ys[j]? =some c->news[j]? =some x->VR (zV w0.heap.size V ob U w) x c:=by
 subst hb;unfold vecOf at he;split at he
 ·rename_i id c;split at he
  ·rename_i e z pv ys' hH;simp only[Qx,Qk,Qz,decide_eq_true_eq]at he;obtain⟨⟨h1,rfl⟩,rfl,rfl⟩:=he;obtain⟨e1,-⟩:=h.own hv hH h1;obtain⟨-,u,e3,-,-,m,vs,how,hlen,hone,hr⟩:=h.obj id _ hH;rw[e1]at e3;simp only[Qx,Qk]at e3;obtain⟨rfl,-⟩:=e3;rcases how.2 with⟨rfl,rfl⟩|⟨g,cap,cur,rfl,-,hg,hnc,hcm,hcs,htake⟩
   ·exact⟨none,0,0,vs,rfl,⟨how.1,fun _=>rfl,fun ad h=>(by cases h),hone⟩,hlen,hr⟩
   ·exact⟨_,m,cap,vs,rfl,⟨how.1,fun h=>(by cases h),fun ad had j u hj=>by
     injection had with had;subst had;exact how.cells (g:=g) rfl j u hj,hone⟩,hlen,hr⟩
  ·cases he
 ·cases he
theorem zE1{E:Ev}{p:Nat}{v:Value}(hd:VR E v (.t p (.sl 0 []))):v= .slice none 0 0:=by
 have hrep:=hd.rep
 cases hrep with
 |nil z=>rfl
 |emp a z hz=>omega
 |sl b o n cap z cs vs hz=>omega
theorem zMv{t:TypeId}{d x:AV}{vd vx:Value}{eff:Eff}{b:Bool}(he:aAppend P i t d x H=some (b,eff))(hb:b=true)(h:MR w0 V S0 U H ob w)(hi: ¬U i)(hd:VR (zV w0.heap.size V ob U w) vd d)(hx:VR (zV w0.heap.size V ob U w) vx x)(ty:TypeId):
  Good w0 V S0 U ob w i (eff.heap H) eff.val ((Builtin.append_ #[t,t] ty #[vd,vx]>>=fun v=>pure (.value v):Sem Next).run P w):=by
 subst hb;unfold aAppend at he;split at he
 ·rename_i e hel;have hu:=zAv hel;split at he
  ·rename_i s by_ zs hs hby hz;have hE:zs.length=s->0<s->0<by_->Ety P t e s by_:=fun h6 h4 h5=>by
    obtain⟨inf,zv,z1,z2,z3⟩:=zBU hz;obtain⟨inf',q1,hsz⟩:=zDn hs;rw[z1]at q1;injection q1 with q1;subst q1
    obtain⟨inf',q1,hbz⟩:=zIZ hby;rw[z1]at q1;injection q1 with q1;subst q1
    have hzl:=(zEi z3).1;exact⟨hu,⟨inf,zv,z1,z2,hsz,hbz,by simp at hzl;omega⟩,h4,h5⟩
   split at he
   ·rename_i vb ys rd hvec;split at he
    ·rename_i id c;split at he
     ·rename_i e' z p cs hH;simp only[Qx,Qk,Qz,decide_eq_true_eq]at he;obtain⟨⟨⟨⟨⟨⟨⟨h1,h2⟩,h3⟩,h4⟩,h5⟩,h6⟩,h7⟩,rfl⟩:=he;subst h3 h4;have hz0:0<z:=by
       obtain⟨-,u,-,hz,-⟩:=h.obj id _ hH;exact hz
      obtain⟨a,m,cap,news,rfl,hsrc,hl,hrr⟩:=zIc (P:=P) hvec h1 h hx;exact zMq (hE h6 hz0 h5) h hH hd h2 hsrc hl hrr h7
     ·rename_i e' z p cs hH;split at he
      ·rename_i b2 q ts ds hfr;simp only[Qx,Qk,Qz,decide_eq_true_eq]at he;obtain⟨⟨⟨⟨⟨⟨⟨⟨⟨⟨h1,h1b⟩,hdi⟩,h2⟩,h2b⟩,h3⟩,h4⟩,h5⟩,h6⟩,h7⟩,rfl⟩:=he;subst h3 h4;have hdi:id∉ds:=by simpa using hdi
       obtain⟨a,m,cap,news,rfl,hsrc,hl,hrr⟩:=zIc (P:=P) hvec h1 h hx;obtain⟨ob',m1,m2,m3,m4⟩:=zI1 h hl hrr hfr h1b;refine Good.pre m2 ?_;exact zNC (hE h6 h2b h5) m1 (by rw[zNR _ _ _ hdi];exact hH) (hd.ext m2) h2 hsrc m3 m4 h7
      ·cases he
     ·cases he
    ·rename_i p0;split at he
     ·rename_i b2 q ts ds hfr;simp only[Qx,Qk,Qz,decide_eq_true_eq]at he;obtain⟨⟨⟨⟨⟨⟨h1,h1b⟩,h2b⟩,h5⟩,h6⟩,h7⟩,rfl⟩:=he;obtain⟨a,m,cap,news,rfl,hsrc,hl,hrr⟩:=zIc (P:=P) hvec h1 h hx;obtain rfl:=zE1 hd;obtain⟨ob',m1,m2,m3,m4⟩:=zI1 h hl hrr hfr h1b;refine Good.pre m2 ?_;exact zMP (hE h6 h2b h5) m1 hi hsrc m3 m4 h7
     ·cases he
    ·cases he
   ·split at he
    ·rename_i sb q ys rd hsrc;have hone: ∀(news:List Value),news.length=ys.length->(∀(j:Nat) c x,ys[j]? =some c->news[j]? =some x->Rep ((zV w0.heap.size V ob U w).mem q) x c)-> ∀u∈news,u.oneCell'=true:=fun news hl2 hrr u hu=>by
      obtain⟨j,hj,rfl⟩:=Qb hu;exact(hrr j (ys[j]'(by omega)) news[j] (by simp) (by simp)).one
     split at he
     ·rename_i id c;split at he
      ·rename_i e' z p cs hH;simp only[Qx,Qk,Qz,decide_eq_true_eq]at he;obtain⟨⟨⟨⟨⟨⟨⟨h1,h2⟩,h3⟩,h4⟩,h5⟩,h6⟩,h7⟩,rfl⟩:=he;subst h3 h4;obtain⟨a,m,cap,news,rfl,hl1,hl2,hn0,hcc,hrr⟩:=zJo hsrc h1 h hx;have hz:0<z:=by
        obtain⟨-,u,-,hz,-⟩:=h.obj id _ hH;exact hz
       exact zNC (hE h6 hz h5) h hH hd h2 ⟨hl1,hn0,hcc,hone news hl2 hrr⟩ hl2 hrr h7
      ·rename_i e' z p cs hH;simp only[Qx,Qk,Qz,decide_eq_true_eq]at he;obtain⟨⟨⟨⟨⟨⟨⟨h1,h2⟩,h3⟩,h4⟩,h5⟩,h6⟩,h7⟩,rfl⟩:=he;subst h3 h4;have hz0:0<z:=by
        obtain⟨-,u,-,hz,-⟩:=h.obj id _ hH;exact hz
       obtain⟨a,m,cap,news,rfl,hl1,hl2,hn0,hcc,hrr⟩:=zJo hsrc h1 h hx;refine zMq (hE h6 hz0 h5) h hH hd h2 ⟨hl1,hn0,hcc,hone news hl2 hrr⟩ (by simpa using hl2) (fun j c x hj hx=>?_) (by simpa using h7);rw[Qi]at hj
       cases hq:ys[j]? with
       |none=>rw[hq]at hj;cases hj
       |some y=>
        rw[hq]at hj;simp only[Qg,Qx]at hj;subst hj;exact .t _ _ _ (hrr j y x hq hx)
      ·cases he
     ·rename_i p0;simp only[Qx,Qk,Qz,decide_eq_true_eq]at he;obtain⟨⟨⟨⟨⟨h1,h4⟩,h5⟩,h6⟩,h7⟩,rfl⟩:=he;obtain⟨a,m,cap,news,rfl,hl1,hl2,hn0,hcc,hrr⟩:=zJo hsrc h1 h hx;obtain rfl:=zE1 hd;exact zMP (hE h6 h4 h5) h hi ⟨hl1,hn0,hcc,hone news hl2 hrr⟩ hl2 hrr h7
     ·cases he
    ·cases he
  ·cases he
 ·cases he
end
def mpTy(P:Program)(t:TypeId):Option (TypeId×TypeId):=match P.underlying t with|some (.map k e)=>some (k,e)|_=>none
def fldK(P:Program):List Field->Nat->Bool
 |[],_=>true
 | f :: r,o=>f.name != "_" && decide (f.offset = o) && decide (intB P f.type = some .i64) && fldK P r (o + 1)
def kagB(P:Program)(K:TypeId):Option Nat:=match P.underlying K with
 |some (.struct fs)=>if fldK P fs.toList 0&& !P.stoodInHeld K then some fs.size else none
 |some (.array n e)=>if decide (intB P e=some .i64)&&decide (zA6 P e=some 1)then some n else none
 |_=>none
def isI64:T->Bool
 | .int .i64 _=>true
 |_=>false
def kEqL:List T->List T->Bool
 |[],[]=>true
 | .int _ a::r,.int _ b::s=>a==b&&kEqL r s
 |_,_=>false
def kOK(P:Program)(K:TypeId)(x:T):Bool:=match x with
 | .int k _=>decide (intB P K=some k)
 | .str _=>strB P K
 | .sl z cs=>decide (z=99)&&decide (kagB P K=some cs.length)&&cs.all isI64
 |_=>false
def kEq:T->T->Bool
 | .int _ a,.int _ b=>a==b
 | .str a,.str b=>a==b
 | .sl _ a,.sl _ b=>kEqL a b
 |_,_=>false
def keyL:List AV->Option (List T)
 |[]=>some []
 | .t _ (.int .i64 n)::r=>(keyL r).map (.int .i64 n:: ·)
 |_=>none
theorem zCm: ∀(a b:List Int),kEqL (a.map (T.int .i64)) (b.map (T.int .i64))=decide (a=b)
 |[],[]=>by simp[kEqL]
 |[],_::_=>by simp[kEqL]
 |_::_,[]=>by simp[kEqL]
 |x::a,y::b=>by
  simp only[List.map_cons,kEqL,zCm a b];by_cases h:x=y
  ·subst h;simp
  ·simp[h]
theorem KR.key{m:Mem}{v:Value}{cs:List T}{z:Nat}(h:KR m v (.sl z cs)):z=99/\ ∃ns:List Int,v= .agg (ns.map (Value.int .i64)).toArray/\cs=ns.map (T.int .i64):=by
 generalize hx:T.sl z cs=x at h
 cases h with
 |one v x h hx'=>exact absurd hx.symm (hx' _ _)
 |agg ns=>
  injection hx with h1 h2;exact⟨h1,ns,rfl,h2⟩
theorem KR.rep{m:Mem}{v:Value}{x:T}(h:KR m v x)(hx: ∀z cs,x≠ .sl z cs):Rep m v x:=by
 cases h with
 |one v x h _=>exact h
 |agg ns=>exact absurd rfl (hx _ _)
theorem zE8{E:Ev}: ∀{ks:List AV} {ts:List T},keyL ks=some ts-> ∀(vs:List Value),vs.length=ks.length->(∀(i:Nat) c v,ks[i]? =some c->vs[i]? =some v->VR E v c)-> ∃ns:List Int,ts=ns.map (T.int .i64)/\vs=ns.map (Value.int .i64)
 |[],ts,h,vs,hl,_=>by
  simp only[keyL,Qx]at h;subst h;exact⟨[],rfl,List.eq_nil_of_length_eq_zero (by simpa using hl)⟩
 |k::r,ts,h,[],hl,_=>by simp at hl
 |k::r,ts,h,v::vs,hl,hr=>by
  unfold keyL at h;split at h
  ·rename_i heq;cases heq
  ·rename_i p n r' heq;simp only[List.cons.injEq]at heq;obtain⟨rfl,rfl⟩:=heq;obtain⟨ts',h1,h2⟩:=Option.map_eq_some_iff.1 h;obtain⟨ns,h3,h4⟩:=zE8 h1 vs (by simpa using hl) (fun i c v hi hv=>hr (i+1) c v (by simpa using hi) (by simpa using hv));have h5:=(hr 0 _ v rfl rfl).int;exact⟨n::ns,by rw[←h2,h3];rfl,by rw[h4,h5];rfl⟩
  ·cases h
section
variable{P:Program}{w:World}
theorem zB1{e:TypeId}(he:intB P e=some .i64){xs:Array Value}{off:Nat}{v:Value}(hx:xs[off]? =some v):(part e xs off).run P w= .ok v w:=by
 refine run_part_plain w ?_ hx;simp[Program.plainKey,zAb he]
theorem zHt(d:Nat)(aS bs:List Int): ∀(fs:List Field) (o:Nat),fldK P fs o=true->fs.length+o=aS.length->aS.length=bs.length->(Op.eqFields (d+1) (aS.map (Value.int .i64)).toArray (bs.map (Value.int .i64)).toArray fs).run P w= .ok (decide (aS.drop o=bs.drop o)) w
 |[],o,_,h1,h2=>by
  have e1:aS.drop o=[]:=List.drop_eq_nil_of_le (by simp at h1;omega);have e2:bs.drop o=[]:=List.drop_eq_nil_of_le (by simp at h1;omega);simp[Op.eqFields,e1,e2]
 |f::fs,o,hf,h1,h2=>by
  simp only[fldK,Qz,bne_iff_ne,decide_eq_true_eq]at hf;obtain⟨⟨⟨f1,f2⟩,f3⟩,f4⟩:=hf;simp only[List.length_cons]at h1;have ho:o<aS.length:=by omega
  have ho2:o<bs.length:=by omega
  subst f2;have e1:(aS.map (Value.int .i64)).toArray[f.offset]? =some (.int .i64 aS[f.offset]):=by simp[ho]
  have e2:(bs.map (Value.int .i64)).toArray[f.offset]? =some (.int .i64 bs[f.offset]):=by simp[ho2]
  simp only[Op.eqFields,f1,ne_eq,not_false_eq_true,if_true,Sem.run_bind,zB1 f3 e1,zB1 f3 e2,Result.andThen_ok,run_equalIn_int w d f.type .i64 .i64 _ _ (zAb f3)];rw[List.drop_eq_getElem_cons ho,List.drop_eq_getElem_cons ho2];by_cases hq:aS[f.offset]=bs[f.offset]
  ·simp only[hq,beq_self_eq_true,Bool.not_true,Bool.false_eq_true,if_false,zHt d aS bs fs (f.offset+1) f4 (by omega) h2,List.cons.injEq,true_and]
  ·have e3:(aS[f.offset]==bs[f.offset])=false:=by simpa using hq
   have e4:decide (aS[f.offset]::aS.drop (f.offset+1)=bs[f.offset]::bs.drop (f.offset+1))=false:=by
    rw[decide_eq_false_iff_not,List.cons.injEq];exact fun h=>hq h.1
   simp only[e3,e4,Bool.not_false,if_true,Sem.run_pure]
theorem zLD(d:Nat){e:TypeId}(he:intB P e=some .i64)(aS bs:List Int): ∀(n o:Nat),n+o=aS.length->aS.length=bs.length->(Op.eqItems (d+1) e 1 (aS.map (Value.int .i64)).toArray (bs.map (Value.int .i64)).toArray (List.range' o n)).run P w= .ok (decide (aS.drop o=bs.drop o)) w
 |0,o,h1,h2=>by
  have e1:aS.drop o=[]:=List.drop_eq_nil_of_le (by omega);have e2:bs.drop o=[]:=List.drop_eq_nil_of_le (by omega);simp[Op.eqItems,e1,e2]
 |n+1,o,h1,h2=>by
  have ho:o<aS.length:=by omega
  have ho2:o<bs.length:=by omega
  have e1:(aS.map (Value.int .i64)).toArray[o*1]? =some (.int .i64 aS[o]):=by simp[ho]
  have e2:(bs.map (Value.int .i64)).toArray[o*1]? =some (.int .i64 bs[o]):=by simp[ho2]
  rw[List.range'_succ];simp only[Op.eqItems,Sem.run_bind,zB1 he e1,zB1 he e2,Result.andThen_ok,run_equalIn_int w d e .i64 .i64 _ _ (zAb he)];rw[List.drop_eq_getElem_cons ho,List.drop_eq_getElem_cons ho2];by_cases hq:aS[o]=bs[o]
  ·simp only[hq,beq_self_eq_true,Bool.not_true,Bool.false_eq_true,if_false,zLD d he aS bs n (o+1) (by omega) h2,List.cons.injEq,true_and]
  ·have e3:(aS[o]==bs[o])=false:=by simpa using hq
   have e4:decide (aS[o]::aS.drop (o+1)=bs[o]::bs.drop (o+1))=false:=by
    rw[decide_eq_false_iff_not,List.cons.injEq];exact fun h=>hq h.1
   simp only[e3,e4,Bool.not_false,if_true,Sem.run_pure]
theorem zJz{K:TypeId}{n:Nat}(h:kagB P K=some n):(match P.underlying K with|some (.array _ _)|some (.struct _)=>true|_=>false)=true:=by
 unfold kagB at h
 cases hu:P.underlying K with
 |none=>rw[hu]at h;cases h
 |some d=>cases d<;>simp[hu]at h ⊢
theorem zQ0{K:TypeId}{aS bs:List Int}(h:kagB P K=some aS.length)(hl:aS.length=bs.length):(Op.equal K (.agg (aS.map (Value.int .i64)).toArray) (.agg (bs.map (Value.int .i64)).toArray)).run P w= .ok (decide (aS=bs)) w:=by
 unfold kagB at h;unfold Op.equal;split at h
 ·rename_i fs hu;split at h
  ·rename_i hb;simp only[Qz,Bool.not_eq_true']at hb;simp only[Qx]at h;have hfs:P.fieldsOf K=fs:=by simp[Program.fieldsOf,hu]
   rw[show Op.maxDepth=9999+1 from rfl,run_equalIn_struct w 9999 K _ _ (by rw[hfs];exact hu) hb.2,hfs,show 9999=9998+1 from rfl,zHt 9998 aS bs fs.toList 0 hb.1 (by simpa using h) hl];simp
  ·cases h
 ·rename_i n e hu;split at h
  ·rename_i hb;simp only[Qz,decide_eq_true_eq]at hb;simp only[Qx]at h;subst h;obtain⟨i,hi1,hi2⟩:=zDn hb.2;have hc:P.cellsOf e=1:=by simp[Program.cellsOf,hi1,hi2]
   rw[show Op.maxDepth=9999+1 from rfl,run_equalIn_array w 9999 _ _ hu hi1,hc,show 9999=9998+1 from rfl,List.range_eq_range',zLD 9998 hb.1 aS bs aS.length 0 rfl hl];simp
  ·cases h
 ·cases h
theorem zFg{e:TypeId}(he:intB P e=some .i64)(b:Bool)(d:Nat)(n:Int):(Instr.checkKey b (d+1) e (.int .i64 n)).run P w= .ok () w:=by
 rw[Instr.checkKey,Sem.run_bind,run_underlying (zAb he)];rfl
theorem zTs{K:TypeId}{aS:List Int}(h:kagB P K=some aS.length)(b:Bool):(Instr.checkKey b 10000 K (.agg (aS.map (Value.int .i64)).toArray)).run P w= .ok () w:=by
 unfold kagB at h;split at h
 ·rename_i fs hu;split at h
  ·rename_i hb;simp only[Qz,Bool.not_eq_true']at hb;simp only[Qx]at h;rw[show 10000=9998+1+1 from rfl,Instr.checkKey];simp only[Sem.run_bind,run_underlying hu,Result.andThen_ok];rw[←Array.forIn_toList];have key: ∀(L:List Field) (o:Nat),fldK P L o=true->L.length+o=aS.length->(forIn L PUnit.unit fun(f:Field) (_:PUnit)=>(do
     if f.name ≠ "_" then
      let __do_lift ←part f.type (aS.map (Value.int .i64)).toArray f.offset
      Instr.checkKey b (9998+1) f.type __do_lift
      pure (ForInStep.yield PUnit.unit)
     else pure (ForInStep.yield PUnit.unit):Sem (ForInStep PUnit))).run P w= .ok PUnit.unit w:=by
    intro L
    induction L with
    |nil=>intro o _ _;simp
    |cons f L ih=>
     intro o hf hlen;simp only[fldK,Qz,bne_iff_ne,decide_eq_true_eq]at hf;obtain⟨⟨⟨f1,f2⟩,f3⟩,f4⟩:=hf;simp only[List.length_cons]at hlen;have ho:o<aS.length:=by omega
     subst f2;have e1:(aS.map (Value.int .i64)).toArray[f.offset]? =some (.int .i64 aS[f.offset]):=by simp[ho]
     simp only[List.forIn_cons,Sem.run_bind,f1,ne_eq,not_false_eq_true,if_true,Result.andThen_ok,zB1 f3 e1,zFg f3,Sem.run_pure];exact ih (f.offset+1) f4 (by omega)
   have:=key fs.toList 0 hb.1 (by simpa using h);simp at this ⊢;rw[this];rfl
  ·cases h
 ·rename_i n e hu;split at h
  ·rename_i hb;simp only[Qz,decide_eq_true_eq]at hb;simp only[Qx]at h;subst h;rw[show 10000=9998+1+1 from rfl,Instr.checkKey];simp only[Sem.run_bind,run_underlying hu,Result.andThen_ok];simp only[Std.Legacy.Range.forIn_eq_forIn_range',Std.Legacy.Range.size,Nat.sub_zero,Nat.add_one_sub_one,Nat.div_one];have key: ∀(L:List Nat),(∀j∈L,j<aS.length)->(forIn L PUnit.unit fun(i:Nat) (_:PUnit)=>(do
     let __do_lift ←sizeOf e
     let __do_lift ←part e (aS.map (Value.int .i64)).toArray (i*__do_lift)
     Instr.checkKey b (9998+1) e __do_lift
     pure (ForInStep.yield PUnit.unit):Sem (ForInStep PUnit))).run P w= .ok PUnit.unit w:=by
    intro L
    induction L with
    |nil=>intro _;simp
    |cons j L ih=>
     intro hj;have hj0:=hj j (by simp);have e1:(aS.map (Value.int .i64)).toArray[j*1]? =some (.int .i64 aS[j]):=by simp[hj0]
     simp only[List.forIn_cons,Sem.run_bind,zt hb.2,Result.andThen_ok,zB1 hb.1 e1,zFg hb.1,Sem.run_pure];exact ih (fun y hy=>hj y (by simp[hy]))
   have:=key (List.range' 0 aS.length) (fun j hj=>by simpa using(List.mem_range'_1.1 hj).2);simp at this ⊢;rw[this];rfl
  ·cases h
 ·cases h
theorem zUT(ns:List Int):Instr.sameBits 10000 (.agg (ns.map (Value.int .i64)).toArray) (.agg (ns.map (Value.int .i64)).toArray)=true:=by
 show Instr.sameBits (9999+1) _ _=true;simp only[Instr.sameBits,beq_self_eq_true,Bool.true_and,List.all_eq_true];intro p hp;obtain⟨i,hi,e⟩:=Qb hp;rw[List.getElem_zip]at e;rw[←e];simp[Instr.sameBits]
end
def fndT(k:T):List (T×T)->Option Nat
 |[]=>none
 |e::r=>if kEq k e.1 then some 0 else(fndT k r).map (· +1)
def aMkMap(P:Program)(i:Nat)(t:TypeId):Option (Bool×Eff):=match mpTy P t with
 |some (K,Y)=>some (true,{ val:=.own i 0,new:=some (i,.map K Y []),tch:=[i] })
 |none=>none
def aMapUpd(P:Program)(t:TypeId)(m k v:AV)(H:Nat->Option AObj):Option (Bool×Eff):=
 match mpTy P t,m,k,v with
 |some (K,Y),.own id c,.t _ x,.t p y=>match H id with
  |some (.map K' Y' es)=>some (decide (c=0)&&kOK P K x&&es.all (fun e=>kOK P K e.1)&&scal y&&scal x,{ val:=.any,new:=some (id,.map K' Y' (match fndT x es with|some j=>es.set j (x,y)|none=>es++[(x,y)])),tch:=[id] })
  |some (.tmap K' Y' es)=>some (decide (c=0)&&kOK P K x&&es.all (fun e=>kOK P K e.1)&&(scal y||decide (1<=p))&&scal x,{ val:=.any,new:=some (id,.tmap K' Y' (match fndT x es with|some j=>es.set j (x,y)|none=>es++[(x,y)])),tch:=[id] })
  |_=>none
 |some (K,Y),.own id c,.agg ks,.t _ y=>match H id,keyL ks with
  |some (.map K' Y' es),some x=>some (decide (c=0)&&kOK P K (.sl 99 x)&&es.all (fun e=>kOK P K e.1)&&scal y,{ val:=.any,new:=some (id,.map K' Y' (match fndT (.sl 99 x) es with|some j=>es.set j (.sl 99 x,y)|none=>es++[(.sl 99 x,y)])),tch:=[id] })
  |_,_=>none
 |_,_,_,_=>none
def zCH(P:Program)(t:TypeId):Option T:=((P.info? t).bind (·.zero)).bind vT
def aLookup(P:Program)(t:TypeId)(m k:AV)(ok:Bool)(H:Nat->Option AObj):Option (Bool×Eff):=
 match mpTy P t,m,k with
 |some (K,Y),.own id c,.t _ x=>match H id,zCH P Y with
  |some (.map K' Y' es),some z=>some (decide (c=0)&&kOK P K x&&es.all (fun e=>kOK P K e.1)&&scal x,
    { val:=(match fndT x es with
      |some j=>if ok then .tup [.t 2 (es.getD j default).2,.t 2 (.bool true)]else .t 2 (es.getD j default).2
      |none=>if ok then .tup [.t 2 z,.t 2 (.bool false)]else .t 2 z),tch:=[id] })
  |some (.tmap K' Y' es),some z=>some (decide (c=0)&&kOK P K x&&es.all (fun e=>kOK P K e.1)&&scal x,
    { val:=(match fndT x es with
      |some j=>if ok then .tup [.t 1 (es.getD j default).2,.t 2 (.bool true)]else .t 1 (es.getD j default).2
      |none=>if ok then .tup [.t 2 z,.t 2 (.bool false)]else .t 2 z),tch:=[id] })
  |_,_=>none
 |some (K,Y),.own id c,.agg ks=>match H id,zCH P Y,keyL ks with
  |some (.map K' Y' es),some z,some x=>some (decide (c=0)&&kOK P K (.sl 99 x)&&es.all (fun e=>kOK P K e.1),
    { val:=(match fndT (.sl 99 x) es with
      |some j=>if ok then .tup [.t 2 (es.getD j default).2,.t 2 (.bool true)]else .t 2 (es.getD j default).2
      |none=>if ok then .tup [.t 2 z,.t 2 (.bool false)]else .t 2 z),tch:=[id] })
  |_,_,_=>none
 |some (K,Y),.t _ .zFJ,.t _ x=>match zCH P Y with
  |some z=>some (kOK P K x&&scal x,{ val:=if ok then .tup [.t 2 z,.t 2 (.bool false)]else .t 2 z })
  |none=>none
 |_,_,_=>none
theorem zOf{a b:ByteArray}:(a==b)=true↔a=b:=by
 cases a;cases b;rename_i x y;have e:((ByteArray.mk x)==(ByteArray.mk y))=(x==y):=rfl;rw[e];simp
theorem zEj{P:Program}{t K Y:TypeId}(h:mpTy P t=some (K,Y)):P.underlying t=some (.map K Y):=by
 unfold mpTy at h;split at h
 ·rename_i k e he;simp only[Qx,Qk]at h;rw[he,h.1,h.2]
 ·cases h
def kO1(P:Program)(K:TypeId)(x:T):Bool:=match x with
 | .int k _=>decide (intB P K=some k)
 | .str _=>strB P K
 |_=>false
theorem zH5{P:Program}{K:TypeId}{x:T}(hx:kOK P K x=true)(h: ∀z cs,x≠ .sl z cs):kO1 P K x=true:=by
 cases x<;>first|exact hx|exact absurd rfl (h _ _)
theorem zR8{P:Program}{K:TypeId}{d:TypeDesc}(hd:P.underlying K=some d){x y:T}(hx:kO1 P K x=true)(hy:kO1 P K y=true){m m':Mem}{v u:Value}(hv:Rep m v x)(hu:Rep m' u y):Instr.sameNow d v u=some (kEq x y):=by
 cases hv with
 |int k n=>
  have h1:=zAb (of_decide_eq_true hx);rw[hd]at h1;injection h1 with h1;subst h1
  cases hu with
  |int k' n'=>
   have h2:=zAb (of_decide_eq_true hy);rw[hd]at h2;injection h2 with h2;injection h2 with h2;subst h2;simp[Instr.sameNow,kEq]
  |str s=>
   have h2:=zA4 (show strB P K=true from hy);rw[hd]at h2;injection h2 with h2
   cases h2
  |_=>simp[kO1]at hy
 |str s=>
  have h1:=zA4 (show strB P K=true from hx);rw[hd]at h1;injection h1 with h1;subst h1
  cases hu with
  |int k' n'=>
   have h2:=zAb (of_decide_eq_true hy);rw[hd]at h2;injection h2 with h2
   cases h2
  |str s=>simp[Instr.sameNow,kEq]
  |_=>simp[kO1]at hy
 |_=>simp[kO1]at hx
theorem zNQ{P:Program}{K:TypeId}{d:TypeDesc}(hd:P.underlying K=some d){x:T}(hx:kO1 P K x=true){m m2:Mem}{v:Value}(hv:Rep m v x): ∀(xs:List MapEntry) (es:List (T×T)) (i:Nat),xs.length=es.length->(es.all fun e=>kO1 P K e.1)=true->(∀(j:Nat) k y e,es[j]? =some (k,y)->xs[j]? =some e->Rep m2 e.key k)→
  Instr.findNow d v xs i=some (match fndT x es with|some j=>(xs[j]?).map (fun e=>(i+j,e.val))|none=>none)
 |[],[],i,_,_,_=>rfl
 |[],_::_,_,h,_,_=>by simp at h
 |_::_,[],_,h,_,_=>by simp at h
 |e::xs,(k,y)::es,i,hl,ha,hr=>by
  simp only[List.all_cons,Qz]at ha;have h1:=zR8 hd hx ha.1 hv (hr 0 k y e rfl rfl);unfold Instr.findNow;rw[h1];simp only[fndT]
  cases hk:kEq x k with
  |true=>simp
  |false=>
   have ih:=zNQ hd hx hv xs es (i+1) (by simpa using hl) ha.2 (fun j k y e h1 h2=>hr (j+1) k y e (by simpa using h1) (by simpa using h2));simp only[ih]
   cases fndT x es with
   |none=>rfl
   |some j=>
    simp only[Bool.false_eq_true,if_false,Qg,Ql];congr 2;funext e;rw[show i+1+j=i+(j+1) by omega]
theorem zTZ{x:T}{P:Program}{K:TypeId}(hx:kOK P K x=true)(hK:kagB P K=none)(z:Nat)(cs:List T):x≠ .sl z cs:=fun e=>by
 subst e;simp only[kOK,Qz,decide_eq_true_eq]at hx;rw[hK]at hx
 cases hx.1.2
theorem KR.zQx{m:Mem}{v:Value}{x:T}{P:Program}{K:TypeId}(h:KR m v x)(hx:kOK P K x=true)(hK:kagB P K=none):Rep m v x:=h.rep fun z cs e=>by
 subst e;simp only[kOK,Qz,decide_eq_true_eq]at hx;rw[hK]at hx
 cases hx.1.2
theorem zJR{P:Program}{K:TypeId}{n:Nat}(h:kagB P K=some n){y:T}(hy:kOK P K y=true): ∃cs,y= .sl 99 cs/\cs.length=n:=by
 unfold kOK at hy;have hw:=zJz h;split at hy
 ·rw[zAb (of_decide_eq_true hy)]at hw;cases hw
 ·rw[zA4 hy]at hw;cases hw
 ·simp only[Qz,decide_eq_true_eq]at hy;obtain⟨⟨rfl,h2⟩,-⟩:=hy;rw[h]at h2;injection h2 with h2;exact⟨_,rfl,h2.symm⟩
 ·cases hy
theorem zKd{P:Program}{K:TypeId}{x:T}(hx:kOK P K x=true)(h: ∀z cs,x≠ .sl z cs):kagB P K=none:=by
 cases hq:kagB P K with
 |none=>rfl
 |some n=>
  obtain⟨cs,rfl,-⟩:=zJR hq hx;exact absurd rfl (h _ _)
theorem zKl{P:Program}{w:World}{K:TypeId}{ns:List Int}(hK:kagB P K=some ns.length){m2:Mem}: ∀(xs:List MapEntry) (es:List (T×T)) (i:Nat),xs.length=es.length->(es.all fun e=>kOK P K e.1)=true->(∀(j:Nat) k y e,es[j]? =some (k,y)->xs[j]? =some e->KR m2 e.key k)→
  (Instr.findAsking K (.agg (ns.map (Value.int .i64)).toArray) xs i).run P w= .ok (match fndT (.sl 99 (ns.map (T.int .i64))) es with|some j=>(xs[j]?).map (fun e=>(i+j,e.val))|none=>none) w
 |[],[],i,_,_,_=>rfl
 |[],_::_,_,h,_,_=>by simp at h
 |_::_,[],_,h,_,_=>by simp at h
 |e::xs,(k,y)::es,i,hl,ha,hr=>by
  simp only[List.all_cons,Qz]at ha;have h0:=hr 0 k y e rfl rfl;obtain⟨cs,rfl,hcl⟩:=zJR hK ha.1;obtain⟨-,ms,hk1,rfl⟩:=h0.key;have hml:ns.length=ms.length:=by simpa using hcl.symm
  have h1:=zQ0 (P:=P) (w:=w) hK hml;unfold Instr.findAsking;rw[hk1,Sem.run_bind,h1];simp only[fndT,kEq,zCm,Result.andThen_ok];by_cases hq:ns=ms
  ·simp[hq]
  ·have ih:=zKl hK (m2:=m2) xs es (i+1) (by simpa using hl) ha.2 (fun j k y e h1 h2=>hr (j+1) k y e (by simpa using h1) (by simpa using h2)) (w:=w);simp only[hq,decide_false,Bool.false_eq_true,if_false,ih]
   cases fndT (.sl 99 (ns.map (T.int .i64))) es with
   |none=>rfl
   |some j=>
    simp only[Qg,Ql];congr 2;funext e;rw[show i+1+j=i+(j+1) by omega]
theorem zF1{x:T}: ∀{es:List (T×T)} {j:Nat},fndT x es=some j->j<es.length/\ ∃e,es[j]? =some e/\kEq x e.1=true
 |[],j,h=>by simp[fndT]at h
 |e::r,j,h=>by
  unfold fndT at h;by_cases hk:kEq x e.1=true
  ·rw[if_pos hk]at h;injection h with h;subst h;exact⟨by simp,e,rfl,hk⟩
  ·rw[if_neg hk]at h
   cases hq:fndT x r with
   |none=>rw[hq]at h;cases h
   |some j'=>
    rw[hq]at h;simp only[Qg,Qx]at h;subst h;obtain⟨h1,e2,h2,h3⟩:=zF1 hq;exact⟨by simp;omega,e2,by simpa using h2,h3⟩
theorem run_checkKey{P:Program}{w:World}{K:TypeId}{x:T}(hx:kO1 P K x=true){m:Mem}{v:Value}(hv:Rep m v x)(b:Bool):(Instr.checkKey b 10000 K v).run P w= .ok () w:=by
 have e:(10000:Nat)=9999+1:=rfl;rw[e,Instr.checkKey,Sem.run_bind]
 cases hv with
 |int k n=>rw[run_underlying (zAb (of_decide_eq_true hx))];rfl
 |str s=>rw[run_underlying (zA4 (show strB P K=true from hx))];rfl
 |_=>simp[kO1]at hx
theorem zMC{x y:T}{m m':Mem}{v u:Value}(hk:kEq y x=true)(hv:Rep m v x)(hu:Rep m' u y){P:Program}{K:TypeId}(hx:kO1 P K x=true)(hy:kO1 P K y=true):Instr.sameBits 10000 v u=true:=by
 cases hv with
 |int k n=>
  cases hu with
  |int k' n'=>
   have h1:=of_decide_eq_true hx;have h2:=of_decide_eq_true hy;rw[h1]at h2;injection h2 with h2;subst h2;simp[kEq]at hk;simp[Instr.sameBits,hk]
  |_=>simp[kEq]at hk
 |str s=>
  cases hu with
  |str s'=>
   have:s'=s:=zOf.1 hk;subst this;have h:(s'==s')=true:=zOf.2 rfl;simp only[Instr.sameBits,h]
  |_=>simp[kEq]at hk
 |_=>simp[kO1]at hx
theorem zDI{P:Program}{w:World}{K:TypeId}{x:T}(hx:kOK P K x=true){m m2:Mem}{v:Value}(hv:KR m v x)(xs:List MapEntry)(es:List (T×T))(hl:xs.length=es.length)(ha:(es.all fun e=>kOK P K e.1)=true)(hr: ∀(j:Nat) k y e,es[j]? =some (k,y)->xs[j]? =some e->KR m2 e.key k):
  (Instr.findKey K v xs).run P w= .ok (match fndT x es with|some j=>(xs[j]?).map (fun e=>(0+j,e.val))|none=>none) w:=by
 cases hv with
 |one v x hv hxs=>
  have hK:=zKd hx hxs;obtain⟨d,hd⟩: ∃d,P.underlying K=some d:=by
   cases x with
   |int k n=>exact⟨_,zAb (of_decide_eq_true hx)⟩
   |str s=>exact⟨_,zA4 (show strB P K=true from hx)⟩
   |sl z cs=>exact absurd rfl (hxs _ _)
   |_=>simp[kOK]at hx
  have ha1:(es.all fun e=>kO1 P K e.1)=true:=List.all_eq_true.2 fun e he=>zH5 (List.all_eq_true.1 ha e he) (zTZ (List.all_eq_true.1 ha e he) hK)
  have hfind:=zNQ hd (zH5 hx hxs) hv xs es 0 hl ha1 (fun j k y e q1 q2=>(hr j k y e q1 q2).zQx (List.all_eq_true.1 ha (k,y) (Qc q1)) hK);simp only[Instr.findKey,Sem.run_bind,run_underlying hd,Result.andThen_ok,hfind];rfl
 |agg ns=>
  simp only[kOK,Qz,decide_eq_true_eq,List.length_map]at hx;rw[run_findKey_eq w (zJz hx.1.2)];exact zKl hx.1.2 xs es 0 hl ha hr
theorem zCP{P:Program}{w:World}{K:TypeId}{x:T}(hx:kOK P K x=true){m:Mem}{v:Value}(hv:KR m v x)(b:Bool):(Instr.checkKey b 10000 K v).run P w= .ok () w:=by
 cases hv with
 |one v x hv hxs=>exact run_checkKey (zH5 hx hxs) hv b
 |agg ns=>
  simp only[kOK,Qz,decide_eq_true_eq,List.length_map]at hx;exact zTs hx.1.2 b
theorem zK9{x y:T}{m m':Mem}{v u:Value}(hk:kEq y x=true)(hv:KR m v x)(hu:KR m' u y){P:Program}{K:TypeId}(hx:kOK P K x=true)(hy:kOK P K y=true):Instr.sameBits 10000 v u=true:=by
 cases hv with
 |one v x hv hxs=>
  have hK:=zKd hx hxs;exact zMC hk hv (hu.zQx hy hK) (zH5 hx hxs) (zH5 hy (zTZ hy hK))
 |agg ns=>
  simp only[kOK,Qz,decide_eq_true_eq,List.length_map]at hx;obtain⟨cs,rfl,hcl⟩:=zJR hx.1.2 hy;obtain⟨-,ms,rfl,rfl⟩:=hu.key;simp only[kEq,zCm,decide_eq_true_eq]at hk;subst hk;exact zUT _
theorem KR.free{m m':Mem}{v:Value}{x:T}{P:Program}{K:TypeId}(h:KR m v x)(hx:kOK P K x=true):KR m' v x:=by
 cases h with
 |one v x h hs=>
  refine .one v x (h.scal ?_) hs
  cases x<;>first|rfl|exact absurd rfl (hs _ _)
 |agg ns=>exact .agg ns
theorem zSf{x:T}(h:scal x=true)(z:Nat)(cs:List T):x≠ .sl z cs:=fun e=>by subst e;cases h
theorem zSb{E:Ev}{p:Nat}{v:Value}{x:T}(h:VR E v (.t p x)){P:Program}{K:TypeId}(hx:kOK P K x=true)(hs: ∀z cs,x≠ .sl z cs):KR (E.mem p) v x:=.one v x h.rep hs
theorem zVZ{E:Ev}{v:Value}{ks:List AV}{x:List T}(h:VR E v (.agg ks))(hk:keyL ks=some x):KR (E.mem 0) v (.sl 99 x):=by
 cases h with
 |agg vs cs hn h1 hr=>
  obtain⟨ns,rfl,h3⟩:=zE8 hk vs.toList (by simpa using hn) (fun i c v hi hv=>by
   have:=hr i c hi;have hlt:i<vs.size:=by have:=(Qq.1 hv).1;simpa using this
   have hv2:vs[i]=v:=by simpa[hlt]using hv
   simpa[Array.getD,hlt,hv2]using this)
  have:vs=(ns.map (Value.int .i64)).toArray:=by rw[←h3]
  rw[this];exact .agg ns
section
variable{w0 w:World}{V S0 U:Nat->Prop}{H:Nat->Option AObj}{ob:Nat->Option (Value×Nat)}{i:Nat}{P:Program}
theorem zO9{t:TypeId}{eff:Eff}{c:Bool}(he:aMkMap P i t=some (c,eff))(h:MR w0 V S0 U H ob w)(hi: ¬U i):
  Good w0 V S0 U ob w i (eff.heap H) eff.val ((Instr.makeMap t none>>=fun v=>pure (.value v):Sem Next).run P w):=by
 unfold aMkMap at he;split at he
 ·rename_i K Y hm;simp only[Qx,Qk]at he;obtain⟨-,rfl⟩:=he;have hrun:(Instr.makeMap t none).run P w= .ok (.map (some w.heap.size)) (w.alloc (.map #[] 0)):=by simp[Instr.makeMap]
  simp only[Sem.run_bind,hrun,Result.andThen_ok,Sem.run_pure];refine Good.step h (.inl rfl) i (.map (some w.heap.size)) (.map K Y []) (Onl.alloc _ _ _) (fun hU=>absurd hU hi) (fun k hk=>.inr ?_) (.inl rfl) (fun hx=>⟨w.heap.size,0,#[],rfl,heap_alloc_new w _,rfl,fun j k x e hj=>by simp at hj⟩) (fun hx=>.own _ i 0 rfl (.inr rfl) (fun u n hu=>?_))
  ·obtain rfl:w.heap.size=k:=by simpa[blk]using hk
   exact Qy _
  ·have hu:upd ob i (some (.map (some w.heap.size),(AObj.map K Y []).cnt)) i=some (u,n):=hu;rw[zX]at hu;simp only[Qx,Qk]at hu;obtain⟨rfl,rfl⟩:=hu;exact⟨Qy _,fun _=>rfl⟩
 ·cases he
theorem mapUpd_go{t K Y id p' p:Nat}{x y':T}{K' Y':TypeId}{es:List (T×T)}{vm vk vy:Value}{c:Nat}(hmt:mpTy P t=some (K,Y))(h1:c=0)(h2:kOK P K x=true)(h3:(es.all fun e=>kOK P K e.1)=true)(h4:scal y'=true)(hH:H id=some (.map K' Y' es))(h:MR w0 V S0 U H ob w)(hm:VR (zV w0.heap.size V ob U w) vm (.own id c))(hk:KR ((zV w0.heap.size V ob U w).mem p) vk x)(hy:VR (zV w0.heap.size V ob U w) vy (.t p' y')):
  Good w0 V S0 U ob w i (upd H id (some (.map K' Y' (match fndT x es with|some j=>es.set j (x,y')|none=>es++[(x,y')])))) .any ((do Instr.mapUpdate t vm vk vy;pure .skip:Sem Next).run P w):=by
 subst h1;obtain⟨e1,e2⟩:=h.own hm hH rfl;obtain⟨-,u,e3,r,clock,xs,rfl,hg,hsz,hr⟩:=h.obj id _ hH;rw[e1]at e3;simp only[Qx,Qk]at e3;obtain⟨rfl,-⟩:=e3;have hfind:=fun w':World=>zDI (P:=P) (w:=w') h2 hk xs.toList es (by simpa using hsz) h3 (fun j k y e q1 q2=>(hr j k y e q1 (by simpa using q2)).1)
 have hrun0:(Instr.mapUpdate t (.map (some r)) vk vy).run P w=((match(match fndT x es with|some j=>(xs.toList[j]?).map (fun(e:MapEntry)=>(0+j,e.val))|none=>none:Option (Nat×Value))with
   |some (i,_)=>do
    let key ←Instr.keyThatStays (((xs[i]?).map (fun(e:MapEntry)=>e.key)).getD vk) vk
    setObj r (.map (xs.modify i fun e=>{ e with key,val:=vy }) clock)
   |none=>setObj r (.map (xs.push { key:=vk,val:=vy,born:=clock }) (clock+1)):Sem Unit)).run P w:=by
  simp only[Instr.mapUpdate,Sem.run_bind,run_underlying (zEj hmt),Result.andThen_ok,getObj,Sem.run,hg,zCP h2 hk,hfind];rfl
 have hlt:r<w.heap.size:=lt_of_block hg;have hset: ∀(ys:Array MapEntry) (cl:Nat),(setObj r (.map ys cl)).run P w= .ok () { w with heap:=w.heap.setIfInBounds r (.map ys cl) }:=fun ys cl=>by
  simp[setObj,Sem.run,hg]
 have honl: ∀(o:Obj),Onl (fun k=>∃u n,ob id=some (u,n)/\blk u=some k) w { w with heap:=w.heap.setIfInBounds r o }:=fun o=>
  ⟨rfl,rfl,rfl,by simp,fun k hk hn=>by
   have hne:r≠k:=fun e=>hn ⟨_,_,e1,by rw[←e];rfl⟩
   show(w.heap.setIfInBounds r o)[k]? =_;rw[Array.getElem?_setIfInBounds,if_neg hne]⟩
 have hnew: ∀(o:Obj),({ w with heap:=w.heap.setIfInBounds r o }:World).heap[r]? =some o:=fun o=>by
  show(w.heap.setIfInBounds r o)[r]? =_;rw[Array.getElem?_setIfInBounds,if_pos rfl,if_pos hlt]
 have fin: ∀(ys:Array MapEntry) (cl:Nat) (fs:List (T×T)),ys.size=fs.length->(∀(j:Nat) k z e,fs[j]? =some (k,z)->ys[j]? =some e->KR noM e.key k/\Rep noM e.val z)→
   Good w0 V S0 U ob w i (upd H id (some (.map K' Y' fs))) .any (.ok .skip { w with heap:=w.heap.setIfInBounds r (.map ys cl) }):=fun ys cl fs hl hrr=>by
  refine Good.step h (.inr ⟨rfl,rfl⟩) id (.map (some r)) (.map K' Y' fs) (honl _) (fun _=>⟨_,_,e1,Qy _,fun _=>rfl⟩) (fun k hk=>.inl ⟨_,_,e1,hk⟩) (.inr e2) (fun hx=>⟨r,cl,ys,rfl,hnew _,hl,hrr⟩) (fun _=>.any _)
 cases hf:fndT x es with
 |none=>
  rw[hf]at hrun0;simp only[hset]at hrun0;simp only[Sem.run_bind,hrun0,Result.andThen_ok,Sem.run_pure];refine fin _ _ (es++[(x,y')]) (by simp[hsz]) (fun j k z e q1 q2=>?_);by_cases hj:j<es.length
  ·rw[Qw hj]at q1;rw[Array.getElem?_push,if_neg (by omega)]at q2;obtain⟨g1,g2⟩:=hr j k z e q1 q2;exact⟨g1,g2⟩
  ·rw[Qa (by omega)]at q1;have hj2:j=es.length:=by
    have:=(Qq.1 q1).1;simp at this;omega
   subst hj2;rw[Nat.sub_self]at q1;simp only[Qm,Qx,Qk]at q1;obtain⟨rfl,rfl⟩:=q1;rw[Array.getElem?_push,if_pos (by omega)]at q2;injection q2 with q2;subst q2;exact⟨hk.free h2,hy.rep.scal h4⟩
 |some j0=>
  obtain⟨hj0,e0,he0,hke⟩:=zF1 hf;have hjx:j0<xs.size:=by omega
  have hent:xs[j0]? =some xs[j0]:=by simp[hjx]
  have hkx:=hr j0 e0.1 e0.2 xs[j0] he0 hent;have hok0:kOK P K e0.1=true:=List.all_eq_true.1 h3 e0 (Qc he0);have hsb:=zK9 hke hkx.1 hk hok0 h2;rw[hf]at hrun0;have hl2:xs.toList[j0]? =some xs[j0]:=by simp[hjx]
  simp only[hl2,Qg,Nat.zero_add,hent,Qd,Instr.keyThatStays,hsb,if_true,Sem.run_bind,Sem.run_pure,Result.andThen_ok,hset]at hrun0;simp only[Sem.run_bind,hrun0,Result.andThen_ok,Sem.run_pure];refine fin _ _ (es.set j0 (x,y')) (by simp[hsz]) (fun j k z e q1 q2=>?_);rw[List.getElem?_set]at q1;rw[Array.getElem?_modify]at q2;by_cases ej:j0=j
  ·subst ej;rw[if_pos rfl,if_pos hj0]at q1;rw[if_pos rfl]at q2;simp only[Qx,Qk]at q1;obtain⟨rfl,rfl⟩:=q1;rw[hent]at q2;simp only[Qg,Qx]at q2;subst q2;exact⟨hk.free h2,hy.rep.scal h4⟩
  ·rw[if_neg ej]at q1 q2;obtain⟨g1,g2⟩:=hr j k z e q1 q2;exact⟨g1,g2⟩
theorem zLm{t K Y id p' p:Nat}{x y':T}{K' Y':TypeId}{es:List (T×T)}{vm vk vy:Value}{c:Nat}(hmt:mpTy P t=some (K,Y))(h1:c=0)(h2:kOK P K x=true)(h3:(es.all fun e=>kOK P K e.1)=true)(h4:scal y'=true\/1<=p')(hH:H id=some (.tmap K' Y' es))(h:MR w0 V S0 U H ob w)(hm:VR (zV w0.heap.size V ob U w) vm (.own id c))(hk:KR ((zV w0.heap.size V ob U w).mem p) vk x)(hy:VR (zV w0.heap.size V ob U w) vy (.t p' y')):
  Good w0 V S0 U ob w i (upd H id (some (.tmap K' Y' (match fndT x es with|some j=>es.set j (x,y')|none=>es++[(x,y')])))) .any ((do Instr.mapUpdate t vm vk vy;pure .skip:Sem Next).run P w):=by
 subst h1;have hyr:Rep ((zV w0.heap.size V ob U w).mem 1) vy y':=by
  rcases h4 with h4|h4
  ·exact(hy.rep.scal h4).mono (zKT _)
  ·exact hy.rep.mono (fun b o u hu=>zAm h4 b o u hu)
 obtain⟨e1,e2⟩:=h.own hm hH rfl;obtain⟨-,u,e3,r,clock,xs,rfl,hg,hsz,hr⟩:=h.obj id _ hH;rw[e1]at e3;simp only[Qx,Qk]at e3;obtain⟨rfl,-⟩:=e3;have hfind:=fun w':World=>zDI (P:=P) (w:=w') h2 hk xs.toList es (by simpa using hsz) h3 (fun j k y e q1 q2=>(hr j k y e q1 (by simpa using q2)).1)
 have hrun0:(Instr.mapUpdate t (.map (some r)) vk vy).run P w=((match(match fndT x es with|some j=>(xs.toList[j]?).map (fun(e:MapEntry)=>(0+j,e.val))|none=>none:Option (Nat×Value))with
   |some (i,_)=>do
    let key ←Instr.keyThatStays (((xs[i]?).map (fun(e:MapEntry)=>e.key)).getD vk) vk
    setObj r (.map (xs.modify i fun e=>{ e with key,val:=vy }) clock)
   |none=>setObj r (.map (xs.push { key:=vk,val:=vy,born:=clock }) (clock+1)):Sem Unit)).run P w:=by
  simp only[Instr.mapUpdate,Sem.run_bind,run_underlying (zEj hmt),Result.andThen_ok,getObj,Sem.run,hg,zCP h2 hk,hfind];rfl
 have hlt:r<w.heap.size:=lt_of_block hg;have hset: ∀(ys:Array MapEntry) (cl:Nat),(setObj r (.map ys cl)).run P w= .ok () { w with heap:=w.heap.setIfInBounds r (.map ys cl) }:=fun ys cl=>by
  simp[setObj,Sem.run,hg]
 have honl: ∀(o:Obj),Onl (fun k=>∃u n,ob id=some (u,n)/\blk u=some k) w { w with heap:=w.heap.setIfInBounds r o }:=fun o=>
  ⟨rfl,rfl,rfl,by simp,fun k hk hn=>by
   have hne:r≠k:=fun e=>hn ⟨_,_,e1,by rw[←e];rfl⟩
   show(w.heap.setIfInBounds r o)[k]? =_;rw[Array.getElem?_setIfInBounds,if_neg hne]⟩
 have hnew: ∀(o:Obj),({ w with heap:=w.heap.setIfInBounds r o }:World).heap[r]? =some o:=fun o=>by
  show(w.heap.setIfInBounds r o)[r]? =_;rw[Array.getElem?_setIfInBounds,if_pos rfl,if_pos hlt]
 have fin: ∀(ys:Array MapEntry) (cl:Nat) (fs:List (T×T)),ys.size=fs.length->(∀(j:Nat) k z e,fs[j]? =some (k,z)->ys[j]? =some e->KR noM e.key k/\Rep ((zV w0.heap.size V ob U w).mem 1) e.val z)→
   Good w0 V S0 U ob w i (upd H id (some (.tmap K' Y' fs))) .any (.ok .skip { w with heap:=w.heap.setIfInBounds r (.map ys cl) }):=fun ys cl fs hl hrr=>by
  refine Good.step h (.inr ⟨rfl,rfl⟩) id (.map (some r)) (.tmap K' Y' fs) (honl _) (fun _=>⟨_,_,e1,Qy _,fun _=>rfl⟩) (fun k hk=>.inl ⟨_,_,e1,hk⟩) (.inr e2) (fun hx=>⟨r,cl,ys,rfl,hnew _,hl,fun j k z e q1 q2=>⟨(hrr j k z e q1 q2).1,(hrr j k z e q1 q2).2.mono (hx.mem 1)⟩⟩) (fun _=>.any _)
 cases hf:fndT x es with
 |none=>
  rw[hf]at hrun0;simp only[hset]at hrun0;simp only[Sem.run_bind,hrun0,Result.andThen_ok,Sem.run_pure];refine fin _ _ (es++[(x,y')]) (by simp[hsz]) (fun j k z e q1 q2=>?_);by_cases hj:j<es.length
  ·rw[Qw hj]at q1;rw[Array.getElem?_push,if_neg (by omega)]at q2;obtain⟨g1,g2⟩:=hr j k z e q1 q2;exact⟨g1,g2⟩
  ·rw[Qa (by omega)]at q1;have hj2:j=es.length:=by
    have:=(Qq.1 q1).1;simp at this;omega
   subst hj2;rw[Nat.sub_self]at q1;simp only[Qm,Qx,Qk]at q1;obtain⟨rfl,rfl⟩:=q1;rw[Array.getElem?_push,if_pos (by omega)]at q2;injection q2 with q2;subst q2;exact⟨hk.free h2,hyr⟩
 |some j0=>
  obtain⟨hj0,e0,he0,hke⟩:=zF1 hf;have hjx:j0<xs.size:=by omega
  have hent:xs[j0]? =some xs[j0]:=by simp[hjx]
  have hkx:=hr j0 e0.1 e0.2 xs[j0] he0 hent;have hok0:kOK P K e0.1=true:=List.all_eq_true.1 h3 e0 (Qc he0);have hsb:=zK9 hke hkx.1 hk hok0 h2;rw[hf]at hrun0;have hl2:xs.toList[j0]? =some xs[j0]:=by simp[hjx]
  simp only[hl2,Qg,Nat.zero_add,hent,Qd,Instr.keyThatStays,hsb,if_true,Sem.run_bind,Sem.run_pure,Result.andThen_ok,hset]at hrun0;simp only[Sem.run_bind,hrun0,Result.andThen_ok,Sem.run_pure];refine fin _ _ (es.set j0 (x,y')) (by simp[hsz]) (fun j k z e q1 q2=>?_);rw[List.getElem?_set]at q1;rw[Array.getElem?_modify]at q2;by_cases ej:j0=j
  ·subst ej;rw[if_pos rfl,if_pos hj0]at q1;rw[if_pos rfl]at q2;simp only[Qx,Qk]at q1;obtain⟨rfl,rfl⟩:=q1;rw[hent]at q2;simp only[Qg,Qx]at q2;subst q2;exact⟨hk.free h2,hyr⟩
  ·rw[if_neg ej]at q1 q2;obtain⟨g1,g2⟩:=hr j k z e q1 q2;exact⟨g1,g2⟩
theorem zG1{t:TypeId}{m k y:AV}{vm vk vy:Value}{eff:Eff}{c:Bool}(he:aMapUpd P t m k y H=some (c,eff))(hc:c=true)(h:MR w0 V S0 U H ob w)(hm:VR (zV w0.heap.size V ob U w) vm m)(hk:VR (zV w0.heap.size V ob U w) vk k)(hy:VR (zV w0.heap.size V ob U w) vy y):
  Good w0 V S0 U ob w i (eff.heap H) eff.val ((do Instr.mapUpdate t vm vk vy;pure .skip:Sem Next).run P w):=by
 subst hc;unfold aMapUpd at he;split at he
 ·rename_i K Y id c p x p' y' hmt;split at he
  ·rename_i K' Y' es hH;simp only[Qx,Qk,Qz,decide_eq_true_eq]at he;obtain⟨⟨⟨⟨⟨h1,h2⟩,h3⟩,h4⟩,h5⟩,rfl⟩:=he;exact mapUpd_go hmt h1 h2 h3 h4 hH h hm (zSb hk h2 (zSf h5)) hy
  ·rename_i K' Y' es hH;simp only[Qx,Qk,Qz,Bool.or_eq_true,decide_eq_true_eq]at he;obtain⟨⟨⟨⟨⟨h1,h2⟩,h3⟩,h4⟩,h5⟩,rfl⟩:=he;exact zLm hmt h1 h2 h3 h4 hH h hm (zSb hk h2 (zSf h5)) hy
  ·cases he
 ·rename_i K Y id c ks p' y' hmt;split at he
  ·rename_i K' Y' es x hH hkl;simp only[Qx,Qk,Qz,decide_eq_true_eq]at he;obtain⟨⟨⟨⟨h1,h2⟩,h3⟩,h4⟩,rfl⟩:=he;exact mapUpd_go hmt h1 h2 h3 h4 hH h hm (zVZ hk hkl) hy
  ·cases he
 ·cases he
theorem zMD{Y:TypeId}{z:T}(hz:zCH P Y=some z): ∃zv,(zeroValue Y).run P w= .ok zv w/\vT zv=some z:=by
 obtain⟨zv,hzv,hzt⟩: ∃zv,(P.info? Y).bind (·.zero)=some zv/\vT zv=some z:=by
  unfold zCH at hz
  cases hq:(P.info? Y).bind (·.zero)with
  |none=>rw[hq]at hz;cases hz
  |some zv=>rw[hq]at hz;exact⟨zv,rfl,hz⟩
 refine⟨zv,?_,hzt⟩
 cases hq:P.info? Y with
 |none=>rw[hq]at hzv;cases hzv
 |some inf=>rw[hq]at hzv;simp at hzv;simp[zeroValue,typeInfo,hq,hzv]
theorem zHm{t K Y id p:Nat}{x z:T}{K' Y':TypeId}{es:List (T×T)}{vm vk:Value}{b:Bool}{c:Nat}(hmt:mpTy P t=some (K,Y))(hz:zCH P Y=some z)(h1:c=0)(h2:kOK P K x=true)(h3:(es.all fun e=>kOK P K e.1)=true)(hH:H id=some (.map K' Y' es))(h:MR w0 V S0 U H ob w)(hm:VR (zV w0.heap.size V ob U w) vm (.own id c))(hk:KR ((zV w0.heap.size V ob U w).mem p) vk x):
  ∃y,(Instr.lookup t vm vk b).run P w= .ok y w/\VR (zV w0.heap.size V ob U w) y (match fndT x es with
      |some j=>if b then .tup [.t 2 (es.getD j default).2,.t 2 (.bool true)]else .t 2 (es.getD j default).2
      |none=>if b then .tup [.t 2 z,.t 2 (.bool false)]else .t 2 z):=by
 subst h1;obtain⟨e1,e2⟩:=h.own hm hH rfl;obtain⟨-,u,e3,r,clock,xs,rfl,hg,hsz,hr⟩:=h.obj id _ hH;rw[e1]at e3;simp only[Qx,Qk]at e3;obtain⟨rfl,-⟩:=e3;have hfind:=fun w':World=>zDI (P:=P) (w:=w') h2 hk xs.toList es (by simpa using hsz) h3 (fun j k y e q1 q2=>(hr j k y e q1 (by simpa using q2)).1)
 obtain⟨zv,hzv,hzt⟩: ∃zv,(P.info? Y).bind (·.zero)=some zv/\vT zv=some z:=by
  unfold zCH at hz
  cases hq:(P.info? Y).bind (·.zero)with
  |none=>rw[hq]at hz;cases hz
  |some zv=>rw[hq]at hz;exact⟨zv,rfl,hz⟩
 have hzrun:(zeroValue Y).run P w= .ok zv w:=by
  cases hq:P.info? Y with
  |none=>rw[hq]at hzv;cases hzv
  |some inf=>rw[hq]at hzv;simp at hzv;simp[zeroValue,typeInfo,hq,hzv]
 have hrun0:(Instr.lookup t (.map (some r)) vk b).run P w=((do
   let (v,ok) ←match(match fndT x es with|some j=>(xs.toList[j]?).map (fun(e:MapEntry)=>(0+j,e.val))|none=>none:Option (Nat×Value))with
    |some (_,v)=>pure (v,true)
    |none=>pure (←zeroValue Y,false)
   pure (if b then .tuple #[v,.bool ok]else v):Sem Value)).run P w:=by
  simp only[Instr.lookup,Sem.run_bind,run_underlying (zEj hmt),Result.andThen_ok,getObj,Sem.run,hg,Sem.run_pure,zCP h2 hk,hfind];rfl
 cases hf:fndT x es with
 |none=>
  rw[hf]at hrun0;refine⟨if b then .tuple #[zv,.bool false]else zv,?_,?_⟩
  ·rw[hrun0];simp[hzrun]
  ·cases b
   ·exact .t _ 2 _ (Rep.vT hzt)
   ·refine .tup _ _ rfl (fun j c hj=>?_)
    cases j with
    |zero=>simp at hj;subst hj;exact .t _ 2 _ (Rep.vT hzt)
    |succ j=>cases j with
     |zero=>simp at hj;subst hj;exact .zAR _ _ _
     |succ j=>simp at hj
 |some j0=>
  obtain⟨hj0,e0,he0,hke⟩:=zF1 hf;have hjx:j0<xs.size:=by omega
  have hent:xs[j0]? =some xs[j0]:=by simp[hjx]
  have hl2:xs.toList[j0]? =some xs[j0]:=by simp[hjx]
  have hkx:=hr j0 e0.1 e0.2 xs[j0] he0 hent;have hgd:es.getD j0 default=e0:=by simp[he0]
  rw[hf]at hrun0;simp only[hl2,Qg]at hrun0;refine⟨if b then .tuple #[xs[j0].val,.bool true]else xs[j0].val,?_,?_⟩
  ·rw[hrun0];simp
  ·simp only[hgd]
   cases b
   ·exact .t _ 2 _ (hkx.2.mono (zKT _))
   ·refine .tup _ _ rfl (fun j c hj=>?_)
    cases j with
    |zero=>simp at hj;subst hj;exact .t _ 2 _ (hkx.2.mono (zKT _))
    |succ j=>cases j with
     |zero=>simp at hj;subst hj;exact .zAR _ _ _
     |succ j=>simp at hj
theorem zLd{t K Y id p:Nat}{x z:T}{K' Y':TypeId}{es:List (T×T)}{vm vk:Value}{b:Bool}{c:Nat}(hmt:mpTy P t=some (K,Y))(hz:zCH P Y=some z)(h1:c=0)(h2:kOK P K x=true)(h3:(es.all fun e=>kOK P K e.1)=true)(hH:H id=some (.tmap K' Y' es))(h:MR w0 V S0 U H ob w)(hm:VR (zV w0.heap.size V ob U w) vm (.own id c))(hk:KR ((zV w0.heap.size V ob U w).mem p) vk x):
  ∃y,(Instr.lookup t vm vk b).run P w= .ok y w/\VR (zV w0.heap.size V ob U w) y (match fndT x es with
      |some j=>if b then .tup [.t 1 (es.getD j default).2,.t 2 (.bool true)]else .t 1 (es.getD j default).2
      |none=>if b then .tup [.t 2 z,.t 2 (.bool false)]else .t 2 z):=by
 subst h1;obtain⟨e1,e2⟩:=h.own hm hH rfl;obtain⟨-,u,e3,r,clock,xs,rfl,hg,hsz,hr⟩:=h.obj id _ hH;rw[e1]at e3;simp only[Qx,Qk]at e3;obtain⟨rfl,-⟩:=e3;have hfind:=fun w':World=>zDI (P:=P) (w:=w') h2 hk xs.toList es (by simpa using hsz) h3 (fun j k y e q1 q2=>(hr j k y e q1 (by simpa using q2)).1)
 obtain⟨zv,hzv,hzt⟩: ∃zv,(P.info? Y).bind (·.zero)=some zv/\vT zv=some z:=by
  unfold zCH at hz
  cases hq:(P.info? Y).bind (·.zero)with
  |none=>rw[hq]at hz;cases hz
  |some zv=>rw[hq]at hz;exact⟨zv,rfl,hz⟩
 have hzrun:(zeroValue Y).run P w= .ok zv w:=by
  cases hq:P.info? Y with
  |none=>rw[hq]at hzv;cases hzv
  |some inf=>rw[hq]at hzv;simp at hzv;simp[zeroValue,typeInfo,hq,hzv]
 have hrun0:(Instr.lookup t (.map (some r)) vk b).run P w=((do
   let (v,ok) ←match(match fndT x es with|some j=>(xs.toList[j]?).map (fun(e:MapEntry)=>(0+j,e.val))|none=>none:Option (Nat×Value))with
    |some (_,v)=>pure (v,true)
    |none=>pure (←zeroValue Y,false)
   pure (if b then .tuple #[v,.bool ok]else v):Sem Value)).run P w:=by
  simp only[Instr.lookup,Sem.run_bind,run_underlying (zEj hmt),Result.andThen_ok,getObj,Sem.run,hg,Sem.run_pure,zCP h2 hk,hfind];rfl
 cases hf:fndT x es with
 |none=>
  rw[hf]at hrun0;refine⟨if b then .tuple #[zv,.bool false]else zv,?_,?_⟩
  ·rw[hrun0];simp[hzrun]
  ·cases b
   ·exact .t _ 2 _ (Rep.vT hzt)
   ·refine .tup _ _ rfl (fun j c hj=>?_)
    cases j with
    |zero=>simp at hj;subst hj;exact .t _ 2 _ (Rep.vT hzt)
    |succ j=>cases j with
     |zero=>simp at hj;subst hj;exact .zAR _ _ _
     |succ j=>simp at hj
 |some j0=>
  obtain⟨hj0,e0,he0,hke⟩:=zF1 hf;have hjx:j0<xs.size:=by omega
  have hent:xs[j0]? =some xs[j0]:=by simp[hjx]
  have hl2:xs.toList[j0]? =some xs[j0]:=by simp[hjx]
  have hkx:=hr j0 e0.1 e0.2 xs[j0] he0 hent;have hgd:es.getD j0 default=e0:=by simp[he0]
  rw[hf]at hrun0;simp only[hl2,Qg]at hrun0;refine⟨if b then .tuple #[xs[j0].val,.bool true]else xs[j0].val,?_,?_⟩
  ·rw[hrun0];simp
  ·simp only[hgd]
   cases b
   ·exact .t _ 1 _ hkx.2
   ·refine .tup _ _ rfl (fun j c hj=>?_)
    cases j with
    |zero=>simp at hj;subst hj;exact .t _ 1 _ hkx.2
    |succ j=>cases j with
     |zero=>simp at hj;subst hj;exact .zAR _ _ _
     |succ j=>simp at hj
theorem zMB{t:TypeId}{m k:AV}{vm vk:Value}{b:Bool}{eff:Eff}{c:Bool}(he:aLookup P t m k b H=some (c,eff))(hc:c=true)(h:MR w0 V S0 U H ob w)(hm:VR (zV w0.heap.size V ob U w) vm m)(hk:VR (zV w0.heap.size V ob U w) vk k):
  ∃y,(Instr.lookup t vm vk b).run P w= .ok y w/\VR (zV w0.heap.size V ob U w) y eff.val/\eff.new=none/\eff.del=[]:=by
 subst hc;unfold aLookup at he;split at he
 ·rename_i K Y id c p x hmt;split at he
  ·rename_i K' Y' es z hH hz;simp only[Qx,Qk,Qz,decide_eq_true_eq]at he;obtain⟨⟨⟨⟨h1,h2⟩,h3⟩,h5⟩,rfl⟩:=he;obtain⟨y,g1,g2⟩:=zHm (b:=b) hmt hz h1 h2 h3 hH h hm (zSb hk h2 (zSf h5));exact⟨y,g1,g2,rfl,rfl⟩
  ·rename_i K' Y' es z hH hz;simp only[Qx,Qk,Qz,decide_eq_true_eq]at he;obtain⟨⟨⟨⟨h1,h2⟩,h3⟩,h5⟩,rfl⟩:=he;obtain⟨y,g1,g2⟩:=zLd (b:=b) hmt hz h1 h2 h3 hH h hm (zSb hk h2 (zSf h5));exact⟨y,g1,g2,rfl,rfl⟩
  ·cases he
 ·rename_i K Y id c ks hmt;split at he
  ·rename_i K' Y' es z x hH hz hkl;simp only[Qx,Qk,Qz,decide_eq_true_eq]at he;obtain⟨⟨⟨h1,h2⟩,h3⟩,rfl⟩:=he;obtain⟨y,g1,g2⟩:=zHm (b:=b) hmt hz h1 h2 h3 hH h hm (zVZ hk hkl);exact⟨y,g1,g2,rfl,rfl⟩
  ·cases he
 ·rename_i K Y p q x hmt;split at he
  ·rename_i z hz;simp only[Qx,Qk,Qz]at he;obtain⟨⟨h2,h5⟩,rfl⟩:=he;obtain rfl:=hm.zFJ;obtain⟨zv,hzr,hzt⟩:=zMD (w:=w) hz;refine⟨if b then .tuple #[zv,.bool false]else zv,?_,?_,rfl,rfl⟩
   ·have hf:(Instr.findKey K vk []).run P w= .ok none w:=by
     have:=zDI (P:=P) (w:=w) h2 (zSb hk h2 (zSf h5)) [] [] rfl rfl (m2:=fun _ _=>none) (fun j k y e q1 _=>by simp at q1);simpa[fndT]using this
    simp only[Instr.lookup,Sem.run_bind,run_underlying (zEj hmt),Result.andThen_ok,Sem.run_pure,zCP h2 (zSb hk h2 (zSf h5)),hf,hzr]
   ·cases b
    ·exact .t _ 2 _ (Rep.vT hzt)
    ·refine .tup _ _ rfl (fun j c hj=>?_)
     cases j with
     |zero=>simp at hj;subst hj;exact .t _ 2 _ (Rep.vT hzt)
     |succ j=>cases j with
      |zero=>simp at hj;subst hj;exact .zAR _ _ _
      |succ j=>simp at hj
  ·cases he
 ·cases he
end
end Go.Proofs.YtgmcbpjplcjmdaaGreat.M
