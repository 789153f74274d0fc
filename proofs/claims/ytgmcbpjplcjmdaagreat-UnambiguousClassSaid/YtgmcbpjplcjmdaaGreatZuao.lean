/- Lemmas for the law unambiguousClass. No conditions. -/
import Derived.Test.YtgmcbpjplcjmdaaGreatZual
import Derived.Test.YtgmcbpjplcjmdaaGreatZuam
import Derived.Test.YtgmcbpjplcjmdaaGreatZuan
set_option linter.all false
namespace Go.Proofs.YtgmcbpjplcjmdaaGreat.M
open Go.RowKit
set_option maxRecDepth 100000
set_option maxHeartbeats 32000000

def zFI(l:List (List Nat)):List T:=l.map fun t=>.str (zAg t)
@[simp] theorem zT5(l:List (List Nat)):(zFI l).length=l.length:=by simp[zFI]
theorem zHg(l:List (List Nat))(t:List Nat):zFI (l++[t])=zFI l++[.str (zAg t)]:=by simp[zFI]
@[simp] theorem zUD(p:Nat)(l:List (List Nat)):lvs p (zFI l)=2:=by
 unfold lvs zFI;rw[if_pos];simp[scal]
def fmA(F:List (List (List Nat)))(j:Nat):List (List Nat):=F.getD j []
def zm(F:List (List (List Nat)))(j:Nat):AObj:=.row 9 1 1 (zFI (fmA F j))
def zl(b n:Nat)(F:List (List (List Nat))):List AV:=tab n fun j=>.own (b+j) (fmA F j).length
@[simp] theorem zT1(b n:Nat)(F:List (List (List Nat))):(zl b n F).length=n:=by simp[zl]
def zY(tb:List (List Int))(im:List Int)(B n:Nat)(mem:List Nat)(l r:Nat):AObj:=.box 130 [.ptr 1 0 7,.t 1 (rows tb),.t 1 (ints im),.t 2 (.int .i64 B),.t 1 (ints (nI mem)),.own 6 (l*2),.own 7 (r*2),.own 3 n,.own 4 n,.own 5 n]
def zi(tb:List (List Int))(im:List Int):AObj:=.box 80 [.any,.t 1 (rows tb),.any,.t 1 (ints im),.any,.any,.own 2 0]
abbrev zBW(b:Nat)(tb:List (List Int))(im:List Int)(B n:Nat)(es:List (T×T))(cC dC:List T)(mem:List Nat)(ls rs:List (List Nat×Nat))(F:List (List (List Nat))):List AObj:=
 [zY tb im B n mem ls.length rs.length,zi tb im,.tmap 3 81 es,.row 3 1 1 cC,.row 3 1 1 dC,.vec 26 1 1 (zl b n F),.row 184 2 1 (zFK ls),.row 184 2 1 (zFK rs)]
theorem zUB{b1 b2:Nat}{tb:List (List Int)}{im:List Int}{B n:Nat}{es es':List (T×T)}{cC dC cC' dC':List T}{mem:List Nat}{ls rs:List (List Nat×Nat)}{F F':List (List (List Nat))}{X Y:List AObj}(j:Nat)(p:Nat×AV)(hp:[(1,AV.ptr 1 0 7),(6,AV.own 6 (ls.length*2)),(7,AV.own 7 (rs.length*2))][j]? =some p):zSd (zBW b1 tb im B n es cC dC mem ls rs F++X) (zBW b2 tb im B n es' cC' dC' mem ls rs F'++Y) p.1 p.2:=by
 rcases j with _|_|_|j
 ·simp at hp;subst hp;exact .inl ⟨7,_,_,_,_,rfl,rfl,rfl,rfl,rfl⟩
 ·simp at hp;subst hp;exact .inr ⟨_,_,_,_,_,_,_,_,_,rfl,rfl,by simp,rfl,by simp⟩
 ·simp at hp;subst hp;exact .inr ⟨_,_,_,_,_,_,_,_,_,rfl,rfl,by simp,rfl,by simp⟩
 ·simp at hp
theorem zER(F:List (List (List Nat))){v:Nat}(t:List Nat)(hv:v<F.length)(j:Nat):fmA (zCj F v t) j=if j=v then fmA F v++[t]else fmA F j:=by
 unfold zCj fmA;by_cases e:j=v
 ·subst e;simp[Qv,hv]
 ·rw[if_neg e,Qv,List.getElem?_set_ne (Ne.symm e),←Qv]
theorem zMU{n:Nat}{T:Nat->Nat->Nat}{im':Nat->Nat}{L:Nat}{tb:List (List Int)}{im:List Int}(h:zFQ n T im' L tb im){B:Nat}{es:List (M.T×M.T)}{cC dC:List M.T}{mem:List Nat}{ls rs:List (List Nat×Nat)}{F:List (List (List Nat))}(hcC:cC.length=n)(hdC:dC.length=n)(hF:F.length=n){v:Nat}(hv:v<n){t:List Nat}(ht:t.length<=1000)(hl:(fmA F v).length<=1000):
  ∃res H',(res= .t 2 (.bool (decide ((fmA F v).length+1<=400/\t.length/2<=60)))/\H'=zBW 8 tb im B n es cC dC mem ls rs (zCj F v t)++tab n (zm (zCj F v t)))∧
   FnK Tryz.prog 112 [.ptr 0 0 10,.t 2 (.str (zAg t)),.t 2 (.int .i64 v)] (zBW 8 tb im B n es cC dC mem ls rs F++tab n (zm F)) res H' [1,6,7]:=by
 have hn4:=h.n4;refine zCD [(1,.ptr 1 0 7),(6,.own 6 (ls.length*2)),(7,.own 7 (rs.length*2))] Tryz.func112 rfl (by simp[Tryz.f112]) ?_;rw[show Tryz.f112.ntmps=38 from rfl,show Tryz.f112.results= #[.tmp 6]from rfl];rw[zDa];refine zS (σ':=mkF [(0,.ptr 0 0 10),(1,.t 2 (.str (zAg t))),(2,.t 2 (.int .i64 v))]
   [(0,zY tb im B n mem ls.length rs.length),(1,zi tb im),(2,.tmap 3 81 es),(3,.row 3 1 1 cC),(4,.row 3 1 1 dC),(5,.vec 26 1 1 (zl 100 n F)),(6,.row 184 2 1 (zFK ls)),(7,.row 184 2 1 (zFK rs))] 100 n (zm F) 2000 38 [.ptr 0 0 10,.any,.any,.ptr 1 0 7,.own 6 (ls.length*2),.own 7 (rs.length*2)]) ?_ ?_
 ·refine zAQ [(0,some 0),(1,some 1),(2,some 2),(3,some 3),(4,some 4),(5,some 5),(6,some 6),(7,some 7)] (fun j=>8+j) rfl ?_ ?_ ?_ ?_ ?_ ?_
  all_goals try simp +contextual (disch:=omega)[zL,zJ,ze,zW,zAN,ints,zI,zl,zm,zBW,zY,zi,rows,ints,idxE]
  all_goals (try omega)
 refine rg0 ?_;refine zg (by kernel_rfl) (fun K hK=>?_);simp(maxSteps:=2000000)(disch:=omega)[ints,rows,zY,zl,zm,hv,zb,zJ,zL]
 (repeat' first|apply hK|apply And.intro)<;>try first|(show zAY _ _=true;(refine zKa _ 99 (100+v) ?_;simp(disch:=omega) only[zSi,List.map_cons,List.map_nil,zTo,zTp])<;>kernel_rfl)|(show okH _ _ _=true;kernel_rfl)|omega|rfl|(simp<;>omega)
 have hvF:v<F.length:=by omega
 have hadd:=zER F t hvF;have q1:(t.length:Int).tdiv 2=((t.length/2:Nat):Int):=by rw[Int.tdiv_eq_ediv_of_nonneg (by omega)];omega
 obtain⟨u,hu⟩: ∃u,u=t.length/2:=⟨_,rfl⟩;rw[←hu]at q1 ⊢;have w2:IntKind.i64.wrap (u:Int)=(u:Int):=zBs _ (by omega) (by omega);have r1:decide ((fmA F v).length+1<=400/\u<=60)=(decide (((fmA F v).length:Int)+1<=400)&&decide ((u:Int)<=60)):=by
  rw[Bool.eq_iff_iff];simp;omega
 rw[r1];clear r1
 cases c1:decide (((fmA F v).length:Int)+1<=400)with
 |false=>
  have c1': ¬((fmA F v).length:Int)+1<=400:=by simpa using c1
  refine rg1 (an @zY.eq_1 (an @zl.eq_1 (an @zm.eq_1 (an @hv (an @zb (an @zJ (an @zL @c1'))))))) ?_;refine zC ?_;refine⟨⟨_,_,⟨rfl,rfl⟩,?_,?_⟩,by simp⟩
  ·exact zUB
  refine zH0 [(0,some 0),(1,some 1),(2,some 2),(3,some 3),(4,some 4),(5,some 5),(6,some 6),(7,some 7)] (fun j=>100+j) (.inr rfl) ?_ ?_ ?_ ?_ ?_ _ ?_ (by first|(simp;rfl)|rfl)
  all_goals try simp +contextual (disch:=omega)[zL,zJ,ze,zW,zAN,ints,zI,zl,zm,zBW,zY,zi,rows,ints,hadd]
  ·intro j hj;by_cases e:j=v
   ·subst e;simp +contextual (disch:=omega)[zAN]
   ·simp +contextual (disch:=omega)[zAN,e]
  ·intro j hj;by_cases e:j=v
   ·subst e;simp +contextual (disch:=omega)[zHg]
   ·simp +contextual (disch:=omega)[e,zC4 (show 100+j≠100+v by omega)]
 |true=>
  have c1':((fmA F v).length:Int)+1<=400:=by simpa using c1
  refine zF fun K hK=>?_
  simp(maxSteps:=2000000)(disch:=omega)[zm,hv,zJ,zL,c1',q1,w2];and_intros<;>try first|apply hK|omega|rfl|simp<;>omega
  refine zC ?_;refine⟨⟨_,_,⟨rfl,rfl⟩,?_,?_⟩,by simp⟩
  ·exact zUB
  refine zH0 [(0,some 0),(1,some 1),(2,some 2),(3,some 3),(4,some 4),(5,some 5),(6,some 6),(7,some 7)] (fun j=>100+j) (.inr rfl) ?_ ?_ ?_ ?_ ?_ _ ?_ (by first|(simp;rfl)|rfl)
  all_goals try simp +contextual (disch:=omega)[zL,zJ,ze,zW,zAN,ints,zI,zl,zm,zBW,zY,zi,rows,ints,hadd]
  ·intro j hj;by_cases e:j=v
   ·subst e;simp +contextual (disch:=omega)[zAN]
   ·simp +contextual (disch:=omega)[zAN,e]
  ·intro j hj;by_cases e:j=v
   ·subst e;simp +contextual (disch:=omega)[zHg]
   ·simp +contextual (disch:=omega)[e,zC4 (show 100+j≠100+v by omega)]
theorem zBz{α β:Type}{f:β->α->Option β}(I:β->Prop): ∀{l:List α} {b b':β},(∀b a b',a∈l->I b->f b a=some b'->I b')->I b->loopO f b l=some b'->I b'
 |[],b,b',_,hb,h=>by
  injection h with h;rw[←h];exact hb
 |a::l,b,b',hs,hb,h=>by
  unfold loopO at h
  cases e:f b a with
  |none=>rw[e]at h;cases h
  |some b1=>
   rw[e]at h;exact zBz I (fun b a b' ha=>hs b a b' (by simp[ha])) (hs b a b1 (by simp) hb e) h
def FB(n:Nat)(F:List (List (List Nat))):Prop:=F.length=n/\ ∀v,(fmA F v).length<=400/\ ∀p∈fmA F v,p.length<=121
theorem FB.emit{n:Nat}{F F':List (List (List Nat))}(h:FB n F){t:List Nat}{v:Nat}(he:zBO F t v=some F'):FB n F':=by
 unfold zBO at he;split at he
 ·rename_i hok;injection he with he;subst he;refine⟨by unfold zCj;rw[List.length_set];exact h.1,fun j=>?_⟩;by_cases hv:v<F.length
  ·rw[zER F t hv];split
   ·refine⟨by rw[List.length_append,List.length_singleton];exact hok.1,fun p hp=>?_⟩;rcases List.mem_append.1 hp with hp|hp
    ·exact(h.2 v).2 p hp
    ·simp only[List.mem_singleton]at hp;subst hp;omega
   ·exact h.2 j
  ·have e:zCj F v t=F:=by unfold zCj;exact List.set_eq_of_length_le (by omega)
   rw[e];exact h.2 j
 ·cases he
theorem FB.zero(n:Nat):FB n (List.replicate n []):=by
 refine⟨by simp,fun v=>?_⟩;have:fmA (List.replicate n ([]:List (List Nat))) v=[]:=by
  unfold fmA;rw[Qv,List.getElem?_replicate];split<;>rfl
 rw[this];exact⟨by simp,fun p hp=>by cases hp⟩
section
variable{n:Nat}{T:Nat->Nat->Nat}{im:Nat->Nat}{L:Nat}
theorem zJs{fam:Nat->Option (List (List (List Nat)))}{C:Nat->Nat}{B:Nat}: ∀(f:Nat) (st:LSt) (t:List Nat) (x:Nat) (st':LSt),FB n st.1->leftF n T im L fam C B f st t x=some st'->FB n st'.1
 |0,_,_,_,_,_,h=>by cases h
 |f+1,st,t,x,st',hb,h=>by
  unfold leftF at h;split at h
  ·split at h
   ·injection h with h;rw[←h];exact hb
   ·cases h
  ·cases hF:fam (C x)with
   |none=>rw[hF]at h;cases h
   |some F=>
    rw[hF]at h;refine zBz (fun st:LSt=>FB n st.1) (fun st v st' hv hb h=>?_) hb h;refine zBz (fun st:LSt=>FB n st.1) (fun st p st' hp hb h=>?_) hb h
    cases e:zBO st.1 (t++p) (T x v)with
    |none=>rw[e]at h;cases h
    |some l1=>
     rw[e]at h;refine zBz (fun st:LSt=>FB n st.1) (fun st a st' ha hb h=>?_) (FB.emit hb e) h;split at h
     ·exact zJs f _ _ _ _ hb h
     ·injection h with h;rw[←h];exact hb
theorem zP2{F F':List (List (List Nat))}{ls rs:List (List Nat×Nat)}(hb:FB n F)(h:zFS T F ls rs=some F'):FB n F':=by
 refine zBz (fun F=>FB n F) (fun F l F' _ hb h=>?_) hb h;exact zBz (fun F=>FB n F) (fun F r F' _ hb h=>hb.emit h) hb h
theorem zF7{B:Nat}{F:List (List (List Nat))}(h:zEc n T im L B=some F):FB n F:=by
 unfold zEc famF at h
 cases e1:leftF n T im L (famF n T im L B) (zFT n T im L B) B 130 (List.replicate n [],[]) [] 0 with
 |none=>rw[e1]at h;cases h
 |some st=>
  rw[e1]at h;have hb:=zJs 130 _ _ _ _ (FB.zero n) e1
  cases e2:rightF n T im L (famF n T im L B) (zFW n T im L B) B 130 [] [] 0 with
  |none=>simp only[e2]at h;cases h
  |some rs=>
   simp only[e2]at h;exact zP2 hb h
theorem zQB(hd:DaM n T im)(B:Nat):(zIN n T im L B).length<=n:=by
 have key: ∀(k i:Nat) (l:List Nat),i<=l.length->zEm n T im L B l i 0->(genF T im L B k i l).length<=n:=by
  intro k
  induction k with
  |zero=>intro i l _ h;exact h.len
  |succ k ih=>
   intro i l hi h;unfold genF;split
   ·rename_i hc;obtain⟨h1,h2⟩:=h.next hd hc
    have hg:l.getD i 0=l[i]:=by simp[Qv,hc]
    rw[hg];exact ih _ _ h2 h1
   ·exact h.len
 exact key _ _ _ (by simp) (zEm.start hd)
end
section
variable{n:Nat}{T:Nat->Nat->Nat}{im:Nat->Nat}{L:Nat}{C D:Nat->Nat->Nat}
theorem Prw.bytes(h:zJk n T im L C D){k B x:Nat}{w t:List Nat}{r:List (List Nat)}(hx:x<n)(hp:Prw T im L C D k B x w t r): ∀b∈t,b<=B\/b<L:=by
 induction hp with
 |fin _ _ ih=>exact ih h.da.n0
 | @lend B x _ _ _ _ _ _ ih=>
  intro b hb;have:=h.cl B x hx;rcases ih h.da.n0 b hb with e|e
  ·exact .inl (by omega)
  ·exact .inr e
 | @lgo B x a _ _ _ _ _ _ _ _ hab _ _ _ ih1 ih2=>
  intro b hb;have:=h.cl B x hx;rcases List.mem_append.1 hb with hb|hb
  ·rcases ih1 h.da.n0 b hb with e|e
   ·exact .inl (by omega)
   ·exact .inr e
  ·rcases List.mem_cons.1 hb with rfl|hb
   ·exact .inr hab.1
   ·exact ih2 (h.da.lt _ _ (h.da.lt _ _ hx (h.da.vlt _)) (h.da.him _)) b hb
 |rfull _ _=>
  intro b hb;simp only[List.mem_singleton]at hb;exact .inl (by omega)
 | @rend B x _ _ _ _ _ _ ih=>
  intro b hb;have:=h.dl B x hx;rcases ih h.da.n0 b hb with e|e
  ·exact .inl (by omega)
  ·exact .inr e
 | @rgo B x a _ _ _ _ _ _ _ _ hab _ _ _ ih1 ih2=>
  intro b hb;have:=h.dl B x hx;rcases List.mem_append.1 hb with hb|hb
  ·exact ih2 (h.da.lt _ _ (h.da.him _) (h.da.lt _ _ (h.da.vlt _) hx)) b hb
  ·rcases List.mem_cons.1 hb with rfl|hb
   ·exact .inr hab.1
   ·rcases ih1 h.da.n0 b hb with e|e
    ·exact .inl (by omega)
    ·exact .inr e
end
theorem zNw{n:Nat}{T:Nat->Nat->Nat}{im:Nat->Nat}{L B:Nat}(hd:DaM n T im)(hL:L<=6)(hB:B<64){F:List (List (List Nat))}(h:zEc n T im L B=some F){v:Nat}(hv:v<n){t:List Nat}(ht:t∈fmA F v):zIS t/\(∀b∈t,b<64)/\t.length<=121:=by
 obtain⟨w,r,hp,-⟩:=((zRY hd h).iff v hv t).1 ht;refine⟨hp.alt,fun b hb=>?_,((zF7 h).2 v).2 t ht⟩;rcases hp.bytes (zNM hd L) hd.n0 b hb with e|e<;>omega
end Go.Proofs.YtgmcbpjplcjmdaaGreat.M

namespace Go.Proofs.YtgmcbpjplcjmdaaGreat.M
open Go.RowKit Go.Shelf Go.Lib Go.Sort

structure zKf{α:Type}(c:α->α->Int):Prop where
 an: ∀x y,c x y= - c y x
 tr: ∀x y z,c x y<=0->c y z<=0->c x z<=0/\(c x z=0->c x y=0/\c y z=0)
def or2(a b:Int):Int:=if a≠0 then a else b
theorem zKf.or{α:Type}{f g:α->α->Int}(hf:zKf f)(hg:zKf g):zKf fun x y=>or2 (f x y) (g x y):=by
 refine⟨fun x y=>?_,fun x y z h1 h2=>?_⟩
 ·have a1:=hf.an x y;have a2:=hg.an x y;unfold or2;split<;>split<;>omega
 ·have key: ∀a b:Int,or2 a b<=0->a<0\/(a=0/\b<=0):=fun a b h=>by unfold or2 at h;split at h<;>omega
  have k1:=key _ _ h1;have k2:=key _ _ h2;obtain⟨t1,t2⟩:=hf.tr x y z (by omega) (by omega);by_cases e:f x z=0
  ·obtain⟨e1,e2⟩:=t2 e;obtain⟨s1,s2⟩:=hg.tr x y z (by omega) (by omega);unfold or2;simp only[e,e1,e2,ne_eq,not_true,if_false];exact⟨s1,s2⟩
  ·unfold or2;simp only[e,ne_eq,not_false_eq_true,if_true];exact⟨t1,fun h=>h.elim⟩
theorem zRt{x y:Int}:zFL x y<=0↔x<=y:=by
 unfold zFL;by_cases h:x<y
 ·rw[if_pos h];omega
 ·rw[if_neg h];by_cases h2:y<x
  ·rw[if_pos h2];omega
  ·rw[if_neg h2];omega
theorem zGU{x y:Int}:zFL x y=0↔x=y:=by
 unfold zFL;by_cases h:x<y
 ·rw[if_pos h];omega
 ·rw[if_neg h];by_cases h2:y<x
  ·rw[if_pos h2];omega
  ·rw[if_neg h2];omega
theorem zL9:zKf zFL:=by
 refine⟨fun x y=>?_,fun x y z h1 h2=>?_⟩
 ·unfold zFL;split<;>split<;>omega
 ·rw[zRt]at*
  rw[zGU,zGU,zGU];omega
theorem zKf.of{α β:Type}{c:α->α->Int}(h:zKf c)(f:β->α):zKf fun x y=>c (f x) (f y):=⟨fun x y=>h.an _ _,fun x y z=>h.tr _ _ _⟩
theorem zBV(a b:Int)(r s:List Int):cmpLs (a::r) (b::s)=or2 (zFL a b) (cmpLs r s):=rfl
theorem zKg: ∀xs ys:List Int,cmpLs xs ys= - cmpLs ys xs
 |[],[]=>rfl
 |[],_::_=>rfl
 |_::_,[]=>rfl
 |a::r,b::s=>by
  rw[zBV,zBV];have a1:=zL9.an a b;have a2:=zKg r s;unfold or2;split<;>split<;>omega
theorem zKN: ∀xs ys zs:List Int,cmpLs xs ys<=0->cmpLs ys zs<=0->cmpLs xs zs<=0/\(cmpLs xs zs=0->cmpLs xs ys=0/\cmpLs ys zs=0)
 |[],[],[],_,_=>by simp[cmpLs]
 |[],[],_::_,_,_=>by simp[cmpLs]
 |[],_::_,[],_,h=>by simp[cmpLs]at h
 |[],_::_,_::_,_,_=>by simp[cmpLs]
 |_::_,[],_,h,_=>by simp[cmpLs]at h
 |_::_,_::_,[],_,h=>by simp[cmpLs]at h
 |a::r,b::s,d::t,h1,h2=>by
  rw[zBV]at*
  rw[zBV,zBV];have key: ∀a b:Int,or2 a b<=0->a<0\/(a=0/\b<=0):=fun a b h=>by unfold or2 at h;split at h<;>omega
  have k1:=key _ _ h1;have k2:=key _ _ h2;obtain⟨t1,t2⟩:=zL9.tr a b d (by omega) (by omega);by_cases e:zFL a d=0
  ·obtain⟨e1,e2⟩:=t2 e;obtain⟨s1,s2⟩:=zKN r s t (by omega) (by omega);unfold or2;simp only[e,e1,e2,ne_eq,not_true,if_false];exact⟨s1,s2⟩
  ·unfold or2;simp only[e,ne_eq,not_false_eq_true,if_true];exact⟨t1,fun h=>h.elim⟩
theorem zNs:zKf cmpLs:=⟨zKg,zKN⟩
theorem zD1: ∀xs ys:List Int,cmpLs xs ys=0->xs=ys
 |[],[],_=>rfl
 |[],_::_,h=>by simp[cmpLs]at h
 |_::_,[],h=>by simp[cmpLs]at h
 |a::r,b::s,h=>by
  rw[zBV]at h;unfold or2 at h;split at h
  ·contradiction
  ·rename_i hz;have h1:zFL a b=0:=by simpa using hz
   have h2:a=b:=by unfold zFL at h1;split at h1<;>(try split at h1)<;>omega
   rw[h2,zD1 r s h]
theorem zMy:zKf zJU:=zKf.or (zL9.of fun m:Mo=>(m.2.length:Int)) (zKf.or (zNs.of fun m:Mo=>nI m.2) (zNs.of fun m:Mo=>nI m.1))
theorem zQX{a b:List Nat}(h:nI a=nI b):a=b:=by
 unfold nI at h;exact(List.map_inj_right (fun x y e=>by omega)).1 h
theorem zM1{m n:Mo}(h:zJU m n=0):m=n:=by
 unfold zJU orZ at h;split at h
 ·contradiction
 ·split at h
  ·contradiction
  ·rename_i h2;exact Prod.ext (zQX (zD1 _ _ h)) (zQX (zD1 _ _ (by simpa using h2)))
theorem zKf.swo{α:Type}{c:α->α->Int}(h:zKf c):SWO (ltOf c) where
 irrefl x:=by have:=h.an x x;unfold ltOf;simp;omega
 trans x y z h1 h2:=by
  unfold ltOf at*
  rw[decide_eq_true_eq]at*
  obtain⟨t1,t2⟩:=h.tr x y z (by omega) (by omega);by_cases e:c x z=0
  ·have:=(t2 e).1;omega
  ·omega
 ntrans x y z h1 h2:=by
  unfold ltOf at*
  rw[decide_eq_false_iff_not]at*
  have a1:=h.an x y;have a2:=h.an y z;have a3:=h.an x z;have:=(h.tr z y x (by omega) (by omega)).1;omega
theorem zVp(x y:Mo)(h1:ltOf zJU x y=false)(h2:ltOf zJU y x=false):x=y:=by
 unfold ltOf at h1 h2;rw[decide_eq_false_iff_not]at h1 h2;have:=zMy.an x y;exact zM1 (by omega)
def zFV(ms:List Mo):List Mo:=ms.mergeSort fun x y=>!(ltOf zJU) y x
@[simp] theorem zUJ(ms:List Mo):(zFV ms).length=ms.length:=List.length_mergeSort ms
theorem zGH: ∀{ms:List Mo} {j:Nat} (h:j<ms.length*2),(zBb ms)[j]? =some (if j%2=0 then ints (nI (ms[j/2]'(by omega)).1)else ints (nI (ms[j/2]'(by omega)).2))
 |[],j,h=>by simp at h
 |m::ms,j,h=>by
  have hc:zBb (m::ms)=ints (nI m.1)::ints (nI m.2)::zBb ms:=by simp[zBb]
  rw[hc];rcases j with _|_|j
  ·rfl
  ·rfl
  ·have hj:j<ms.length*2:=by simp at h;omega
   have e1:(j+1+1)/2=j/2+1:=by omega
   have e2:(j+1+1)%2=j%2:=by omega
   simp only[Ql,e1,e2,List.getElem_cons_succ];exact zGH hj
theorem zKX{E:Ev}{f:Nat->Value}: ∀{l:List AV},(∀a∈l,ghA1 a= .any)->GhR E f (ghA l):=fun {l} h i c hi=>by
 unfold ghA at hi;rw[Qi]at hi
 cases hq:l[i]? with
 |none=>rw[hq]at hi;cases hi
 |some a=>
  rw[hq]at hi;simp only[Qg,Qx]at hi;rw[h a (Qc hq)]at hi;subst hi;exact .any _
theorem zKv{w:World}{g n cap:Nat}{e:TypeId}{xs:List Value}(h:w.ownsRow 0 e 2 (.slice (some ⟨g,0,none⟩) n cap) n xs)(F:Array Value)(hF:F.size=n*2)(os:Array Obj):(grow (putRow id w g 0 F) os).ownsRow 0 e 2 (.slice (some ⟨g,0,none⟩) n cap) n F.toList/\Onl (fun k=>k=g) w (grow (putRow id w g 0 F) os):=by
 rcases h.2 with⟨hc,-⟩|⟨g',cap',cur,he,-,hg,hnc,hcm,hcs,htake⟩
 ·cases hc
 ·simp only[Value.slice.injEq,Qx,Addr.mk.injEq,true_and,and_true]at he;obtain⟨rfl,rfl⟩:=he;have hnz:n*2<=cap*2:=Nat.mul_le_mul_right 2 hnc;have hlt:g<w.heap.size:=lt_of_block hg;have hput:(putRow id w g 0 F).heap[g]? =some (.cells (putCells id 0 F cur) e (0,0)):=by
   unfold putRow mapBlock;simp only[Array.getElem?_modify,if_true];rw[hg];rfl
  have hsz:(putCells id 0 F cur).size=cur.size:=by simp[putCells]
  refine⟨⟨by simp[hF],.inr ⟨g,cap,putCells id 0 F cur,rfl,by omega,?_,hnc,hcm,by omega,?_⟩⟩,⟨rfl,rfl,rfl,by simp[grow,putRow,mapBlock],fun k hk hn=>?_⟩⟩
  ·show((putRow id w g 0 F).heap++os)[g]? =_;rw[Array.getElem?_append_left (by simpa using hlt)];exact hput
  ·apply List.ext_getElem?;intro k;by_cases hk:k<n*2
   ·have hkc:k<cur.size:=by omega
    rw[List.getElem?_take,if_pos hk];simp[putCells,hkc,hF,hk]
   ·rw[List.getElem?_take,if_neg hk,Qh (by simp[hF];omega)]
  ·show((putRow id w g 0 F).heap++os)[k]? =_;rw[Array.getElem?_append_left (by simpa using hk)];unfold putRow mapBlock;simp only[Array.getElem?_modify];rw[if_neg (fun e=>hn e.symm)]
theorem zTW{vs:Array Value}(hn:vs.size=2):vs= #[vs.getD 0 undef,vs.getD 1 undef]:=by
 apply Array.ext
 ·simpa using hn
 ·intro i h1 h2;have:i<2:=by simpa using h2
  rcases(by omega:i=0\/i=1)with rfl|rfl<;>simp[Array.getD,h1]
theorem zF0{w:World}{m e n:Nat}{v:Value}{xs:List Value}(h:w.ownsRow 0 e 2 v n xs):(Sort.ahead w m).ownsRow 0 e 2 v n xs:=h
abbrev MoV(m:Mem):={ x:Mo×Value×Value//Rep m x.2.1 (ints (nI x.1.1))/\Rep m x.2.2 (ints (nI x.1.2))/\x.1.1.length<=1000000/\x.1.2.length<=1000000 }
def zJC{m:Mem}(x:MoV m):List Value:=[x.1.2.1,x.1.2.2]
theorem zK1{m:Mem}[Inhabited (MoV m)]{d:Array (MoV m)}{j:Nat}(h:j<d.size*2):(flatK zJC 2 d)[j]! =if j%2=0 then(d[j/2]'(by omega)).1.2.1 else(d[j/2]'(by omega)).1.2.2:=by
 rw[get_flatK _ _ _ _ h,getElem!_pos d (j/2) (by omega)];unfold zJC;rcases(by omega:j%2=0\/j%2=1)with e|e<;>rw[e]<;>rfl
theorem zOB{m:Mem}[Inhabited (MoV m)]{d:Array (MoV m)}{ms:List Mo}(hd:d.toList.map (fun x=>x.1.1)=ms){j:Nat}(h:j<ms.length*2){c:T}(hc:(zBb ms)[j]? =some c):Rep m (flatK zJC 2 d)[j]! c:=by
 have hl:d.size=ms.length:=by rw[←hd];simp
 rw[zK1 (by omega)];have hk:j/2<ms.length:=by omega
 rw[zGH h]at hc;injection hc with hc;have hg:ms[j/2]=(d[j/2]'(by omega)).1.1:=by
  have:(d.toList.map (fun x=>x.1.1))[j/2]'(by simp;omega)=(d[j/2]'(by omega)).1.1:=by simp
  rw[←this];simp only[hd]
 rw[←hc];split
 ·rw[hg];exact(d[j/2]'(by omega)).2.1
 ·rw[hg];exact(d[j/2]'(by omega)).2.2.1
theorem zOG{α β:Type}[Inhabited α][Inhabited β](f:α->β){d d':Array α}(h:PermIn 0 d.size d d'):PermIn 0 (d.map f).size (d.map f) (d'.map f):=by
 obtain⟨h1,h2,h3⟩:=h;refine⟨by simp[h1],fun i hi=>?_,?_⟩
 ·rcases hi with hi|hi
  ·omega
  ·rw[Array.size_map]at hi;rw[getElem!_neg _ _ (by simp;omega),getElem!_neg _ _ (by simp;omega)]
 ·have e1:d'.extract 0 d.size=d':=by rw[←h1];exact Array.extract_size
  rw[e1,Array.extract_size]at h3;have e2:(d'.map f).extract 0 (d.map f).size=d'.map f:=by rw[Array.size_map,←h1,←Array.size_map (f:=f)];exact Array.extract_size
  rw[e2,Array.extract_size,Array.toList_map,Array.toList_map];exact h3.map f
set_option maxHeartbeats 4000000 in
theorem zPE{ms:List Mo}(hl:ms.length<=100000)(hml: ∀m∈ms,m.1.length<=1000000/\m.2.length<=1000000):FnK Tryz.prog 35 [.own 0 (ms.length*2),.fn 36 []] [.row 85 2 1 (zBb ms)] (.tup []) [.row 85 2 1 (zBb (zFV ms))] [0]:=by
 intro w V ob vs hm hn hv;have g0:=hv 0 _ rfl;have g1:=hv 1 _ rfl;rw[zTW hn];generalize vs.getD 0 undef=v0 at*
 generalize vs.getD 1 undef=v1 at*
 obtain⟨e1,-⟩:=hm.own g0 (o:=.row 85 2 1 (zBb ms)) rfl (by simp[AObj.cnt]);obtain⟨hU,u,e3,hz,hlv,n,vals,how,hlen,hr⟩:=hm.obj 0 (.row 85 2 1 (zBb ms)) rfl;rw[e1]at e3;simp only[Qx,Qk]at e3;obtain⟨rfl,-⟩:=e3;have hn2:n=ms.length:=by
  have:=how.1;simp at hlen;omega
 subst hn2
 cases g1 with
 |fn f vs' cs hn' hr'=>
  obtain rfl:vs'= #[]:=by
   apply Array.eq_empty_of_size_eq_zero;simpa using hn'
  by_cases h0:0<ms.length
  ·rcases how.2 with⟨-,hc⟩|⟨g,cap,cur,hv0,-,hg,hnc,hcm,hcs,htake⟩
   ·omega
   ·subst hv0;have hlt:g<w.heap.size:=lt_of_block hg;obtain⟨m,hm1⟩: ∃m:Mem,m=(zV w.heap.size V ob (fun k=>k<[AObj.row 85 2 1 (zBb ms)].length) w).mem 1:=⟨_,rfl⟩;have hmem: ∀b o u,m b o=some u->b≠g/\w.cell? ⟨b,o,none⟩=some u/\b<w.heap.size:=fun b o u hu=>by
     rw[hm1]at hu;obtain⟨k1,-,k3⟩:=zZ.1 hu;exact⟨fun e=>k1 ⟨0,_,_,e1,by rw[e];rfl⟩,k3,World.block_lt_of_cell? w _ k3⟩
    have hrep: ∀(j:Nat) (h:j<vals.length) c,(zBb ms)[j]? =some c->Rep m vals[j] c:=fun j h c hc=>by
     rw[hm1];exact hr j c vals[j] hc (by simp)
    have hvl:vals.length=ms.length*2:=by simpa using hlen
    have mk: ∀i,(h:i<ms.length)->Rep m (vals[i*2]'(by omega)) (ints (nI ms[i].1))/\Rep m (vals[i*2+1]'(by omega)) (ints (nI ms[i].2))/\ms[i].1.length<=1000000/\ms[i].2.length<=1000000:=fun i h=>by
     have c1:=zGH (ms:=ms) (j:=i*2) (by omega);have c2:=zGH (ms:=ms) (j:=i*2+1) (by omega);rw[if_pos (by omega)]at c1;rw[if_neg (by omega)]at c2;have d1:i*2/2=i:=by omega
     have d2:(i*2+1)/2=i:=by omega
     simp only[d1]at c1;simp only[d2]at c2;exact⟨hrep _ (by omega) _ c1,hrep _ (by omega) _ c2,hml _ (List.getElem_mem h)⟩
    haveI:Inhabited (MoV m):=⟨⟨(ms[0],vals[0*2]'(by omega),vals[0*2+1]'(by omega)),mk 0 h0⟩⟩
    obtain⟨d,hd⟩: ∃d:Array (MoV m),d=(List.ofFn fun i:Fin ms.length=>(⟨(ms[i.1],vals[i.1*2]'(by omega),vals[i.1*2+1]'(by omega)),mk i.1 i.2⟩:MoV m)).toArray:=⟨_,rfl⟩;have hds:d.size=ms.length:=by rw[hd];simp
    have hdm:d.toList.map (fun x=>x.1.1)=ms:=by
     rw[hd];refine List.ext_getElem (by simp) fun i h1 h2=>?_
     simp
    have hcell: ∀j,j<ms.length*2->w.cell? ⟨g,0+j,none⟩=some ((flatK zJC 2 d)[j]!):=fun j hj=>by
     have hjv:j<vals.length:=by omega
     have h3:=how.cells (g:=g) rfl j vals[j] (by simp);rw[Addr.add_lit]at h3;rw[h3,zK1 (by omega)];congr 1;have e:(d[j/2]'(by omega))=⟨(ms[j/2]'(by omega),vals[j/2*2]'(by omega),vals[j/2*2+1]'(by omega)),mk (j/2) (by omega)⟩:=by simp[hd]
     rw[e];split
     ·have:j/2*2=j:=by omega
      simp only[this]
     ·have:j/2*2+1=j:=by omega
      simp only[this]
    have hH:HoldsK (zJC (m:=m)) 2 w g 0 d:=fun j hj=>⟨hcell j (by have h9:=hj;simp at h9;omega),by simp[World.frozen?,hg]⟩
    have eg: ∀args W,(callFunc 36 args).run Tryz.prog W= .ok (.enter 36 args) W:=enters_of Tryz.func36 (by kernel_rfl) rfl;have hcmp:CmpLays Tryz.prog 36 #[] (zJC (m:=m)) 2 (fun x y=>zJU x.1.1 y.1.1) g 0 d.size w:=fun q os dk hs x y=>by
     obtain⟨-,k2⟩:=zKv (zF0 (m:=q) how) (flatK zJC 2 dk) (by simp[hs,hds]) os;have key: ∀b o u,m b o=some u->(grow (putRow id (Sort.ahead w q) g 0 (flatK zJC 2 dk)) os).cell? ⟨b,o,none⟩=some u:=fun b o u hu=>by
      obtain⟨n1,n2,n3⟩:=hmem b o u hu;rw[World.cell?_of_block (k2.block b n3 n1)];exact n2
     exact zMk x.1.1 y.1.1 x.1.2.1 x.1.2.2 y.1.2.1 y.1.2.2 _ (SlR.of x.2.1 key) (SlR.of x.2.2.1 key) (SlR.of y.2.1 key) (SlR.of y.2.2.1 key) x.2.2.2.1 x.2.2.2.2 y.2.2.2.1 y.2.2.2.2
    have hcall:=AnyQ.slices_SortFunc zNv 2 Tryz.isAgg85 Tryz.sizeOf85 (zJC (m:=m)) (fun _=>rfl) (fun x v hv=>by simp[zJC]at hv;rcases hv with rfl|rfl;exact x.2.1.one;exact x.2.2.1.one) (fun x y=>zJU x.1.1 y.1.1) (zMy.of fun x:MoV m=>x.1.1).swo 36 #[] g 0 cap d w eg hcmp hH hlt (by omega);rw[hds]at hcall;have hcall:Calls Tryz.prog 35 #[.slice (some ⟨g,0,none⟩) ms.length cap,.func (.func 36) #[] #[]] w _:=hcall;refine hcall.mono ?_;rintro e w' ⟨rfl,d',q,os,hp,hs,hw⟩;rw[←hds]at hp hs;have hds':d'.size=ms.length:=hp.1.trans hds;have hsm:d'.toList.map (fun x=>x.1.1)=zFV ms:=by
     have p1:=zOG (fun x:MoV m=>x.1.1) hp;have s1:SortedIn (ltOf zJU) 0 (d.map fun x:MoV m=>x.1.1).size (d'.map fun x:MoV m=>x.1.1):=fun i j hi hij hj=>by
      rw[Array.size_map]at hj;have:=hs i j hi hij hj;rw[getElem!_pos _ _ (by omega),getElem!_pos _ _ (by omega)]at this;rw[getElem!_pos _ _ (by simp;omega),getElem!_pos _ _ (by simp;omega)];simp only[Array.getElem_map];exact this
     have:=sorted_unique_holds (lt:=ltOf zJU) zMy.swo zVp _ _ p1 s1;have e2:(d'.map fun x:MoV m=>x.1.1).toList=((d.map fun x:MoV m=>x.1.1).toList.mergeSort fun x y=>!(ltOf zJU) y x):=by rw[this]
     rw[Array.toList_map,Array.toList_map,hdm]at e2;exact e2
    have hw:w'=grow (putRow id (Sort.ahead w q) g 0 (flatK zJC 2 d')) os:=hw;obtain⟨k1,k2⟩:=zKv (zF0 (m:=q) how) (flatK zJC 2 d') (by simp[hds']) os;rw[←hw]at k1 k2;have k2:Onl (fun k=>k=g) w w':=⟨k2.os,k2.tape,k2.output,k2.size,k2.block⟩;obtain⟨m1,m2⟩:=hm.step 0 (.slice (some ⟨g,0,none⟩) ms.length cap) (.row 85 2 1 (zBb (zFV ms))) (w':=w') (k2.mono (fun k _ hk=>⟨_,_,e1,by rw[hk];rfl⟩)) (fun _=>⟨_,_,e1,by simp[AObj.cnt],fun _=>rfl⟩) (fun k hk=>.inl ⟨_,_,e1,hk⟩)
     (fun hx=>⟨hz,hlv,ms.length,_,k1,by simp[hds'],fun j c x hj hx'=>by
      have hlt:j<ms.length*2:=by
       have:=(Qq.1 hj).1;simpa using this
      have h6:(flatK zJC 2 d').toList[j]? =some ((flatK zJC 2 d')[j]!):=by
       rw[getElem!_pos _ j (by simp[hds'];omega)];simp[hds',hlt]
      rw[h6]at hx';injection hx' with hx';subst hx';have h7:=zOB hsm (j:=j) (by simpa using hlt) hj;generalize(flatK zJC 2 d')[j]! =y at h7 ⊢;rw[hm1]at h7;exact h7.mono (hx.mem 1)⟩)
    have hob:upd ob 0 (some (.slice (some ⟨g,0,none⟩) ms.length cap,(AObj.row 85 2 1 (zBb (zFV ms))).cnt))=ob:=by
     funext k;by_cases e:k=0
     ·subst e;rw[zX,e1];simp[AObj.cnt]
     ·rw[zu _ _ e]
    have hUU:(fun k=>k<[AObj.row 85 2 1 (zBb ms)].length\/k=0)=fun k=>k<[AObj.row 85 2 1 (zBb (zFV ms))].length:=by
     funext k;simp
    have hHH:upd (fun k=>[AObj.row 85 2 1 (zBb ms)][k]?) 0 (some (AObj.row 85 2 1 (zBb (zFV ms))))=fun k=>[AObj.row 85 2 1 (zBb (zFV ms))][k]?:=by
     funext k;by_cases e:k=0
     ·subst e;rw[zX];rfl
     ·rw[zu _ _ e,Qh (by simp;omega),Qh (by simp;omega)]
    rw[hob,hUU,hHH]at m1;exact⟨_,ob,rfl,m1,.tup _ _ rfl (fun i c hi=>by simp at hi),zKX (by simp[ghA1]),fun j hj=>rfl⟩
  ·obtain rfl:ms=[]:=List.eq_nil_of_length_eq_zero (by omega);have hs0:zFV []=[]:=List.eq_nil_of_length_eq_zero (by simp);rw[hs0];obtain⟨p,cap,rfl⟩: ∃p cap,v0= .slice p 0 cap:=by
    rcases how.2 with⟨rfl,-⟩|⟨g,cap,cur,hv0,-,-,-,-,-,-⟩
    ·exact⟨_,_,rfl⟩
    ·exact⟨_,_,hv0⟩
   have hcall:=AnyF.slices_SortFunc_none zNv p cap (.func (.func 36) #[] #[]) w;have hcall:Calls Tryz.prog 35 #[.slice p 0 cap,.func (.func 36) #[] #[]] w _:=hcall;refine hcall.mono ?_;rintro e w' ⟨rfl,rfl⟩;exact⟨_,ob,rfl,hm,.tup _ _ rfl (fun i c hi=>by simp at hi),zKX (by simp[ghA1]),fun j hj=>rfl⟩
end Go.Proofs.YtgmcbpjplcjmdaaGreat.M
