/- Lemmas for the law unambiguousClass. No conditions. -/
import Derived.Test.YtgmcbpjplcjmdaaGreatZuab
import Derived.Lib.AppendStr
import Derived.Laws.CopyRow
import Derived.Laws.IdiomCopy
import Derived.Lib.SliceRun
set_option linter.all false
namespace Go.Proofs.YtgmcbpjplcjmdaaGreat.M
open Go.RowKit
set_option maxRecDepth 100000
set_option maxHeartbeats 32000000

def bsT(b:ByteArray):List T:=b.data.toList.map fun x=>.int .u8 x.toNat
@[simp] theorem zU0(b:ByteArray):(bsT b).length=b.size:=by
 unfold bsT;rw[List.length_map,Array.length_toList];rfl
def u8El(P:Program)(e:TypeId):Bool:=match P.info? e with
 |some inf=>(match inf.zero with
  |some (.int .u8 0)=>true
  |_=>false)&&decide (inf.size=1)&&decide (inf.bytes=1)
 |none=>false
@[simp] def aAppStr(P:Program)(i:Nat)(t t':TypeId)(d x:AV)(H:Nat->Option AObj):Option (Bool×Eff):=
 match elOf P t with
 |some e=>match x with
  | .t _ (.str b)=>match d with
   | .own id c=>match H id with
    |some (.row e' z p cs)=>some (u8El P e&&strB P t'&&decide (cs.length=c)&&decide (z=1)&&decide (e'=e)&&decide ((cs++bsT b).length<=140737488355328),{ val:=.own id (cs++bsT b).length,new:=some (id,.row e 1 p (cs++bsT b)),tch:=[id] })
    |_=>none
   | .t _ (.sl 0 [])=>some (u8El P e&&strB P t'&&decide ((bsT b).length<=140737488355328),{ val:=.own i (bsT b).length,new:=some (i,.row e 1 2 (bsT b)),tch:=[i] })
   |_=>none
  |_=>none
 |none=>none
theorem zKB{P:Program}{e:TypeId}(h:u8El P e=true): ∃inf,P.info? e=some inf/\inf.zero=some (.int .u8 0)/\inf.size=1/\inf.bytes=1:=by
 unfold u8El at h;split at h
 ·rename_i inf hi;simp only[Qz,decide_eq_true_eq]at h;obtain⟨⟨h1,h2⟩,h3⟩:=h;refine⟨inf,hi,?_,h2,h3⟩;split at h1
  ·assumption
  ·cases h1
 ·cases h
theorem zHY{P:Program}{w:World}{t u ty e:TypeId}{i:TypeInfo}(ht:P.underlying t=some (.slice e))(hu:P.underlying u=some .string)(hi:P.info? e=some i)(hz:i.zero=some (.int .u8 0))(hsize:i.size=1)(hby:i.bytes=1)
  {v:Value} {n:Nat} {xs:List Value} (hown:w.ownsRow 0 e 1 v n xs) (s:ByteArray) (hb:n+s.size<=140737488355328) {v':Value} {w':World} (hr:(Builtin.append_ #[t,u] ty #[v,.string s]).run P w= .ok v' w'):
  (v'.ownBlock=v.ownBlock\/v'.ownBlock=some w.heap.size)/\(s.size=0->v'=v):=by
 have hxl:xs.length=n:=by simpa using hown.1
 rcases hown.2 with⟨rfl,rfl⟩|⟨g,cap,cur,rfl,hbg,hg,hnc,hcm,hcs,htake⟩
 ·by_cases hm:s.size=0
  ·have hf:=Go.Lib.run_firstCells_string (P:=P) w 1 s;rw[hm]at hf;have hc0:Go.Lib.strCells s=[]:=List.eq_nil_of_length_eq_zero (by rw[Go.Lib.strCells_length];exact hm);rw[hc0]at hf;have:(Builtin.append_ #[t,u] ty #[Value.slice none 0 0,.string s]).run P w= .ok (.slice none 0 0) w:=by
    simp[Builtin.append_,run_underlying ht,run_underlying hu,sizeOf,typeInfo,hi,hsize,Builtin.lenOf,hm,hf]
   rw[hr]at this;injection this with this;exact⟨.inl (by rw[this]),fun _=>this⟩
  ·have h2:=run_append_nil_string (P:=P) w t u ty e i (.int .u8 0) ht hu hi hz s (by omega) (by omega) (by rw[hby];omega);rw[hr]at h2;injection h2 with h2;exact⟨.inr (by rw[h2];rfl),fun h=>absurd h hm⟩
 ·by_cases hroom:n+s.size<=cap
  ·have hcs':cur.size=cap:=by simpa using hcs
   have h2:=Go.Lib.run_append_room_string (P:=P) w t u ty e i ht hu hi hsize g n cap cur hg s hroom (by omega);rw[hr]at h2;injection h2 with h2;exact⟨.inl (by rw[h2];rfl),fun h=>by rw[h2,h];rfl⟩
  ·have holds: ∀j u,xs[j]? =some u->w.cell? ((⟨g,0,none⟩:Addr).add j)=some u:=hown.cells (g:=g) rfl;have h2:=Go.Lib.run_append_grow_string (P:=P) w t u ty e i (.int .u8 0) ht hu hi hz ⟨g,0,none⟩ n cap xs (by rw[hsize];simpa using hxl) holds s (by omega) (by omega) (by rw[hby];exact growslice_fits (by omega) (by omega));rw[hr]at h2;injection h2 with h2;exact⟨.inr (by rw[h2];rfl),fun h=>absurd h (by omega)⟩
section
variable{w0 w:World}{V S0 U:Nat->Prop}{H:Nat->Option AObj}{ob:Nat->Option (Value×Nat)}{i:Nat}{P:Program}
theorem zOb{t t':TypeId}{d x:AV}{vd vx:Value}{eff:Eff}{b:Bool}(he:aAppStr P i t t' d x H=some (b,eff))(hb:b=true)(h:MR w0 V S0 U H ob w)(hi: ¬U i)(hd:VR (zV w0.heap.size V ob U w) vd d)(hx:VR (zV w0.heap.size V ob U w) vx x)(ty:TypeId):
  Good w0 V S0 U ob w i (eff.heap H) eff.val ((Builtin.append_ #[t,t'] ty #[vd,vx]>>=fun v=>pure (.value v):Sem Next).run P w):=by
 subst hb;unfold aAppStr at he;split at he
 ·rename_i e hel;have hu:=zAv hel;split at he
  ·rename_i q s;obtain rfl:=hx.str;have hget: ∀(m:Mem) (j:Nat) c x,(bsT s)[j]? =some c->(Go.Lib.strCells s)[j]? =some x->Rep m x c:=fun m j c x hj hx=>by
    unfold bsT at hj;unfold Go.Lib.strCells at hx;rw[Qi]at hj hx
    cases hq:s.data.toList[j]? with
    |none=>rw[hq]at hj;cases hj
    |some y=>
     rw[hq]at hj hx;simp only[Qg,Qx]at hj hx;subst hj hx;exact .int .u8 _
   split at he
   ·rename_i id c;split at he
    ·rename_i e' z p cs hH;simp only[Qx,Qk,Qz,decide_eq_true_eq]at he;obtain⟨⟨⟨⟨⟨⟨h1,h2⟩,hc⟩,h3⟩,h4⟩,h7⟩,rfl⟩:=he;subst h3 h4;obtain⟨inf,z1,z2,z3,z4⟩:=zKB h1;have hu':=zA4 h2;obtain⟨e1,e2⟩:=h.own hd hH hc;obtain⟨-,u,e3,hzp,hlv,n,vs,how,hlen,hr⟩:=h.obj id _ hH;rw[e1]at e3;simp only[Qx,Qk]at e3;obtain⟨rfl,-⟩:=e3;have hvn:vs.length=n:=by simpa using how.1
     have hbb:n+s.size<=140737488355328:=by simpa[←hlen,hvn]using h7
     obtain⟨v',w',hrun,r1,r2,-⟩:=Go.Lib.run_append_own_string (P:=P) w 0 t t' ty e' inf hu hu' z1 z2 z3 z4 vd n vs how s (by simp only[maxLen];omega) hbb (by omega);obtain⟨r3,r4⟩:=zHY (ty:=ty) hu hu' z1 z2 z3 z4 how s hbb hrun;simp only[Sem.run_bind,hrun,Result.andThen_ok,Sem.run_pure];have hb1:=zAO how;have hb2:=zAO r1;refine Good.step h (.inl rfl) id v' (.row e' 1 p (cs++bsT s)) (Onl.grown r2 (fun k hk=>⟨_,_,e1,by rw[←hb1];exact hk⟩)) (fun _=>⟨_,_,e1,by simp[AObj.cnt,hc],fun heq=>?_⟩) (fun k hk=>?_) (.inr e2) (fun hx'=>⟨hzp,fun k hk=>?_,n+s.size,vs++Go.Lib.strCells s,r1,by simp[hlen,Go.Lib.strCells_length],fun j c x hj hxx=>?_⟩) (fun hx'=>.own _ id _ ?_ (.inl e2) (fun u' n' hu'=>?_))
     ·simp[AObj.cnt]at heq;exact(r4 (by omega)).symm
     ·rw[←hb2]at hk;rcases r3 with g|g
      ·exact .inl ⟨_,_,e1,by rw[←hb1,←g];exact hk⟩
      ·rw[g]at hk;injection hk with hk;exact .inr (by omega)
     ·rw[←hb2]at hk;rcases r3 with g|g
      ·exact hlv k (by rw[←hb1,←g];exact hk)
      ·rw[g]at hk;injection hk with hk
       have:=h.only.size;exact .inl (by omega)
     ·by_cases hlt:j<cs.length
      ·rw[Qw hlt]at hj;rw[Qw (by omega)]at hxx;exact(hr j c x hj hxx).mono (fun b o u hu=>hx'.mem _ _ _ _ hu)
      ·rw[Qa (by omega)]at hj;rw[Qa (by omega),hlen]at hxx;exact hget _ _ c x hj hxx
     ·rcases r1.2 with⟨rfl,_⟩|⟨g,cap,cur,rfl,_⟩<;>rfl
     ·have hu':upd ob id (some (v',(AObj.row e' 1 p (cs++bsT s)).cnt)) id=some (u',n'):=hu';rw[zX]at hu';simp only[Qx,Qk]at hu';obtain⟨rfl,rfl⟩:=hu';exact⟨Qy _,fun _=>rfl⟩
    ·cases he
   ·rename_i p0;simp only[Qx,Qk,Qz,decide_eq_true_eq]at he;obtain⟨⟨⟨h1,h2⟩,h7⟩,rfl⟩:=he;obtain⟨inf,z1,z2,z3,z4⟩:=zKB h1;have hu':=zA4 h2;obtain rfl:=zE1 hd;have hbb:0+s.size<=140737488355328:=by simpa using h7
    have how:=World.ownsRow_nil w 0 e 1;obtain⟨v',w',hrun,r1,r2,-⟩:=Go.Lib.run_append_own_string (P:=P) w 0 t t' ty e inf hu hu' z1 z2 z3 z4 _ 0 [] how s (by simp only[maxLen];omega) hbb (by omega);obtain⟨r3,r4⟩:=zHY (ty:=ty) hu hu' z1 z2 z3 z4 how s hbb hrun;simp only[Sem.run_bind,hrun,Result.andThen_ok,Sem.run_pure];have hb2:=zAO r1;rw[List.nil_append]at r1;refine Good.row h hi (n:=0+s.size) (cap:=0) (vs:=Go.Lib.strCells s) (by omega) (Onl.grown r2 (fun k hk=>by cases hk)) r1 (by simp[Go.Lib.strCells_length]) (fun k hk=>?_) (fun j c x hj hx=>hget _ j c x hj hx);rw[←hb2]at hk;rcases r3 with g|g
    ·rw[g]at hk;cases hk
    ·rw[g]at hk;injection hk with hk;omega
   ·cases he
  ·cases he
 ·cases he
end
@[simp] def aCopy(P:Program)(i:Nat)(t:TypeId)(d x:AV)(H:Nat->Option AObj):Option (Bool×Eff):=
 match elOf P t with
 |some e=>match zA6 P e with
  |some s=>match srcOf H 1 x with
   |some (b,q,ys,rd)=>match d with
    | .own id c=>match H id with
     |some (.row e' z p cs)=>some (b&&decide (s=1)&&decide (z=1)&&decide (cs.length=c)&&decide (ys.length=cs.length),{ val:=.t 2 (.int .i64 ys.length),new:=some (id,.row e' z (min p (lvs q ys)) ys),tch:=id::rd })
     |_=>none
    |_=>none
   |none=>none
  |none=>none
 |none=>none
section
variable{w0 w:World}{V S0 U:Nat->Prop}{H:Nat->Option AObj}{ob:Nat->Option (Value×Nat)}{i:Nat}{P:Program}
theorem zR3{t t':TypeId}{d x:AV}{vd vx:Value}{eff:Eff}{b:Bool}(he:aCopy P i t d x H=some (b,eff))(hb:b=true)(h:MR w0 V S0 U H ob w)(hd:VR (zV w0.heap.size V ob U w) vd d)(hx:VR (zV w0.heap.size V ob U w) vx x)(ty:TypeId):
  Good w0 V S0 U ob w i (eff.heap H) eff.val ((Builtin.copy_ #[t,t'] ty #[vd,vx]>>=fun v=>pure (.value v):Sem Next).run P w):=by
 subst hb;unfold aCopy at he;split at he
 ·rename_i e hel;have hu:=zAv hel;split at he
  ·rename_i s hs;split at he
   ·rename_i b q ys rd hsrc;split at he
    ·rename_i id c;split at he
     ·rename_i e' z p cs hH;simp only[Qx,Qk,Qz,decide_eq_true_eq]at he;obtain⟨⟨⟨⟨⟨h1,h2⟩,h3⟩,h4⟩,h5⟩,rfl⟩:=he;subst h2 h3;obtain⟨inf,hi1,hi2⟩:=zDn hs;have hsz1:(P.info? e).map (·.size)=some 1:=by rw[hi1];simp[hi2]
      obtain⟨a,m',sc,news,rfl,hnl,hny,hnone,hcell,hrr⟩:=zJo hsrc h1 h hx;obtain⟨e1,e2⟩:=h.own hd hH h4;obtain⟨-,u,e3,hzp,hlv,m,vs,how,hlen,hr⟩:=h.obj id _ hH;rw[e1]at e3;simp only[Qx,Qk]at e3;obtain⟨rfl,-⟩:=e3;have hvl:vs.length=m*1:=how.1;have hreps: ∀(E':Ev),Ext (zV w0.heap.size V ob U w) E'->(∀b o u,(zV w0.heap.size V ob U w).mem (min p (lvs q ys)) b o=some u->E'.mem (min p (lvs q ys)) b o=some u)-> ∀(j:Nat) (c:T) (x:Value),ys[j]? =some c->news[j]? =some x->Rep (E'.mem (min p (lvs q ys))) x c:=fun E' hx' _ j c x hj hxx=>by
       have h6:=(hrr j c x hj hxx).lvs (M:=(zV w0.heap.size V ob U w).mem) hj;exact h6.mono fun b o u hu=>hx'.mem _ _ _ _ (zAm (Nat.min_le_right p (lvs q ys)) b o u hu)
      rcases how.2 with⟨rfl,rfl⟩|⟨g,cap,cur,rfl,hgb,hg,hnc,hcm,hcs,htake⟩
      ·have hy0:ys=[]:=List.eq_nil_of_length_eq_zero (by rw[h5,←hlen];omega);subst hy0;have hrun:=run_copy_none (P:=P) w t t' ty e none a 0 0 m' sc hu hsz1 (by simp);simp only[Sem.run_bind,hrun,Result.andThen_ok,Sem.run_pure];refine Good.step h (.inl rfl) id (.slice none 0 0) (.row e' 1 (min p (lvs q [])) []) (Onl.refl _ _) (fun _=>⟨_,_,e1,by simp[AObj.cnt]at h5 ⊢;omega,fun _=>rfl⟩) (fun k hk=>(by cases hk)) (.inr e2) (fun hx'=>⟨hzp,(fun k hk=>(by cases hk)),0,vs,how,by simpa using hvl,(fun j c x hj _=>(by simp at hj))⟩) (fun _=>?_);exact .mkInt _ 2 .i64 0
      ·have hm':m'=m:=by omega
       subst hm';have hcur:m'*1<=cur.size:=by rw[hcs];exact Nat.mul_le_mul_right 1 hnc
       have hnone1: ∀v∈news,v.oneCell'=true:=fun v hv=>by
        obtain⟨j,hj,rfl⟩:=Qb hv;exact(hrr j (ys[j]'(by omega)) news[j] (by simp) (by simp)).one
       have hrun:(Builtin.copy_ #[t,t'] ty #[.slice (some ⟨g,0,none⟩) m' cap,.slice a m' sc]).run P w= .ok (goInt news.length) (w.setRow g (cur.toList.take 0++news++cur.toList.drop (0+news.length)).toArray):=by
        cases a with
        |none=>
         have h0:=hnone rfl;subst h0;have hn0:news=[]:=List.eq_nil_of_length_eq_zero (by omega);subst hn0;have:=run_copy_none (P:=P) w t t' ty e (some ⟨g,0,none⟩) none 0 cap 0 sc hu hsz1 (by simp);rw[this];simp only[List.take_zero,List.nil_append,List.length_nil,Nat.add_zero,List.drop_zero,Array.toArray_toList];rw[setRow_self w g cur _ (0,0) hg];rfl
        |some ad=>
         exact run_copy_row (P:=P) w t t' ty e g 0 m' cap ad m' sc cur _ news hu hsz1 hg (by simp;omega) (hcell ad rfl) (by omega) hnone1
       simp only[Sem.run_bind,hrun,Result.andThen_ok,Sem.run_pure];refine Good.step h (.inl rfl) id (.slice (some ⟨g,0,none⟩) m' cap) (.row e' 1 (min p (lvs q ys)) ys) ⟨rfl,rfl,rfl,by simp[World.setRow],fun k hk hn=>setRow_other w g k _ (fun e=>hn ⟨_,_,e1,by rw[e];rfl⟩)⟩ (fun _=>⟨_,_,e1,by simp[AObj.cnt];omega,fun _=>rfl⟩) (fun k hk=>.inl ⟨_,_,e1,hk⟩) (.inr e2) (fun hx'=>⟨hzp,fun k hk=>zBc (hlv k hk) (Nat.min_le_left p (lvs q ys)),m',news,?_,by omega,hreps _ hx' (fun b o u hu=>hx'.mem _ _ _ _ hu)⟩) (fun _=>?_)
       ·refine⟨by omega,.inr ⟨g,cap,_,rfl,by omega,setRow_heap w g cur _ _ _ hg,hnc,hcm,?_,?_⟩⟩
        ·simp only[List.size_toArray,List.length_append,List.length_take,List.length_drop,Array.length_toList];omega
        ·rw[show m'*1=news.length by omega];simp
       ·rw[show news.length=ys.length from hny];exact .mkInt _ 2 .i64 _
     ·cases he
    ·cases he
   ·cases he
  ·cases he
 ·cases he
end
@[simp] def aClear(P:Program)(t:TypeId)(d:AV)(H:Nat->Option AObj):Option (Bool×Eff):=
 match elOf P t with
 |some e=>match zeroOf P e with
  |some [z0]=>match d with
   | .own id c=>match H id with
    |some (.row e' z p cs)=>some (decide (z=1)&&decide (cs.length=c),{ val:=.tup [],new:=some (id,.row e' z p (List.replicate cs.length z0)),tch:=[id] })
    |_=>none
   |_=>none
  |_=>none
 |none=>none
section
variable{w0 w:World}{V S0 U:Nat->Prop}{H:Nat->Option AObj}{ob:Nat->Option (Value×Nat)}{i:Nat}{P:Program}
theorem zQP{t:TypeId}{d:AV}{vd:Value}{eff:Eff}{b:Bool}(he:aClear P t d H=some (b,eff))(hb:b=true)(h:MR w0 V S0 U H ob w)(hd:VR (zV w0.heap.size V ob U w) vd d)(ty:TypeId):
  Good w0 V S0 U ob w i (eff.heap H) eff.val ((Builtin.clear_ #[t] ty #[vd]>>=fun v=>pure (.value v):Sem Next).run P w):=by
 subst hb;unfold aClear at he;split at he
 ·rename_i e hel;have hu:=zAv hel;split at he
  ·rename_i z0 hz;split at he
   ·rename_i id c;split at he
    ·rename_i e' z p cs hH;simp only[Qx,Qk,Qz,decide_eq_true_eq]at he;obtain⟨⟨h1,h2⟩,rfl⟩:=he;subst h1;obtain⟨e1,e2⟩:=h.own hd hH h2;obtain⟨-,u,e3,hzp,hlv,m,vs,how,hlen,hr⟩:=h.obj id _ hH;rw[e1]at e3;simp only[Qx,Qk]at e3;obtain⟨rfl,-⟩:=e3;have hvl:vs.length=m*1:=how.1;obtain⟨zv,v0,hzrun,hzc,hz1,hzr⟩: ∃zv v0,(∀w,(zeroValue e).run P w= .ok zv w)/\zv.cells= #[v0]/\v0.oneCell'=true/\ ∀m',Rep m' v0 z0:=by
      unfold zeroOf at hz
      cases hq:P.info? e with
      |none=>rw[hq]at hz;cases hz
      |some inf=>
       rw[hq]at hz;simp only[Option.bind_some]at hz
       cases hq2:inf.zero with
       |none=>rw[hq2]at hz;cases hz
       |some zv=>
        rw[hq2]at hz;simp only[Option.bind_some]at hz;obtain⟨hl0,hg0⟩:=zEi hz;obtain⟨v0,hv0,hvt⟩:=hg0 0 z0 rfl;have hv1:zv.cells.toList=[v0]:=by
         cases hq3:zv.cells.toList with
         |nil=>rw[hq3]at hl0;cases hl0
         |cons a r=>
          rw[hq3]at hl0 hv0;have:r=[]:=List.eq_nil_of_length_eq_zero (by simpa using hl0);subst this;simp only[Qm,Qx]at hv0;rw[hv0]
        have hone:=(Rep.vT (m:=fun _ _=>none) hvt).one;exact⟨zv,v0,fun w=>by simp[zeroValue,typeInfo,hq,hq2],by rw[←Array.toArray_toList (xs:=zv.cells),hv1],hone,fun m'=>Rep.vT hvt⟩
     have hrep: ∀(M:Mem) (j:Nat) c x,(List.replicate cs.length z0)[j]? =some c->(List.replicate m v0)[j]? =some x->Rep M x c:=fun M j c x hj hx=>by
      rw[List.getElem?_replicate]at hj hx;split at hj
      ·split at hx
       ·injection hj with hj;injection hx with hx;subst hj;subst hx;exact hzr M
       ·cases hx
      ·cases hj
     have hm:m=cs.length:=by omega
     rcases how.2 with⟨rfl,rfl⟩|⟨g,cap,cur,rfl,hgb,hg,hnc,hcm,hcs,htake⟩
     ·have hrun:(Builtin.clear_ #[t] ty #[.slice none 0 0]).run P w= .ok (.tuple #[]) w:=by
       simp[Builtin.clear_,run_underlying hu]
      simp only[Sem.run_bind,hrun,Result.andThen_ok,Sem.run_pure];refine Good.step h (.inl rfl) id (.slice none 0 0) (.row e' 1 p (List.replicate cs.length z0)) (Onl.refl _ _) (fun _=>⟨_,_,e1,by simp[AObj.cnt];omega,fun _=>rfl⟩) (fun k hk=>(by cases hk)) (.inr e2) (fun hx'=>⟨hzp,(fun k hk=>(by cases hk)),0,[],⟨by simp,.inl ⟨rfl,rfl⟩⟩,by simp;omega,(fun j c x hj hxx=>(by simp at hxx))⟩) (fun _=>?_);exact .tup _ _ rfl (fun j c hj=>by simp at hj)
     ·by_cases hm0:m=0
      ·subst hm0;have hrun:(Builtin.clear_ #[t] ty #[.slice (some ⟨g,0,none⟩) 0 cap]).run P w= .ok (.tuple #[]) w:=by
        simp[Builtin.clear_,run_underlying hu]
       simp only[Sem.run_bind,hrun,Result.andThen_ok,Sem.run_pure];refine Good.step h (.inl rfl) id (.slice (some ⟨g,0,none⟩) 0 cap) (.row e' 1 p (List.replicate cs.length z0)) (Onl.refl _ _) (fun _=>⟨_,_,e1,by simp[AObj.cnt];omega,fun _=>rfl⟩) (fun k hk=>.inl ⟨_,_,e1,hk⟩) (.inr e2) (fun hx'=>⟨hzp,hlv,0,[],⟨by simp,.inr ⟨g,cap,cur,rfl,hgb,hg,hnc,hcm,hcs,by simp⟩⟩,by simp;omega,(fun j c x hj hxx=>(by simp at hxx))⟩) (fun _=>?_);exact .tup _ _ rfl (fun j c hj=>by simp at hj)
      ·have hcur:m*1<=cur.size:=by rw[hcs];exact Nat.mul_le_mul_right 1 hnc
       have hst:=run_storeCells_at (P:=P) g 0 _ (List.replicate m v0) 0 cur w hg (by simp;omega) (fun v hv=>by rw[(List.mem_replicate.1 hv).2];exact hz1);have hzcs:(Builtin.zeroCells zv.cells m).toList=List.replicate m v0:=by
        rw[hzc];simp[Builtin.zeroCells];apply List.ext_getElem
        ·simp
        ·intro i h1 h2;simp[Nat.mod_one]
       have hrun:(Builtin.clear_ #[t] ty #[.slice (some ⟨g,0,none⟩) m cap]).run P w= .ok (.tuple #[]) (w.setRow g (cur.toList.take (0+0)++List.replicate m v0++cur.toList.drop (0+0+(List.replicate m v0).length)).toArray):=by
        unfold Builtin.clear_;simp only[List.getElem?_toArray,Qm,Sem.run_bind,run_underlying hu,Result.andThen_ok];obtain⟨m',rfl⟩: ∃m',m=m'+1:=⟨m-1,by omega⟩;simp only[hzrun,Result.andThen_ok,hzcs,hst,Sem.run_pure]
       simp only[Sem.run_bind,hrun,Result.andThen_ok,Sem.run_pure];refine Good.step h (.inl rfl) id (.slice (some ⟨g,0,none⟩) m cap) (.row e' 1 p (List.replicate cs.length z0)) ⟨rfl,rfl,rfl,by simp[World.setRow],fun k hk hn=>setRow_other w g k _ (fun e=>hn ⟨_,_,e1,by rw[e];rfl⟩)⟩ (fun _=>⟨_,_,e1,by simp[AObj.cnt];omega,fun _=>rfl⟩) (fun k hk=>.inl ⟨_,_,e1,hk⟩) (.inr e2) (fun hx'=>⟨hzp,hlv,m,List.replicate m v0,?_,by simp;omega,hrep _⟩) (fun _=>?_)
       ·refine⟨by simp,.inr ⟨g,cap,_,rfl,by omega,setRow_heap w g cur _ _ _ hg,hnc,hcm,?_,?_⟩⟩
        ·simp only[List.size_toArray,List.length_append,List.length_take,List.length_drop,Array.length_toList,List.length_replicate];omega
        ·simp
       ·exact .tup _ _ rfl (fun j c hj=>by simp at hj)
    ·cases he
   ·cases he
  ·cases he
 ·cases he
end
def aNil(x:AV)(H:Nat->Option AObj):Option (Bool×Eff):=match x with
 | .ptr id off c=>match H id with
  |some o=>some (decide (o.cnt=c),{ val:=.ptr id off c,tch:=[id] })
  |none=>none
 | .pt p cs=>some (true,{ val:=.pt p cs })
 | .fn f cs=>some (true,{ val:=.fn f cs })
 |_=>none
def aMin(mx:Bool)(x y:AV):Option (Bool×Eff):=match x,y with
 | .t _ (.int k a),.t _ (.int _ b)=>some (true,{ val:=.t 2 (.int k (if mx then(if a<b then b else a)else(if b<a then b else a))) })
 |_,_=>none
def aMin3(x y z:AV):Option (Bool×Eff):=match x,y,z with
 | .t _ (.int k a),.t _ (.int _ b),.t _ (.int _ c)=>some (true,{ val:=.t 2 (.int k (if c<(if b<a then b else a)then c else(if b<a then b else a))) })
 |_,_,_=>none
def aBuiltin(P:Program)(i:Nat)(b:Builtin)(args:List AV)(tys:List TypeId)(H:Nat->Option AObj):Option (Bool×Eff):=
 match b,args,tys with
 | .len,[x],[t]=>aLen P t x H
 | .append,[d,x],[t,t']=>if t=t' then aAppend P i t d x H else aAppStr P i t t' d x H
 | .min,[x,y],_=>aMin false x y
 | .max,[x,y],_=>aMin true x y
 | .copy,[d,x],[t,_]=>aCopy P i t d x H
 | .clear,[d],[t]=>aClear P t d H
 | .min,[x,y,z],_=>aMin3 x y z
 |_,_,_=>none
def slB(P:Program)(t:TypeId):Bool:=match P.underlying t with|some (.slice _)=>true|_=>false
def agB(P:Program)(t:TypeId)(n:Nat):Bool:=decide (kagB P t=some n)&& !P.eqGuardType P.depth t
def aMapNil(P:Program)(op:BinOp)(t:TypeId)(x y:AV)(H:Nat->Option AObj):Option (Bool×Eff):=match op,x,y with
 | .eql,.t _ .zFJ,.t _ .zFJ=>some (mpB P t,{ val:=.t 2 (.bool true) })
 | .eql,.own id c,.t _ .zFJ=>match H id with
  |some (.map _ _ _)=>some (mpB P t&&decide (c=0),{ val:=.t 2 (.bool false),tch:=[id] })
  |_=>none
 | .eql,.t _ (.sl z cs),.t _ (.sl 0 [])=>some (slB P t&&(decide (z=0)||decide (0<cs.length)),{ val:=.t 2 (.bool (decide (cs.length=0))) })
 | .neq,.t _ (.sl z cs),.t _ (.sl 0 [])=>some (slB P t&&(decide (z=0)||decide (0<cs.length)),{ val:=.t 2 (.bool (decide (0<cs.length))) })
 | .eql,.agg xs,.agg ys=>match keyL xs,keyL ys with
  |some aS,some bs=>some (agB P t aS.length&&decide (aS.length=bs.length),{ val:=.t 2 (.bool (kEqL aS bs)) })
  |_,_=>none
 | .neq,.agg xs,.agg ys=>match keyL xs,keyL ys with
  |some aS,some bs=>some (agB P t aS.length&&decide (aS.length=bs.length),{ val:=.t 2 (.bool (!kEqL aS bs)) })
  |_,_=>none
 |_,_,_=>none
theorem zEV{E:Ev}{v:Value}{ks:List AV}{x:List T}(h:VR E v (.agg ks))(hk:keyL ks=some x): ∃ns:List Int,x=ns.map (T.int .i64)/\v= .agg (ns.map (Value.int .i64)).toArray:=by
 cases h with
 |agg vs cs hn h1 hr=>
  obtain⟨ns,rfl,h3⟩:=zE8 hk vs.toList (by simpa using hn) (fun i c v hi hv=>by
   have:=hr i c hi;have hlt:i<vs.size:=by have:=(Qq.1 hv).1;simpa using this
   have hv2:vs[i]=v:=by simpa[hlt]using hv
   simpa[Array.getD,hlt,hv2]using this)
  exact⟨ns,rfl,by rw[←h3]⟩
theorem zKj{P:Program}{w:World}{t:TypeId}{xo yo:Operand}{a b:List Int}(op:BinOp)(hop:op= .eql\/op= .neq)(h:agB P t a.length=true)(hl:a.length=b.length):
  (do eqGuard op t xo yo (.agg (a.map (Value.int .i64)).toArray) (.agg (b.map (Value.int .i64)).toArray);binOp op t (.agg (a.map (Value.int .i64)).toArray) (.agg (b.map (Value.int .i64)).toArray):Sem Value).run P w= .ok (.bool (if op= .eql then decide (a=b)else !decide (a=b))) w:=by
 simp only[agB,Qz,decide_eq_true_eq,Bool.not_eq_true']at h;have he:=zQ0 (P:=P) (w:=w) h.1 hl;rcases hop with rfl|rfl<;>simp[eqGuard,binOp,he,h.2]
theorem zOS{P:Program}{t:TypeId}(h:slB P t=true): ∃e,P.underlying t=some (.slice e):=by
 unfold slB at h;split at h
 ·rename_i e hu;exact⟨e,hu⟩
 ·cases h
theorem zG9{P:Program}(w:World)(t e:TypeId)(a:Option Addr)(n c:Nat)(h:P.underlying t=some (.slice e)):(Op.equal t (.slice a n c) (.slice none 0 0)).run P w= .ok a.isNone w:=by
 simp[Op.equal,Op.maxDepth,Lib.run_equalIn_slice_nil w 9999 t e a n c 0 0 h]
theorem zH1{m:Mem}{v:Value}(h:Rep m v (.sl 0 [])):v= .slice none 0 0:=by
 cases h with
 |nil=>rfl
 |emp a z hz=>omega
 |sl b o n cap z cs vs hz hn h1 h2 hc hr=>omega
theorem zNH{m:Mem}{v:Value}{z:Nat}{cs:List T}(h:Rep m v (.sl z cs))(hz:(decide (z=0)||decide (0<cs.length))=true): ∃a n c,v= .slice a n c/\a.isNone=decide (cs.length=0):=by
 simp only[Bool.or_eq_true,decide_eq_true_eq]at hz
 cases h with
 |nil=>exact⟨_,_,_,rfl,by simp⟩
 |emp a z hz0=>simp at hz;omega
 |sl b o n cap z cs vs hz0 hn h1 h2 hc hr=>
  refine⟨_,_,_,rfl,?_⟩;have:0<cs.length:=by omega
  simp;intro e;subst e;simp at this
theorem zMi{P:Program}{t:TypeId}(h:mpB P t=true): ∃K Y,P.underlying t=some (.map K Y):=by
 unfold mpB at h;split at h
 ·rename_i K Y hu;exact⟨K,Y,hu⟩
 ·cases h
theorem zL6{w0 w:World}{V S0 U:Nat->Prop}{H:Nat->Option AObj}{ob:Nat->Option (Value×Nat)}{P:Program}{op:BinOp}{t:TypeId}{xo yo:Operand}{v u:Value}{x y:AV}{eff:Eff}{c:Bool}(he:aMapNil P op t x y H=some (c,eff))(hc:c=true)(h:MR w0 V S0 U H ob w)(hv:VR (zV w0.heap.size V ob U w) v x)(hu:VR (zV w0.heap.size V ob U w) u y):
  ∃z,(do eqGuard op t xo yo v u;binOp op t v u:Sem Value).run P w= .ok z w/\VR (zV w0.heap.size V ob U w) z eff.val/\eff.new=none/\eff.del=[]:=by
 subst hc;unfold aMapNil at he;split at he
 ·simp only[Qx,Qk]at he;obtain⟨h1,rfl⟩:=he;obtain⟨K,Y,hut⟩:=zMi h1;obtain rfl:=hv.zFJ;obtain rfl:=hu.zFJ;have hrun:(Op.equal t (.map none) (.map none)).run P w= .ok true w:=by
   rw[Op.equal,show Op.maxDepth=9999+1 from rfl,Op.equalIn];simp[run_underlying hut]
  exact⟨.bool true,by simp[eqGuard,binOp,hrun],.zAR _ _ _,rfl,rfl⟩
 ·split at he
  ·rename_i K' Y' es hH;simp only[Qx,Qk,Qz,decide_eq_true_eq]at he;obtain⟨⟨h1,h2⟩,rfl⟩:=he;obtain⟨K,Y,hut⟩:=zMi h1;subst h2;obtain⟨e1,e2⟩:=h.own hv hH rfl;obtain⟨-,u',e3,r,clock,xs,rfl,hg,hsz,hr⟩:=h.obj _ _ hH;rw[e1]at e3;simp only[Qx,Qk]at e3;obtain⟨rfl,-⟩:=e3;obtain rfl:=hu.zFJ;have hrun:(Op.equal t (.map (some r)) (.map none)).run P w= .ok false w:=by
    rw[Op.equal,show Op.maxDepth=9999+1 from rfl,Op.equalIn];simp[run_underlying hut]
   exact⟨.bool false,by simp[eqGuard,binOp,hrun],.zAR _ _ _,rfl,rfl⟩
  ·cases he
 ·simp only[Qx,Qk,Qz]at he;obtain⟨⟨h1,h2⟩,rfl⟩:=he;obtain⟨e,hut⟩:=zOS h1;obtain⟨a,n,c,rfl,ha⟩:=zNH hv.rep h2;obtain rfl:=zH1 hu.rep;have hrun:=zG9 w t e a n c hut;rw[ha]at hrun;exact⟨.bool _,by simp[eqGuard,binOp,hrun],.zAR _ _ _,rfl,rfl⟩
 ·simp only[Qx,Qk,Qz]at he;obtain⟨⟨h1,h2⟩,rfl⟩:=he;obtain⟨e,hut⟩:=zOS h1;obtain⟨a,n,c,rfl,ha⟩:=zNH hv.rep h2;obtain rfl:=zH1 hu.rep;have hrun:=zG9 w t e a n c hut;refine⟨.bool (!a.isNone),by simp[eqGuard,binOp,hrun],?_,rfl,rfl⟩;rename_i _ _ cc _;have:(!a.isNone)=decide (0<cc.length):=by
   rw[ha];by_cases h0:cc.length=0
   ·simp[h0]
   ·simp[h0,Nat.pos_of_ne_zero h0]
  rw[this];exact .zAR _ _ _
 ·split at he
  ·rename_i aS bs ha hb;simp only[Qx,Qk,Qz,decide_eq_true_eq]at he;obtain⟨⟨h1,h2⟩,rfl⟩:=he;obtain⟨a,rfl,rfl⟩:=zEV hv ha;obtain⟨b,rfl,rfl⟩:=zEV hu hb;simp only[List.length_map]at h1 h2;refine⟨_,zKj .eql (.inl rfl) h1 h2,?_,rfl,rfl⟩;rw[zCm];exact .zAR _ _ _
  ·cases he
 ·split at he
  ·rename_i aS bs ha hb;simp only[Qx,Qk,Qz,decide_eq_true_eq]at he;obtain⟨⟨h1,h2⟩,rfl⟩:=he;obtain⟨a,rfl,rfl⟩:=zEV hv ha;obtain⟨b,rfl,rfl⟩:=zEV hu hb;simp only[List.length_map]at h1 h2;refine⟨_,zKj .neq (.inr rfl) h1 h2,?_,rfl,rfl⟩;rw[zCm];exact .zAR _ _ _
  ·cases he
 ·cases he
def aop(P:Program)(i:Nat)(op:Op)(ev:Operand->AV)(H:Nat->Option AObj):Option (Bool×Eff):=
 match op with
 | .move x=>some (true,{ val:=ev x })
 | .assign x=>some (true,{ val:=ev x })
 | .pick c a b=>match ev c with
  | .t _ (.bool q)=>some (true,{ val:=if q then ev a else ev b })
  |_=>none
 | .alloc e=>aAlloc P i e
 | .box e x=>aBox i e (ev x)
 | .build t ps=>aBuild P t (ps.toList.map fun p=>(p.1,ev p.2))
 | .buildSlice t n ps=>aBuildSlice P i t n (ps.toList.map fun p=>(p.1,ev p.2)) H
 | .load t x=>aLoad P t (ev x) H
 | .store t x y=>aStore P t (ev x) (ev y) H
 | .nilCheck x=>aNil (ev x) H
 | .binOp op t x y _=>match aBin P op t (ev x) (ev y)with
  |some r=>some r
  |none=>aMapNil P op t (ev x) (ev y) H
 | .unOp op _ x=>aUn op (ev x)
 | .convert s d x=>aConv P s d (ev x) H
 | .makeSlice t l c=>aMake P i t (ev l) (ev c)
 | .slice t x lo hi none=>aSliceO P i t (ev x) (lo.map ev) (hi.map ev) H
 | .fieldAddr s x f=>aField P s f (ev x) H
 | .field s x f=>aFieldV P s f (ev x)
 | .indexAddr t x ix=>aIndexAddr P t (ev x) (ev ix) H
 | .index t x ix=>aIndex P t (ev x) (ev ix)
 | .extract x k=>match ev x with
  | .tup cs=>match cs[k]? with
   |some c=>some (true,{ val:=c })
   |none=>none
  |_=>none
 | .makeFunc (.func f) first caps=>if first.size=0 then some (true,{ val:=.fn f (caps.toList.map ev) })else none
 | .makeMap t none=>aMkMap P i t
 | .mapUpdate t m k v=>aMapUpd P t (ev m) (ev k) (ev v) H
 | .insert t m k v=>aMapUpd P t (ev m) (ev k) (ev v) H
 | .lookup t m k ok=>aLookup P t (ev m) (ev k) ok H
 | .call c=>match c.callee with
  | .builtin b=>aBuiltin P i b (c.args.toList.map ev) c.argTypes.toList H
  |_=>none
 |_=>none
section
variable{w0 w:World}{V S0 U:Nat->Prop}{H:Nat->Option AObj}{ob:Nat->Option (Value×Nat)}{i:Nat}{P:Program}
theorem zAc{r:Sem Value}{eff:Eff}(h:MR w0 V S0 U H ob w)(hr: ∃y,r.run P w= .ok y w/\VR (zV w0.heap.size V ob U w) y eff.val/\eff.new=none/\eff.del=[]):Good w0 V S0 U ob w i (eff.heap H) eff.val ((r>>=fun v=>pure (.value v):Sem Next).run P w):=by
 obtain⟨y,h1,h2,h3,h4⟩:=hr;simp only[Sem.run_bind,h1,Result.andThen_ok,Sem.run_pure];have:eff.heap H=H:=by unfold Eff.heap;rw[h3,h4];rfl
 rw[this];exact Good.pure h h2
theorem zEt{E:Ev}{ρ:Operand->Value}{ev:Operand->AV}(he: ∀x,VR E (ρ x) (ev x)): ∀(ps:List (Nat×Operand)),zEp (fun p q=>p.1=q.1/\VR E p.2 q.2) (ps.map fun p=>(p.1,ρ p.2)) (ps.map fun p=>(p.1,ev p.2))
 |[]=>.nil
 |p::r=>.cons ⟨rfl,he p.2⟩ (zEt he r)
theorem zME{o:Oper}{ρ:Operand->Value}{ev:Operand->AV}{eff:Eff}{c:Bool}(he:aop P i o.op ev H=some (c,eff))(hc:c=true)(h:MR w0 V S0 U H ob w)(hi: ¬U i)(hev: ∀x,VR (zV w0.heap.size V ob U w) (ρ x) (ev x)):
  Good w0 V S0 U ob w i (eff.heap H) eff.val ((execOp ρ o).run P w):=by
 unfold aop at he;split at he
 ·rename_i x hop;simp only[Qx,Qk]at he;obtain⟨-,rfl⟩:=he;simp only[execOp,hop,Sem.run_pure];exact Good.pure h (hev x)
 ·rename_i x hop;simp only[Qx,Qk]at he;obtain⟨-,rfl⟩:=he;simp only[execOp,hop,Sem.run_pure];exact Good.pure h (hev x)
 ·rename_i cc a b hop;split at he
  ·rename_i p q hq;simp only[Qx,Qk]at he;obtain⟨-,rfl⟩:=he;have hb:=hev cc;rw[hq]at hb;have hb:=hb.bool;simp only[execOp,hop,hb,asBool,Sem.run_bind,Sem.run_pure,Result.andThen_ok];refine Good.pure h ?_
   cases q
   ·exact hev b
   ·exact hev a
  ·cases he
 ·rename_i e hop;simp only[execOp,hop];exact zPL he h hi
 ·rename_i e x hop;simp only[execOp,hop];exact zSu he h hi (hev x)
 ·rename_i t ps hop;simp only[execOp,hop];exact zAc h (zPW he (by simpa using zEt hev ps.toList))
 ·rename_i t n ps hop;simp only[execOp,hop];exact zF6 he hc h hi (by simpa using zEt hev ps.toList)
 ·rename_i t x hop;simp only[execOp,hop];exact zAc h (zOH he hc h (hev x))
 ·rename_i t x y hop;simp only[execOp,hop];exact zPj he hc h hi (hev x) (hev y)
 ·rename_i x hop;have hv:=hev x;unfold aNil at he;split at he
  ·rename_i id off c' hx;split at he
   ·rename_i b hH;simp only[Qx,Qk]at he;obtain⟨h1,rfl⟩:=he;rw[hc]at h1;rw[hx]at hv;obtain⟨u,k,e1,e2,e3,e4⟩:=h.ptr hv hH (by simpa using h1);simp only[execOp,hop,e3];rw[e3]at hv;exact Good.pure h hv
   ·cases he
  ·rename_i p cs hx;simp only[Qx,Qk]at he;obtain⟨-,rfl⟩:=he;rw[hx]at hv;obtain⟨b,off,vs,e3,-⟩:=hv.zT3;simp only[execOp,hop,e3];rw[e3]at hv;exact Good.pure h hv
  ·rename_i f cs hx;simp only[Qx,Qk]at he;obtain⟨-,rfl⟩:=he;rw[hx]at hv;obtain⟨vs,e3⟩: ∃vs,ρ x= .func (.func f) #[] vs:=by
    generalize ρ x=v at hv
    cases hv with
    |fn f vs cs hn hr=>exact⟨vs,rfl⟩
   simp only[execOp,hop,e3];rw[e3]at hv;exact Good.pure h hv
  ·cases he
 ·rename_i op t x y yt hop;simp only[execOp,hop];split at he
  ·rename_i r hr;simp only[Qx]at he;rw[he]at hr;exact zAc h (zTd hr hc (hev x) (hev y))
  ·exact zAc h (zL6 he hc h (hev x) (hev y))
 ·rename_i op t x hop;simp only[execOp,hop];exact zAc h (zUc he hc (hev x))
 ·rename_i s d x hop;simp only[execOp,hop];exact zAc h (zR2 he hc h (hev x))
 ·rename_i t l k hop;simp only[execOp,hop];exact zRw he hc h hi (hev l) (hev k)
 ·rename_i t x lo hi' hop;simp only[execOp,hop];refine zOI he hc h hi (hev x) ?_ ?_ ?_ ?_
  ·intro y hy
   cases lo with
   |none=>cases hy
   |some l=>injection hy with hy;subst hy;exact⟨_,rfl,hev l⟩
  ·intro hl;cases lo with
   |none=>rfl
   |some l=>cases hl
  ·intro y hy
   cases hi' with
   |none=>cases hy
   |some l=>injection hy with hy;subst hy;exact⟨_,rfl,hev l⟩
  ·intro hl;cases hi' with
   |none=>rfl
   |some l=>cases hl
 ·rename_i s x f hop;simp only[execOp,hop];exact zAc h (zPP he hc h (hev x))
 ·rename_i s x f hop;simp only[execOp,hop];exact zAc h (zMY he hc (hev x))
 ·rename_i t x ix hop;simp only[execOp,hop];exact zAc h (zHn he hc h (hev x) (hev ix))
 ·rename_i t x ix hop;simp only[execOp,hop];exact zAc h (zPo he hc (hev x) (hev ix))
 ·rename_i x k hop;have hv:=hev x;split at he
  ·rename_i cs hx;split at he
   ·rename_i d hd;simp only[Qx,Qk]at he;obtain⟨-,rfl⟩:=he;rw[hx]at hv;have: ∃vs:Array Value,ρ x= .tuple vs/\vs.size=cs.length/\VR (zV w0.heap.size V ob U w) (vs.getD k undef) d:=by
     generalize ρ x=v at hv
     cases hv with
     |tup vs cs hn hr=>exact⟨vs,rfl,hn,hr k d hd⟩
    obtain⟨vs,e1,e2,e3⟩:=this;have hlt:k<vs.size:=by rw[e2];exact(Qq.1 hd).1
    simp only[execOp,hop,e1];refine zAc h ⟨vs.getD k undef,?_,e3,rfl,rfl⟩;simp[Instr.extract,hlt,Array.getD]
   ·cases he
  ·cases he
 ·rename_i f first caps hop
  split at he
  ·rename_i hf;simp only[Qx,Qk]at he;obtain⟨-,rfl⟩:=he;have hf0:first= #[]:=Array.size_eq_zero_iff.1 hf
   subst hf0;simp only[execOp,hop];refine zAc h ⟨.func (.func f) #[] (caps.map ρ),by simp[Instr.makeFunc],.fn f _ _ (by simp) (fun j d hj=>?_),rfl,rfl⟩;rw[Qi]at hj
   cases hq:caps.toList[j]? with
   |none=>rw[hq]at hj;cases hj
   |some y=>
    rw[hq]at hj;simp only[Qg,Qx]at hj;subst hj;have hlt:j<caps.size:=by have:=(Qq.1 hq).1;simpa using this
    have hy:caps[j]=y:=by simpa[hlt]using hq
    have:(caps.map ρ).getD j undef=ρ y:=by simp[Array.getD,hlt,hy]
    rw[this];exact hev y
  ·cases he
 ·rename_i t hop;simp only[execOp,hop];exact zO9 he h hi
 ·rename_i t m k v hop;simp only[execOp,hop];exact zG1 he hc h (hev m) (hev k) (hev v)
 ·rename_i t m k v hop;simp only[execOp,hop];exact zG1 he hc h (hev m) (hev k) (hev v)
 ·rename_i t m k ok hop;simp only[execOp,hop];exact zAc h (zMB he hc h (hev m) (hev k))
 ·rename_i cl hop;split at he
  ·rename_i b hb;simp only[execOp,hop,resolve,hb,Sem.run_bind,Sem.run_pure,Result.andThen_ok,invoke,builtin];unfold aBuiltin at he;split at he
   ·rename_i x t ha ht;obtain⟨y,hy,rfl⟩: ∃y,cl.args= #[y]/\ev y=x:=by
     have: ∃y,cl.args.toList=[y]/\ev y=x:=by
      cases hl:cl.args.toList with
      |nil=>rw[hl]at ha;simp at ha
      |cons y r=>rw[hl]at ha;cases r with
       |nil=>simp at ha;exact⟨y,rfl,ha⟩
       |cons _ _=>simp at ha
     obtain⟨y,h1,h2⟩:=this;exact⟨y,by rw[←Array.toArray_toList (xs:=cl.args),h1],h2⟩
    have ht':cl.argTypes= #[t]:=by rw[←Array.toArray_toList (xs:=cl.argTypes),ht]
    rw[hy,ht'];exact zAc h (by simpa using zTR he hc h (hev y) o.type)
   ·rename_i d x t t' ha ht;split at he
    ·rename_i htt;subst htt;obtain⟨y,z,hy,rfl,rfl⟩: ∃y z,cl.args= #[y,z]/\ev y=d/\ev z=x:=by
      have: ∃y z,cl.args.toList=[y,z]/\ev y=d/\ev z=x:=by
       cases hl:cl.args.toList with
       |nil=>rw[hl]at ha;simp at ha
       |cons y r=>rw[hl]at ha;cases r with
        |nil=>simp at ha
        |cons z r2=>cases r2 with
         |nil=>simp at ha;exact⟨y,z,rfl,ha⟩
         |cons _ _=>simp at ha
      obtain⟨y,z,h1,h2⟩:=this;exact⟨y,z,by rw[←Array.toArray_toList (xs:=cl.args),h1],h2⟩
     have ht':cl.argTypes= #[t,t]:=by rw[←Array.toArray_toList (xs:=cl.argTypes),ht]
     rw[hy,ht'];have:=zMv (P:=P) he hc h hi (hev y) (hev z) o.type;simpa using this
    ·obtain⟨y,z,hy,rfl,rfl⟩: ∃y z,cl.args= #[y,z]/\ev y=d/\ev z=x:=by
      have: ∃y z,cl.args.toList=[y,z]/\ev y=d/\ev z=x:=by
       cases hl:cl.args.toList with
       |nil=>rw[hl]at ha;simp at ha
       |cons y r=>rw[hl]at ha;cases r with
        |nil=>simp at ha
        |cons z r2=>cases r2 with
         |nil=>simp at ha;exact⟨y,z,rfl,ha⟩
         |cons _ _=>simp at ha
      obtain⟨y,z,h1,h2⟩:=this;exact⟨y,z,by rw[←Array.toArray_toList (xs:=cl.args),h1],h2⟩
     have ht':cl.argTypes= #[t,t']:=by rw[←Array.toArray_toList (xs:=cl.argTypes),ht]
     rw[hy,ht'];have:=zOb (P:=P) he hc h hi (hev y) (hev z) o.type;simpa using this
   ·rename_i ht0 x0 y0 ha;obtain⟨y,z,hy,rfl,rfl⟩: ∃y z,cl.args= #[y,z]/\ev y=x0/\ev z=y0:=by
     have: ∃y z,cl.args.toList=[y,z]/\ev y=x0/\ev z=y0:=by
      cases hl:cl.args.toList with
      |nil=>rw[hl]at ha;simp at ha
      |cons y r=>rw[hl]at ha;cases r with
       |nil=>simp at ha
       |cons z r2=>cases r2 with
        |nil=>simp at ha;exact⟨y,z,rfl,ha⟩
        |cons _ _=>simp at ha
     obtain⟨y,z,h1,h2⟩:=this;exact⟨y,z,by rw[←Array.toArray_toList (xs:=cl.args),h1],h2⟩
    rw[hy];have v1:=hev y;have v2:=hev z;unfold aMin at he;split at he
    ·rename_i k a q b e1 e2;rw[e1]at v1;rw[e2]at v2;simp only[Qx,Qk]at he;obtain⟨-,rfl⟩:=he;refine zAc h ⟨_,?_,.mkInt _ _ _ _,rfl,rfl⟩;simp[Builtin.min_,v1.int,v2.int,Builtin.min2]
    ·cases he
   ·rename_i ht0 x0 y0 ha;obtain⟨y,z,hy,rfl,rfl⟩: ∃y z,cl.args= #[y,z]/\ev y=x0/\ev z=y0:=by
     have: ∃y z,cl.args.toList=[y,z]/\ev y=x0/\ev z=y0:=by
      cases hl:cl.args.toList with
      |nil=>rw[hl]at ha;simp at ha
      |cons y r=>rw[hl]at ha;cases r with
       |nil=>simp at ha
       |cons z r2=>cases r2 with
        |nil=>simp at ha;exact⟨y,z,rfl,ha⟩
        |cons _ _=>simp at ha
     obtain⟨y,z,h1,h2⟩:=this;exact⟨y,z,by rw[←Array.toArray_toList (xs:=cl.args),h1],h2⟩
    rw[hy];have v1:=hev y;have v2:=hev z;unfold aMin at he;split at he
    ·rename_i k a q b e1 e2;rw[e1]at v1;rw[e2]at v2;simp only[Qx,Qk]at he;obtain⟨-,rfl⟩:=he;refine zAc h ⟨_,?_,.mkInt _ _ _ _,rfl,rfl⟩;simp[Builtin.max_,v1.int,v2.int,Builtin.max2]
    ·cases he
   ·rename_i d x t t' ha ht;obtain⟨y,z,hy,rfl,rfl⟩: ∃y z,cl.args= #[y,z]/\ev y=d/\ev z=x:=by
     have: ∃y z,cl.args.toList=[y,z]/\ev y=d/\ev z=x:=by
      cases hl:cl.args.toList with
      |nil=>rw[hl]at ha;simp at ha
      |cons y r=>rw[hl]at ha;cases r with
       |nil=>simp at ha
       |cons z r2=>cases r2 with
        |nil=>simp at ha;exact⟨y,z,rfl,ha⟩
        |cons _ _=>simp at ha
     obtain⟨y,z,h1,h2⟩:=this;exact⟨y,z,by rw[←Array.toArray_toList (xs:=cl.args),h1],h2⟩
    have ht':cl.argTypes= #[t,t']:=by rw[←Array.toArray_toList (xs:=cl.argTypes),ht]
    rw[hy,ht'];have:=zR3 (P:=P) (t':=t') he hc h (hev y) (hev z) o.type;simpa using this
   ·rename_i x t ha ht;obtain⟨y,hy,rfl⟩: ∃y,cl.args= #[y]/\ev y=x:=by
     have: ∃y,cl.args.toList=[y]/\ev y=x:=by
      cases hl:cl.args.toList with
      |nil=>rw[hl]at ha;simp at ha
      |cons y r=>rw[hl]at ha;cases r with
       |nil=>simp at ha;exact⟨y,rfl,ha⟩
       |cons _ _=>simp at ha
     obtain⟨y,h1,h2⟩:=this;exact⟨y,by rw[←Array.toArray_toList (xs:=cl.args),h1],h2⟩
    have ht':cl.argTypes= #[t]:=by rw[←Array.toArray_toList (xs:=cl.argTypes),ht]
    rw[hy,ht'];have:=zQP (i:=i) (P:=P) he hc h (hev y) o.type;simpa using this
   ·rename_i ht0 x0 y0 z0 ha;obtain⟨y,z,u,hy,rfl,rfl,rfl⟩: ∃y z u,cl.args= #[y,z,u]/\ev y=x0/\ev z=y0/\ev u=z0:=by
     have: ∃y z u,cl.args.toList=[y,z,u]/\ev y=x0/\ev z=y0/\ev u=z0:=by
      cases hl:cl.args.toList with
      |nil=>rw[hl]at ha;simp at ha
      |cons y r=>rw[hl]at ha;cases r with
       |nil=>simp at ha
       |cons z r2=>cases r2 with
        |nil=>simp at ha
        |cons u r3=>cases r3 with
         |nil=>simp at ha;exact⟨y,z,u,rfl,ha⟩
         |cons _ _=>simp at ha
     obtain⟨y,z,u,h1,h2⟩:=this;exact⟨y,z,u,by rw[←Array.toArray_toList (xs:=cl.args),h1],h2⟩
    rw[hy];have v1:=hev y;have v2:=hev z;have v3:=hev u;unfold aMin3 at he;split at he
    ·rename_i k a q b q2 cc e1 e2 e3;rw[e1]at v1;rw[e2]at v2;rw[e3]at v3;simp only[Qx,Qk]at he;obtain⟨-,rfl⟩:=he;refine zAc h ⟨_,?_,.mkInt _ _ _ _,rfl,rfl⟩;simp[Builtin.min_,v1.int,v2.int,v3.int,Builtin.min2]
    ·cases he
   ·cases he
  ·cases he
 ·cases he
end
def GhR(E:Ev)(gv:Nat->Value)(gh:List AV):Prop:=∀(i:Nat) c,gh[i]? =some c->VR E (gv i) c
theorem GhR.ext{E E':Ev}{gv:Nat->Value}{gh:List AV}(h:GhR E gv gh)(hx:Ext E E'):GhR E' gv gh:=fun i c hi=>(h i c hi).ext hx
def zEN(w0:World)(V S0:Nat->Prop)(gv:Nat->Value)(U:Nat->Prop)(σ:ASt)(a:Act)(w:World):Prop:=∃ob,MR w0 V S0 U σ.heap ob w/\(∀t,VR (zV w0.heap.size V ob U w) (a.tmps.getD t undef) (σ.env t))/\a.defers=[]/\a.tmps.size=σ.nt/\GhR (zV w0.heap.size V ob U w) gv σ.gh
def Rel(w0:World)(V S0:Nat->Prop)(gv:Nat->Value)(σ:ASt)(a:Act)(w:World):Prop:=zEN w0 V S0 gv (fun k=>k<σ.nxt) σ a w
def ASt.app(σ:ASt)(dst:Option Tmp)(e:Eff):ASt:={ σ with env:=match dst with|some d=>upd σ.env d e.val|none=>σ.env,heap:=e.heap σ.heap }
def zAt(σ:ASt)(o:Oper):Bool:=match o.dst with|some d=>Nat.blt d σ.nt|none=>true
theorem zQL{a:Act}{d t:Nat}{v:Value}(h:d<a.tmps.size):(a.put (some d) v).tmps.getD t undef=if t=d then v else a.tmps.getD t undef:=by
 unfold Act.put;by_cases e:t=d
 ·subst e;simp[h]
 ·rw[if_neg e];by_cases ht:t<a.tmps.size
  ·simp only[Array.getD,Array.size_setIfInBounds,ht,dif_pos];exact Array.getElem_setIfInBounds_ne (by simpa using ht) (Ne.symm e)
  ·simp[Array.getD,ht]
theorem zPb(a:Act)(d:Option Tmp)(v:Value):(a.put d v).tmps.size=a.tmps.size:=by cases d<;>simp[Act.put]
theorem put_defers(a:Act)(d:Option Tmp)(v:Value):(a.put d v).defers=a.defers:=by cases d<;>rfl
section
variable{w0:World}{V S0 U:Nat->Prop}{gv:Nat->Value}{σ:ASt}{a:Act}{w:World}{P:Program}{i:Nat}
theorem zEN.zRl{ob:Nat->Option (Value×Nat)}{H:Nat->Option AObj}(h:MR w0 V S0 U H ob w)(he: ∀t,VR (zV w0.heap.size V ob U w) (a.tmps.getD t undef) (σ.env t))(hd:a.defers=[])(hs:a.tmps.size=σ.nt)(hgh:GhR (zV w0.heap.size V ob U w) gv σ.gh){o:Oper}(ho:zAt σ o=true){v:Value}{x:AV}(hv:VR (zV w0.heap.size V ob U w) v x):
  zEN w0 V S0 gv U { σ with env:=match o.dst with|some d=>upd σ.env d x|none=>σ.env,heap:=H } (a.put o.dst v) w:=by
 refine⟨ob,h,fun t=>?_,by rw[put_defers];exact hd,by rw[zPb];exact hs,hgh⟩;unfold zAt at ho
 cases hq:o.dst with
 |none=>exact he t
 |some d=>
  rw[hq]at ho;have hlt:d<a.tmps.size:=by rw[hs];exact(Nat.blt_eq▸ho)
  rw[zQL hlt];show VR _ _ (upd σ.env d x t);by_cases e:t=d
  ·subst e;rw[if_pos rfl,zX];exact hv
  ·rw[if_neg e,zu _ _ e];exact he t
theorem zEN.zUW{o:Oper}{eff:Eff}(h:zEN w0 V S0 gv U σ a w)(ho:zAt σ o=true)(hg: ∀ob,MR w0 V S0 U σ.heap ob w->(∀t,VR (zV w0.heap.size V ob U w) (a.tmps.getD t undef) (σ.env t))->Good w0 V S0 U ob w i (eff.heap σ.heap) eff.val ((execOp a.eval o).run P w)){K:Act->World->Prop}{Q:Exit->Act->World->Prop}(hK: ∀a' w',zEN w0 V S0 gv (fun k=>U k\/(i<=k/\k<i+1000000)) (σ.app o.dst eff) a' w'->K a' w'):o.wp P a w K Q:=by
 obtain⟨ob,h1,h2,h3,h4,h5⟩:=h;obtain⟨nx,v,w',ob',e1,e2,e3,e4,e5⟩:=hg ob h1 h2;obtain⟨f1,f2⟩:=e3.used (U':=fun k=>U k\/(i<=k/\k<i+1000000)) (fun k hk=>by
  rcases hk with hk|rfl
  ·exact .inl hk
  ·exact .inr ⟨Qy _,by omega⟩)
 have f3:=e4.trans f2;have hr:zEN w0 V S0 gv (fun k=>U k\/(i<=k/\k<i+1000000)) (σ.app o.dst eff) (a.put o.dst v) w':=by
  have:=zEN.zRl (σ:=σ) f1 (fun t=>(h2 t).ext f3) h3 h4 (h5.ext f3) ho (e5.ext f2);exact this
 unfold Oper.wp;rw[e1];rcases e2 with rfl|⟨rfl,rfl⟩
 ·exact hK _ _ hr
 ·exact hK _ _ hr
end
def gd(ops:Array Oper)(σ:ASt)(o:Oper):Option Bool:=match o.guard with
 |none=>some true
 |some (j,want)=>match(ops[j]?).bind (·.dst)with
  |some d=>match σ.env d with
   | .t _ (.bool b)=>if Nat.blt d σ.nt=true then some (b==want)else none
   | .tup []=>some false
   |_=>none
  |none=>none
theorem zA0{ops:Array Oper}{σ:ASt}{o:Oper}{b:Bool}{E:Ev}{a:Act}(h:gd ops σ o=some b)(he: ∀t,VR E (a.tmps.getD t undef) (σ.env t))(hs:a.tmps.size=σ.nt):Region.wanted o (yielded ops a.tmps)=b:=by
 unfold gd at h;unfold Region.wanted;split at h
 ·rename_i hg;simp only[hg];injection h
 ·rename_i j want hg;simp only[hg];split at h
  ·rename_i d hd;split at h
   ·rename_i p q hq;split at h
    ·rename_i hlt;injection h with h;subst h;have hv:=he d;rw[hq]at hv;have hv:=hv.bool;have hlt2:d<a.tmps.size:=by rw[hs];exact(Nat.blt_eq▸hlt)
     have h5:a.tmps[d]? =some (.bool q):=by
      simp[Array.getD,hlt2]at hv;simp[hlt2,hv]
     simp only[yielded,hd,Option.bind_some,h5]
     cases q<;>cases want<;>rfl
    ·cases h
   ·rename_i hq;injection h with h;subst h;have hv:=he d;rw[hq]at hv;have h5:a.tmps[d]? =none\/ ∃vs,a.tmps[d]? =some (.tuple vs):=by
     by_cases hlt:d<a.tmps.size
     ·right;generalize hx:a.tmps.getD d undef=x at hv
      cases hv with
      |tup vs cs hn hr=>exact⟨vs,by simp[Array.getD,hlt]at hx;simp[hlt,hx]⟩
     ·left;exact Array.getElem?_eq_none (Nat.le_of_not_lt hlt)
    rcases h5 with h5|⟨vs,h5⟩<;>simp only[yielded,hd,Option.bind_some,h5]<;>rfl
   ·cases h
  ·cases h
def OpS(P:Program)(ops:Array Oper)(i:Nat)(o:Oper)(σ σ':ASt):Prop:=∀w0 V S0 gv U a w,zEN w0 V S0 gv U σ a w->(∀k,i<=k->k<i+1000000-> ¬U k)-> ∀(K:Act->World->Prop) (Q:Exit->Act->World->Prop),(∀a' w',zEN w0 V S0 gv (fun k=>U k\/(i<=k/\k<i+1000000)) σ' a' w'->K a' w')->if Region.wanted o (yielded ops a.tmps)then o.wp P a w K Q else K (a.put o.dst undef) w
def zDo(P:Program)(ops:Array Oper)(i:Nat)(o:Oper)(σ:ASt)(K:ASt->Prop):Prop:=∃σ',OpS P ops i o σ σ'/\σ'.nt=σ.nt/\K σ'
def awpOp(P:Program)(ops:Array Oper)(i:Nat)(o:Oper)(σ:ASt)(K:ASt->Prop):Prop:=match gd ops σ o with
 |some true=>match aop P i o.op σ.eval σ.heap with
  |some (c,eff)=>c=true/\zAt σ o=true/\K (σ.app o.dst eff)
  |none=>zDo P ops i o σ K
 |some false=>zAt σ o=true/\K (σ.app o.dst { val:=.tup [] })
 |none=>False
theorem zFD{P:Program}{ops:Array Oper}{i:Nat}{o:Oper}{σ:ASt}{K:ASt->Prop}(h:awpOp P ops i o σ K): ∃σ',OpS P ops i o σ σ'/\σ'.nt=σ.nt/\K σ':=by
 unfold awpOp at h;split at h
 ·rename_i hg;split at h
  ·rename_i c eff he;obtain⟨h1,h2,h3⟩:=h;refine⟨σ.app o.dst eff,?_,rfl,h3⟩;intro w0 V S0 gv U a w hR hi K Q hK;have hR':=hR;obtain⟨ob,m1,m2,m3,m4,m5⟩:=hR';rw[if_pos (zA0 hg m2 m4)];exact hR.zUW h2 (fun ob m1 m2=>zME he h1 m1 (hi i (Qy _) (by omega)) (fun x=>VR.eval m1.glE m2 x)) hK
  ·exact h
 ·rename_i hg;refine⟨σ.app o.dst { val:=.tup [] },?_,rfl,h.2⟩;intro w0 V S0 gv U a w hR hi K Q hK;obtain⟨ob,m1,m2,m3,m4,m5⟩:=hR;rw[if_neg (by rw[zA0 hg m2 m4];simp)];refine hK _ _ ?_;obtain⟨h5,h6⟩:=m1.used (U':=fun k=>U k\/(i<=k/\k<i+1000000)) (fun k hk=>.inl hk);have:=zEN.zRl (σ:=σ) (o:=o) (v:=undef) (x:=.tup []) h5 (fun t=>(m2 t).ext h6) m3 m4 (m5.ext h6) h.1 (.tup #[] [] rfl (fun i c h=>by simp at h));exact this
 ·exact h.elim
def awpL(P:Program)(ops:Array Oper)(N:Nat):List Oper->Nat->ASt->(ASt->Prop)->Prop
 |[],k,σ,K=>K { σ with nxt:=N+k }
 |o::r,k,σ,K=>awpOp P ops (N+k) o σ (fun σ'=>awpL P ops N r (k+1000000) σ' K)
def BS(P:Program)(c:Code)(σ:ASt)(e:Exit)(σ':ASt):Prop:=∀w0 V S0 gv a w,Rel w0 V S0 gv σ a w->c.wp P (fun e' a' w'=>e'=e/\Rel w0 V S0 gv σ' a' w') a w
def awp(P:Program)(c:Code)(Q:Exit->ASt->Prop)(σ:ASt):Prop:=∃e σ',BS P c σ e σ'/\Q e σ'
section
variable{P:Program}{Q:Exit->ASt->Prop}{σ:ASt}
theorem zB5{c:Code}{Q':Exit->ASt->Prop}(h:awp P c Q σ)(hq: ∀e σ,Q e σ->Q' e σ):awp P c Q' σ:=by
 obtain⟨e,σ',h1,h2⟩:=h;exact⟨e,σ',h1,hq _ _ h2⟩
theorem zCA{ops:Array Oper}{N:Nat}: ∀(l:List Oper) (k:Nat) (σ:ASt) (K:ASt->Prop),awpL P ops N l k σ K-> ∃σ',K { σ' with nxt:=N+(k+1000000*l.length) }/\ ∀w0 V S0 gv a w,zEN w0 V S0 gv (fun j=>j<N+k) σ a w-> ∀(Q:Exit->Act->World->Prop),(∀a' w',zEN w0 V S0 gv (fun j=>j<N+(k+1000000*l.length)) σ' a' w'->Q .normal a' w')->wpList P ops Q l a w
 |[],k,σ,K,h=>⟨σ,by simpa[awpL]using h,fun w0 V S0 gv a w hR Q hQ=>hQ a w (by simpa using hR)⟩
 |o::r,k,σ,K,h=>by
  obtain⟨σ1,h1,-,h2⟩:=zFD h;obtain⟨σ',h3,h4⟩:=zCA r (k+1000000) σ1 K h2;refine⟨σ',by rw[List.length_cons,show k+1000000*(r.length+1)=k+1000000+1000000*r.length by omega];exact h3,fun w0 V S0 gv a w hR Q hQ=>?_⟩;refine wpList_step fun K' hK'=>h1 w0 V S0 gv _ a w hR (fun j h1 h2=>by omega) K' Q (fun a' w' hR'=>hK' a' w' (h4 w0 V S0 gv a' w' ?_ Q (fun a2 w2 hR2=>hQ a2 w2 ?_)))
  ·have e:(fun j=>j<N+k\/(N+k<=j/\j<N+k+1000000))=(fun j=>j<N+(k+1000000)):=by funext j;apply propext;omega
   rw[←e];exact hR'
  ·rw[List.length_cons,show k+1000000*(r.length+1)=k+1000000+1000000*r.length by omega];exact hR2
theorem zFd{id:Nat}{ops:Array Oper}(h:awpL P ops σ.nxt ops.toList 0 σ (Q .normal)):awp P (.region id ops false) Q σ:=by
 obtain⟨σ',h1,h2⟩:=zCA _ _ _ _ h;refine⟨.normal,_,?_,h1⟩;intro w0 V S0 gv a w hR;refine wp_region_list (h2 w0 V S0 gv a w (by rw[Nat.add_zero];exact hR) _ (fun a' w' hR'=>⟨rfl,hR'⟩))
theorem zQ(h:Q .normal σ):awp P .skip Q σ:=⟨.normal,σ,fun _ _ _ _ _ _ hR=>wp_skip ⟨rfl,hR⟩,h⟩
theorem zE{id:Nat}(h:Q (.exit id) σ):awp P (.exit id) Q σ:=⟨.exit id,σ,fun _ _ _ _ _ _ hR=>wp_exit ⟨rfl,hR⟩,h⟩
theorem zC(h:Q .ret σ):awp P .ret Q σ:=⟨.ret,σ,fun _ _ _ _ _ _ hR=>wp_ret ⟨rfl,hR⟩,h⟩
def zMJ(next:ASt->Prop)(Q:Exit->ASt->Prop):Exit->ASt->Prop
 | .normal,σ=>next σ
 |e,σ=>Q e σ
theorem zA{x y:Code}(h:awp P x (zMJ (awp P y Q) Q) σ):awp P (.seq x y) Q σ:=by
 obtain⟨e,σ1,h1,h2⟩:=h
 cases e with
 |normal=>
  obtain⟨e2,σ2,h3,h4⟩:=h2;refine⟨e2,σ2,fun w0 V S0 gv a w hR=>wp_seq (wp_mono (h1 w0 V S0 gv a w hR) ?_),h4⟩;rintro e a' w' ⟨rfl,hR'⟩;exact h3 w0 V S0 gv a' w' hR'
 |_=>
  refine⟨_,σ1,fun w0 V S0 gv a w hR=>wp_seq (wp_mono (h1 w0 V S0 gv a w hR) ?_),h2⟩;rintro e a' w' ⟨rfl,hR'⟩;exact⟨rfl,hR'⟩
theorem zk{c:Operand}{x y:Code}{p:Nat}{b:Bool}(hb:σ.eval c= .t p (.bool b))(h:awp P (if b then x else y) Q σ):awp P (.cond c x y) Q σ:=by
 obtain⟨e,σ1,h1,h2⟩:=h;refine⟨e,σ1,fun w0 V S0 gv a w hR=>?_,h2⟩;have hR':=hR;obtain⟨ob,m1,m2,m3,m4,m5⟩:=hR';have hv:=VR.eval m1.glE m2 c;rw[hb]at hv;exact wp_cond hv.bool (h1 w0 V S0 gv a w hR)
def inBlockQ(id:Nat)(Q:Exit->ASt->Prop):Exit->ASt->Prop
 | .exit id',σ=>if id'=id then Q .normal σ else Q (.exit id') σ
 |e,σ=>Q e σ
theorem zB{id:Nat}{c:Code}(h:awp P c (inBlockQ id Q) σ):awp P (.block id c) Q σ:=by
 obtain⟨e,σ1,h1,h2⟩:=h
 cases e with
 |exit id'=>
  by_cases hid:id'=id
  ·subst hid;simp only[inBlockQ,if_true]at h2;refine⟨.normal,σ1,fun w0 V S0 gv a w hR=>wp_block (wp_mono (h1 w0 V S0 gv a w hR) ?_),h2⟩;rintro e a' w' ⟨rfl,hR'⟩;show if id'=id' then _ else _
   rw[if_pos rfl];exact⟨rfl,hR'⟩
  ·simp only[inBlockQ,hid,if_false]at h2;refine⟨.exit id',σ1,fun w0 V S0 gv a w hR=>wp_block (wp_mono (h1 w0 V S0 gv a w hR) ?_),h2⟩;rintro e a' w' ⟨rfl,hR'⟩;show if id'=id then _ else _
   rw[if_neg hid];exact⟨rfl,hR'⟩
 |_=>
  refine⟨_,σ1,fun w0 V S0 gv a w hR=>wp_block (wp_mono (h1 w0 V S0 gv a w hR) ?_),h2⟩;rintro e a' w' ⟨rfl,hR'⟩;exact⟨rfl,hR'⟩
def Wk(σ σ':ASt):Prop:=∀w0 V S0 gv a w,Rel w0 V S0 gv σ a w->Rel w0 V S0 gv σ' a w
theorem zS{c:Code}{σ':ASt}(hw:Wk σ σ')(h:awp P c Q σ'):awp P c Q σ:=by
 obtain⟨e,σ1,h1,h2⟩:=h;exact⟨e,σ1,fun w0 V S0 gv a w hR=>h1 w0 V S0 gv a w (hw w0 V S0 gv a w hR),h2⟩
theorem awp_loop{c:Code}{ι:Type}(st:ι->ASt)(I:ι->Prop)(μ:ι->Nat)(h0: ∃x,I x/\Wk σ (st x))
  (hr: ∀x,I x->awp P c (fun e σ'=>match e with| .normal=>∃y,I y/\μ y<μ x/\Wk σ' (st y)|e=>Q e σ') (st x)):awp P (.loop c) Q σ:=by
 have key: ∀n x,μ x=n->I x-> ∃e σ',Q e σ'/\ ∀w0 V S0 gv a w,Rel w0 V S0 gv (st x) a w-> ∀(b:Frame) (k:List Item) (cs:List Frame),∃a' w',Rel w0 V S0 gv σ' a' w'/\Arrives P (lone (b.at a (.code c:: .inLoop c::k)) cs w) b k cs e a' w':=by
  intro n
  induction n using Nat.strongRecOn with
  |_ n ih=>
   intro x hn hI;obtain⟨e,σ1,h1,h2⟩:=hr x hI;have out:e≠ .normal->Q e σ1-> ∃e σ',Q e σ'/\ ∀w0 V S0 gv a w,Rel w0 V S0 gv (st x) a w-> ∀(b:Frame) (k:List Item) (cs:List Frame),∃a' w',Rel w0 V S0 gv σ' a' w'/\Arrives P (lone (b.at a (.code c:: .inLoop c::k)) cs w) b k cs e a' w':=fun hne hq=>by
    refine⟨e,σ1,hq,fun w0 V S0 gv a w hR b k cs=>?_⟩;obtain⟨e',a',w',⟨rfl,hR'⟩,harr⟩:=h1 w0 V S0 gv a w hR b (.inLoop c::k) cs;exact⟨a',w',hR',.pass (x:=.inLoop c) rfl (fun _ _=>.inl hne) harr⟩
   cases e with
   |normal=>
    obtain⟨y,hy,hlt,hw⟩:=h2;obtain⟨e,σ',hq,h3⟩:=ih (μ y) (hn▸hlt) y rfl hy;refine⟨e,σ',hq,fun w0 V S0 gv a w hR b k cs=>?_⟩;obtain⟨e',a',w',⟨rfl,hR'⟩,harr⟩:=h1 w0 V S0 gv a w hR b (.inLoop c::k) cs;obtain⟨a2,w2,hR2,harr2⟩:=h3 w0 V S0 gv a' w' (hw w0 V S0 gv a' w' hR') b k cs;exact⟨a2,w2,hR2,.of_steps (Steps.trans harr (.one step_inLoop)) harr2⟩
   |exit id=>exact out (by simp) h2
   |goto l=>exact out (by simp) h2
   |ret=>exact out (by simp) h2
   |panic ch=>exact out (by simp) h2
   |outgrown=>exact out (by simp) h2
 obtain⟨x,hx,hw⟩:=h0;obtain⟨e,σ',hq,h1⟩:=key _ x rfl hx;refine⟨e,σ',fun w0 V S0 gv a w hR b k cs=>?_,hq⟩;obtain⟨a',w',hR',harr⟩:=h1 w0 V S0 gv a w (hw w0 V S0 gv a w hR) b k cs;exact⟨e,a',w',⟨rfl,hR'⟩,.of_steps (.one step_loop) harr⟩
end
def envOf:List (Nat×AV)->Nat->AV
 |[],_=>.any
 |(k,v)::r,t=>if t=k then v else envOf r t
def heapOf:List (Nat×AObj)->Nat->Option AObj
 |[],_=>none
 |(k,o)::r,t=>if t=k then some o else heapOf r t
def mpOf:List (Nat×Option Nat)->Nat->Option Nat
 |[],_=>none
 |(k,o)::r,t=>if t=k then o else mpOf r t
def mkS(el:List (Nat×AV))(hl:List (Nat×AObj))(nxt nt:Nat)(gh:List AV:=[]):ASt:=⟨envOf el,heapOf hl,nxt,nt,gh⟩
def unm:List (Nat×Option Nat)->Nat->Prop
 |[],_=>True
 |(_,some j)::r,k=>j≠k/\unm r k
 |(_,none)::r,k=>unm r k
def wk1(H:Nat->Option AObj)(un:Nat->Prop)(q:Nat):AV->T->Prop
 | .t p x,y=>x=y/\q<=p
 | .own k c,y=>match H k with
  |some (.row _ z p cs)=>cs.length=c/\y= .sl z cs/\q<=p/\un k
  |_=>False
 |_,_=>False
def wkT(H:Nat->Option AObj)(un:Nat->Prop)(q:Nat)(cs:List AV)(ts:List T):Prop:=cs.length=ts.length/\ ∀(j:Nat) a t,cs[j]? =some a->ts[j]? =some t->wk1 H un q a t
mutual
def wkP(H:Nat->Option AObj)(m:Nat->Option Nat)(un:Nat->Prop)(nx:Nat):AV->AV->Prop
 |_,.any=>True
 | .t p x,.t q y=>x=y/\q<=p
 | .own k c,.own id c'=>m id=some k/\id<nx/\c=c'
 | .t _ x,.own id c'=>x= .sl 0 []/\m id=none/\c'=0/\id<nx
 | .own k c,.t q y=>match H k with
  |some (.row _ z p cs)=>cs.length=c/\y= .sl z cs/\q<=p/\un k
  |some (.vec _ z0 p cs)=>cs.length=c/\un k/\match y with
   | .sl z ts=>z=z0/\q<=p/\wkT H un q cs ts
   |_=>False
  |_=>False
 | .ptr k off c,.ptr id off' c'=>m id=some k/\id<nx/\off=off'/\c=c'
 | .sub k off l c,.sub id off' l' c'=>m id=some k/\id<nx/\off=off'/\l=l'/\c=c'
 | .pt p cs,.pt q ds=>cs=ds/\q<=p
 | .agg aS,.agg bs=>wkPs H m un nx aS bs
 | .tup aS,.tup bs=>wkPs H m un nx aS bs
 | .fn f aS,.fn g bs=>f=g/\wkPs H m un nx aS bs
 |_,_=>False
def wkPs(H:Nat->Option AObj)(m:Nat->Option Nat)(un:Nat->Prop)(nx:Nat):List AV->List AV->Prop
 |[],[]=>True
 |a::aS,b::bs=>wkP H m un nx a b/\wkPs H m un nx aS bs
 |_,_=>False
end
def wkO(H:Nat->Option AObj)(m:Nat->Option Nat)(un:Nat->Prop)(nx:Nat)(mk:Option Nat)(o:AObj):Prop:=match mk with
 |none=>match o with
  | .row _ z _ []=>0<z
  | .vec _ z _ []=>0<z
  |_=>False
 |some k=>match H k,o with
  |some (.row e z p cs),.row e' z' q ds=>e=e'/\z=z'/\q<=p/\cs=ds
  |some (.box ty cs),.box ty' ds=>ty=ty'/\wkPs H m un nx cs ds
  |some (.map K Y es),.map K' Y' fs=>K=K'/\Y=Y'/\es=fs
  |some (.map K Y es),.tmap K' Y' fs=>K=K'/\Y=Y'/\es=fs
  |some (.tmap K Y es),.tmap K' Y' fs=>K=K'/\Y=Y'/\es=fs
  |some (.vec e z p cs),.vec e' z' q ds=>e=e'/\z=z'/\q<=p/\wkPs H m un nx cs ds
  |some (.row e z p cs),.vec e' z' q ds=>e=e'/\z=z'/\q<=p/\wkPs H m un nx (cs.map (.t p)) ds
  |some (.vec e z0 p cs),.row e' z q ts=>e=e'/\z=z0/\q<=p/\wkT H un q cs ts
  |_,_=>False
def wkE(σ:ASt)(m:Nat->Option Nat)(un:Nat->Prop)(nx:Nat):List (Nat×AV)->Prop
 |[]=>True
 |(t,v)::r=>wkP σ.heap m un nx (σ.env t) v/\wkE σ m un nx r
def wkH(σ:ASt)(m:Nat->Option Nat)(un:Nat->Prop)(nx:Nat):List (Nat×AObj)->List (Nat×Option Nat)->Prop
 |[],[]=>True
 |(id,o)::r,(id',mk)::r'=>id=id'/\id<nx/\wkO σ.heap m un nx mk o/\wkH σ m un nx r r'
 |_,_=>False
def keysNd:List (Nat×Option Nat)->Prop
 |[]=>True
 |(k,m)::r=>(∀x∈r,x.1≠k)/\(match m with|some j=>unm r j|none=>True)/\keysNd r
theorem zB9: ∀{mp:List (Nat×Option Nat)} {k id:Nat},unm mp k->mpOf mp id≠some k
 |[],k,id,_=>by simp[mpOf]
 |(a,some j)::r,k,id,h=>by
  unfold mpOf;by_cases e:id=a
  ·rw[if_pos e];intro h2;injection h2 with h2;exact h.1 h2
  ·rw[if_neg e];exact zB9 h.2
 |(a,none)::r,k,id,h=>by
  unfold mpOf;by_cases e:id=a
  ·rw[if_pos e];intro h2;cases h2
  ·rw[if_neg e];exact zB9 (mp:=r) h
theorem zEL: ∀{mp:List (Nat×Option Nat)},keysNd mp-> ∀{i j k:Nat},mpOf mp i=some k->mpOf mp j=some k->i=j
 |[],_,i,j,k,h,_=>by simp[mpOf]at h
 |(a,m)::r,hn,i,j,k,hi,hj=>by
  unfold mpOf at hi hj;by_cases ei:i=a
  ·rw[if_pos ei]at hi;by_cases ej:j=a
   ·omega
   ·rw[if_neg ej]at hj;subst hi;exact absurd hj (zB9 hn.2.1)
  ·rw[if_neg ei]at hi;by_cases ej:j=a
   ·rw[if_pos ej]at hj;subst hj;exact absurd hi (zB9 hn.2.1)
   ·rw[if_neg ej]at hj;exact zEL hn.2.2 hi hj
theorem zCU{σ:ASt}{m:Nat->Option Nat}{un:Nat->Prop}{nx:Nat}: ∀{hl:List (Nat×AObj)} {ml:List (Nat×Option Nat)},wkH σ m un nx hl ml-> ∀id,(∀o,heapOf hl id=some o->id<nx/\wkO σ.heap m un nx (mpOf ml id) o)/\(heapOf hl id=none->mpOf ml id=none)
 |[],[],_,id=>⟨fun o h=>by simp[heapOf]at h,fun _=>rfl⟩
 |(a,o)::r,(b,mk)::r',h,id=>by
  obtain⟨rfl,h1,h2,h3⟩:=h;unfold heapOf mpOf;by_cases e:id=a
  ·subst e;rw[if_pos rfl,if_pos rfl];exact⟨fun o' ho=>by injection ho with ho;subst ho;exact⟨h1,h2⟩,fun hn=>by cases hn⟩
  ·rw[if_neg e,if_neg e];exact zCU h3 id
 |[],_::_,h,_=>h.elim
 |_::_,[],h,_=>h.elim
theorem zGc{σ:ASt}{m:Nat->Option Nat}{un:Nat->Prop}{nx:Nat}: ∀{el:List (Nat×AV)},wkE σ m un nx el-> ∀t,envOf el t= .any\/wkP σ.heap m un nx (σ.env t) (envOf el t)
 |[],_,t=>.inl rfl
 |(k,v)::r,h,t=>by
  unfold envOf;by_cases e:t=k
  ·subst e;rw[if_pos rfl];exact .inr h.1
  ·rw[if_neg e];exact zGc h.2 t
structure Mp(H':Nat->Option AObj)(m:Nat->Option Nat)(un:Nat->Prop):Prop where
 inj: ∀{i j k:Nat},m i=some k->m j=some k->i=j
 un: ∀{k id:Nat},un k->m id≠some k
 no: ∀{id:Nat},H' id=none->m id=none
section
variable{w0 w:World}{V S0 U:Nat->Prop}{H:Nat->Option AObj}{ob:Nat->Option (Value×Nat)}
def obW(ob:Nat->Option (Value×Nat))(H':Nat->Option AObj)(m:Nat->Option Nat)(id:Nat):Option (Value×Nat):=match H' id with
 |none=>none
 |some _=>match m id with
  |some k=>ob k
  |none=>some (.slice none 0 0,0)
variable{H':Nat->Option AObj}{m:Nat->Option Nat}{un:Nat->Prop}
theorem zN6{b:Nat}(h:OB (obW ob H' m) b): ∃id k u n,m id=some k/\ob k=some (u,n)/\blk u=some b:=by
 obtain⟨id,u,n,e1,e2⟩:=h;unfold obW at e1;split at e1
 ·cases e1
 ·split at e1
  ·rename_i k hk;exact⟨id,k,u,n,hk,e1,e2⟩
  ·simp only[Qx,Qk]at e1;obtain⟨rfl,-⟩:=e1
   cases e2
theorem zRO{p b o:Nat}{u:Value}(h:zFf w0.heap.size V ob w p b o=some u):zFf w0.heap.size V (obW ob H' m) w p b o=some u:=by
 obtain⟨h1,h2,h3⟩:=zZ.1 h;exact zZ.2 ⟨fun hb=>by obtain⟨id,k,u,n,-,e1,e2⟩:=zN6 hb;exact h1 ⟨k,u,n,e1,e2⟩,h2,h3⟩
theorem zS7(h:MR w0 V S0 U H ob w)(hm:Mp H' m un){k e z p q:Nat}{cs:List T}(hk:H k=some (.row e z p cs))(hu:un k){u:Value}{n:Nat}(hob:ob k=some (u,n))(hq:q<=p):Rep (zFf w0.heap.size V (obW ob H' m) w q) u (.sl z cs):=by
 have:=h.tree hk hob;refine this.mono (fun b o x hx=>?_);obtain⟨h1,h2,h3⟩:=zZ.1 hx;refine zZ.2 ⟨fun hb=>?_,zBc h2 hq,h3⟩;obtain⟨id,k',u',n',e0,e1,e2⟩:=zN6 hb;have hne:k'≠k:=fun e=>hm.un hu (e▸e0)
 exact h1 ⟨k',u',n',by rw[zu _ _ hne];exact e1,e2⟩
theorem zML(h:MR w0 V S0 U H ob w)(hm:Mp H' m un){q:Nat}{a:AV}{t:T}{v:Value}(hv:VR (zV w0.heap.size V ob U w) v a)(hw:wk1 H un q a t):Rep (zFf w0.heap.size V (obW ob H' m) w q) v t:=by
 unfold wk1 at hw;split at hw
 ·obtain⟨rfl,hq⟩:=hw;exact hv.rep.mono (fun b o u hu=>zAm hq b o u (zRO hu))
 ·rename_i k c y;split at hw
  ·rename_i e z p cs hH;obtain⟨h1,rfl,hq,hu⟩:=hw;obtain⟨e1,-⟩:=h.own hv hH h1;exact zS7 h hm hH hu e1 hq
  ·exact hw.elim
 ·exact hw.elim
theorem zVx(h:MR w0 V S0 U H ob w)(hm:Mp H' m un){k e z p q:Nat}{cs:List AV}{ts:List T}(hk:H k=some (.vec e z p cs))(hqp:q<=p)(hu:un k){u:Value}{n:Nat}(hob:ob k=some (u,n))(hw:wkT H un q cs ts):Rep (zFf w0.heap.size V (obW ob H' m) w q) u (.sl z ts):=by
 obtain⟨-,u',h2,hz,hl,m',vs,ho,hlen,hone,hr⟩:=h.obj k _ hk;rw[hob]at h2;injection h2 with h2;injection h2 with h2 _;subst h2;obtain⟨w1,w2⟩:=hw;rcases ho.2 with⟨rfl,rfl⟩|⟨g,cap,cur,rfl,-,hg,hnc,hcm,hcs,htake⟩
 ·have:ts=[]:=by
   have:=ho.1;exact List.eq_nil_of_length_eq_zero (by omega)
  subst this;exact .nil z
 ·have hnot: ¬OB (obW ob H' m) g:=by
   intro hb;obtain⟨id,k',u',n',e0,e1,e2⟩:=zN6 hb;have hne:k'≠k:=fun e=>hm.un hu (e▸e0)
   exact h.sep k' k u' _ n' n g hne e1 hob e2 rfl
  have hcell: ∀i c,ts[i]? =some c-> ∃x a,vs[i]? =some x/\cs[i]? =some a/\w.cell? ⟨g,i,none⟩=some x:=fun i c hi=>by
   have hlt:i<ts.length:=(Qq.1 hi).1;have hlt2:i<cs.length:=by omega
   have hlt3:i<vs.length:=by omega
   refine⟨vs[i],cs[i],by simp,by simp,?_⟩;have:=ho.cells (g:=g) rfl i vs[i] (by simp);rw[Addr.add_lit]at this;simpa using this
  refine .sl g 0 m' cap z ts (fun i=>vs.getD i undef) hz (by have:=ho.1;omega) hnc (by simpa[maxLen]using hcm) (fun i c hi=>?_) (fun i c hi=>?_)
  ·obtain⟨x,a,h1,h2,h3⟩:=hcell i c hi;refine zZ.2 ⟨hnot,zBc (hl g rfl) hqp,?_⟩;simpa[h1]using h3
  ·obtain⟨x,a,h1,h2,h3⟩:=hcell i c hi;have:=zML h hm (hr i a x h2 h1) (w2 i a c h2 hi);simpa[h1]using this
theorem zAG{nx:Nat}: ∀{aS bs:List AV},wkPs H m un nx aS bs->aS.length=bs.length/\ ∀(i:Nat) b,bs[i]? =some b-> ∃a,aS[i]? =some a/\wkP H m un nx a b
 |[],[],_=>⟨rfl,fun i b hi=>by simp at hi⟩
 |a::aS,b::bs,h=>by
  simp only[wkPs]at h;obtain⟨h1,h2⟩:=zAG h.2;refine⟨by simp[h1],fun i c hi=>?_⟩
  cases i with
  |zero=>simp at hi;subst hi;exact⟨a,rfl,h.1⟩
  |succ i=>exact h2 i c (by simpa using hi)
 |[],_::_,h=>by simp[wkPs]at h
 |_::_,[],h=>by simp[wkPs]at h
theorem zCY{nx:Nat}: ∀{aS bs:List AV},aS.length=bs.length->(∀(i:Nat) a b,aS[i]? =some a->bs[i]? =some b->wkP H m un nx a b)->wkPs H m un nx aS bs
 |[],[],_,_=>by simp[wkPs]
 |a::aS,b::bs,h,hr=>by
  simp only[wkPs];exact⟨hr 0 a b rfl rfl,zCY (by simpa using h) (fun i x y hx hy=>hr (i+1) x y (by simpa using hx) (by simpa using hy))⟩
 |[],_::_,h,_=>by simp at h
 |_::_,[],h,_=>by simp at h
theorem VR.wk(h:MR w0 V S0 U H ob w)(hm:Mp H' m un){nx:Nat}{v:Value}{a:AV}(hv:VR (zV w0.heap.size V ob U w) v a): ∀(b:AV),wkP H m un nx a b->VR (zV w0.heap.size V (obW ob H' m) (fun k=>k<nx) w) v b:=by
 induction hv with
 |any v=>
  intro b hw
  cases b<;>simp only[wkP]at hw;exact .any v
 |t v p x hr=>
  intro b hw
  cases b<;>simp only[wkP]at hw
  ·exact .any v
  ·rename_i q y;obtain⟨rfl,hq⟩:=hw;exact .t v q x (hr.mono (fun b o u hu=>zAm hq b o u (zRO hu)))
  ·rename_i id c;obtain⟨rfl,h1,rfl,h2⟩:=hw;have hvv:v= .slice none 0 0:=by
    cases hr with
    |nil z=>rfl
    |emp a z hz=>omega
    |sl b o n cap z cs vs hz=>omega
   subst hvv;refine .own _ id 0 rfl h2 (fun u n hu=>?_);have hu:obW ob H' m id=some (u,n):=hu;unfold obW at hu;split at hu
   ·cases hu
   ·rw[h1]at hu;simp only[Qx,Qk]at hu;exact⟨by omega,fun _=>hu.1⟩
 |own v k c h1 hU hh=>
  intro b hw
  cases b<;>simp only[wkP]at hw
  ·exact .any v
  ·rename_i q y;split at hw
   ·rename_i e z p cs hH;obtain⟨rfl,rfl,hq,hu⟩:=hw;obtain⟨-,u,e3,-⟩:=h.obj k _ hH;have:=(hh u _ e3).2 rfl;subst this;exact .t _ q _ (zS7 h hm hH hu e3 hq)
   ·rename_i e z0 pv cs hH;obtain⟨rfl,hu,hw⟩:=hw;split at hw
    ·rename_i z ts;obtain⟨rfl,hqp,hw⟩:=hw;obtain⟨-,u,e3,-⟩:=h.obj k _ hH;have:=(hh u _ e3).2 rfl;subst this;exact .t _ q _ (zVx h hm hH hqp hu e3 hw)
    ·exact hw.elim
   ·exact hw.elim
  ·rename_i id c';obtain⟨hmi,hlt,rfl⟩:=hw;refine .own v id c h1 hlt (fun u n hu=>?_);have hu:obW ob H' m id=some (u,n):=hu;unfold obW at hu;split at hu
   ·cases hu
   ·rw[hmi]at hu;exact hh u n hu
 |ptr v k off c h1 hU hh=>
  intro b hw
  cases b<;>simp only[wkP]at hw
  ·exact .any v
  ·rename_i id off' c';obtain⟨hmi,hlt,rfl,rfl⟩:=hw;refine .ptr v id off c h1 hlt (fun u n hu=>?_);have hu:obW ob H' m id=some (u,n):=hu;unfold obW at hu;split at hu
   ·cases hu
   ·rw[hmi]at hu;exact hh u n hu
 |sub v k off l c h1 hU hh=>
  intro b hw
  cases b<;>simp only[wkP]at hw
  ·exact .any v
  ·rename_i id off' l' c';obtain⟨hmi,hlt,rfl,rfl,rfl⟩:=hw;refine .sub v id off l c h1 hlt (fun u n hu=>?_);have hu:obW ob H' m id=some (u,n):=hu;unfold obW at hu;split at hu
   ·cases hu
   ·rw[hmi]at hu;exact hh u n hu
 |pt p b o cs vs hc hr=>
  intro b' hw
  cases b'<;>simp only[wkP]at hw
  ·exact .any _
  ·rename_i q ds;obtain⟨rfl,hq⟩:=hw;exact .pt q b o cs vs (fun i c hi=>zAm hq _ _ _ (zRO (hc i c hi))) (fun i c hi=>(hr i c hi).mono (fun b o u hu=>zAm hq b o u (zRO hu)))
 |agg vs cs hn h1 hr ih=>
  intro b hw
  cases b<;>simp only[wkP]at hw
  ·exact .any _
  ·rename_i ds;obtain⟨e1,e2⟩:=zAG hw;exact .agg vs ds (by omega) h1 (fun i c hi=>by obtain⟨a,ha,hab⟩:=e2 i c hi;exact ih i a ha c hab)
 |tup vs cs hn hr ih=>
  intro b hw
  cases b<;>simp only[wkP]at hw
  ·exact .any _
  ·rename_i ds;obtain⟨e1,e2⟩:=zAG hw;exact .tup vs ds (by omega) (fun i c hi=>by obtain⟨a,ha,hab⟩:=e2 i c hi;exact ih i a ha c hab)
 |fn f vs cs hn hr ih=>
  intro b hw
  cases b<;>simp only[wkP]at hw
  ·exact .any _
  ·rename_i g ds;obtain⟨rfl,hw⟩:=hw;obtain⟨e1,e2⟩:=zAG hw;exact .fn f vs ds (by omega) (fun i c hi=>by obtain⟨a,ha,hab⟩:=e2 i c hi;exact ih i a ha c hab)
theorem MR.wk{σ:ASt}(h:MR w0 V S0 U σ.heap ob w){nx:Nat}(hh: ∀id o,H' id=some o->id<nx/\wkO σ.heap m un nx (m id) o)(hm:Mp H' m un):MR w0 V S0 (fun k=>k<nx) H' (obW ob H' m) w:=by
 have hx: ∀p b o u,zFf w0.heap.size V ob w p b o=some u->zFf w0.heap.size V (obW ob H' m) w p b o=some u:=fun p b o u hu=>zRO hu
 have vcs: ∀{cs ds:List AV} {vs:List Value},wkPs σ.heap m un nx cs ds->(∀(j:Nat) c x,cs[j]? =some c->vs[j]? =some x->VR (zV w0.heap.size V ob U w) x c)-> ∀(j:Nat) c x,ds[j]? =some c->vs[j]? =some x->VR (zV w0.heap.size V (obW ob H' m) (fun k=>k<nx) w) x c:=fun hw hr j c x hj hx=>by
  obtain⟨a,ha,hac⟩:=(zAG hw).2 j c hj;exact(hr j a x ha hx).wk h hm c hac
 have cnt: ∀id o,H' id=some o-> ∃u,obW ob H' m id=some (u,o.cnt)/\OR (zV w0.heap.size V (obW ob H' m) (fun k=>k<nx) w) w u o:=fun id o ho=>by
  obtain⟨h1,h2⟩:=hh id o ho;unfold obW;rw[ho];unfold wkO at h2;split at h2
  ·rename_i hmi;rw[hmi];split at h2
   ·exact⟨_,rfl,h2,fun k hk=>(by cases hk),0,[],World.ownsRow_nil w 0 _ _,rfl,fun i c x hi=>by simp at hi⟩
   ·exact⟨_,rfl,h2,fun k hk=>(by cases hk),0,[],World.ownsRow_nil w 0 _ _,rfl,fun v hv=>(by simp at hv),fun i c x hi=>by simp at hi⟩
   ·exact h2.elim
  ·rename_i k hmi;rw[hmi];split at h2
   ·rename_i e z p cs e' z' q ds hH;obtain⟨rfl,rfl,hq,rfl⟩:=h2;obtain⟨-,u,e3,hz,hlv,n,vs,how,hlen,hr⟩:=h.obj k _ hH;exact⟨u,e3,hz,fun k hk=>zBc (hlv k hk) hq,n,vs,how,hlen,fun i c x hi hv=>(hr i c x hi hv).mono (fun b o u hu=>zAm hq b o u (zRO hu))⟩
   ·rename_i ty cs ty' ds hH;obtain⟨rfl,hw⟩:=h2;obtain⟨-,u,e3,b,vs,rfl,hg,hv⟩:=h.obj k _ hH;have hlen:=(zAG hw).1;refine⟨_,?_,b,vs,rfl,hg,hv.wk h hm (.agg ds) (by simpa only[wkP]using hw)⟩;show ob k=_;rw[e3];simp[AObj.cnt,hlen]
   ·rename_i K Y es K' Y' fs hH;obtain⟨rfl,rfl,rfl⟩:=h2;obtain⟨-,u,e3,r,clock,xs,rfl,hg,hsz,hrr⟩:=h.obj k _ hH;exact⟨_,e3,r,clock,xs,rfl,hg,hsz,hrr⟩
   ·rename_i K Y es K' Y' fs hH;obtain⟨rfl,rfl,rfl⟩:=h2;obtain⟨-,u,e3,r,clock,xs,rfl,hg,hsz,hrr⟩:=h.obj k _ hH;exact⟨_,e3,r,clock,xs,rfl,hg,hsz,fun i k x e e1 e2=>⟨(hrr i k x e e1 e2).1,(hrr i k x e e1 e2).2.mono (zKT _)⟩⟩
   ·rename_i K Y es K' Y' fs hH;obtain⟨rfl,rfl,rfl⟩:=h2;obtain⟨-,u,e3,r,clock,xs,rfl,hg,hsz,hrr⟩:=h.obj k _ hH;exact⟨_,e3,r,clock,xs,rfl,hg,hsz,fun i k x e e1 e2=>⟨(hrr i k x e e1 e2).1,(hrr i k x e e1 e2).2.mono (fun b o u hu=>zRO hu)⟩⟩
   ·rename_i e z p cs e' z' q ds hH;obtain⟨rfl,rfl,hqp,hw⟩:=h2;obtain⟨-,u,e3,hz,hlv,n,vs,how,hlen,hone,hr⟩:=h.obj k _ hH;have hl2:=(zAG hw).1;refine⟨u,?_,hz,fun k hk=>zBc (hlv k hk) hqp,n,vs,how,by omega,hone,vcs hw hr⟩;show ob k=_;rw[e3];simp[AObj.cnt,hl2]
   ·rename_i e z p cs e' z' q ds hH;obtain⟨rfl,rfl,hp,hw⟩:=h2;obtain⟨-,u,e3,hz,hlv,n,vs,how,hlen,hr⟩:=h.obj k _ hH;have hl2:=(zAG hw).1;rw[List.length_map]at hl2;refine⟨u,?_,hz,fun k hk=>zBc (hlv k hk) hp,n,vs,how,by omega,fun v hv=>?_,vcs hw (fun j c x hj hx=>?_)⟩
    ·show ob k=_;rw[e3];simp[AObj.cnt,hl2]
    ·obtain⟨j,hj,rfl⟩:=Qb hv;exact(hr j (cs[j]'(by omega)) vs[j] (by simp) (by simp)).one
    ·rw[Qi]at hj
     cases hq:cs[j]? with
     |none=>rw[hq]at hj;cases hj
     |some y=>
      rw[hq]at hj;simp only[Qg,Qx]at hj;subst hj;exact .t _ _ _ (hr j y x hq hx)
   ·rename_i e z0 p cs e' z q ts hH;obtain⟨rfl,rfl,hqp,hw⟩:=h2;obtain⟨-,u,e3,hz,hlv,n,vs,how,hlen,hone,hr⟩:=h.obj k _ hH;have hl2:=hw.1;refine⟨u,?_,hz,fun k hk=>zBc (hlv k hk) hqp,n,vs,how,by omega,fun j c x hj hx=>?_⟩
    ·show ob k=_;rw[e3];simp[AObj.cnt,hl2]
    ·have hlt:j<cs.length:=by have:=(Qq.1 hj).1;omega
     exact zML h hm (hr j cs[j] x (by simp) hx) (hw.2 j cs[j] c (by simp) hj)
   ·exact h2.elim
 refine⟨fun id u n e=>?_,fun id o ho=>?_,fun id id' u u' n n' k hne e1 e2 hk hk'=>?_,fun id u n k e hk hlt=>?_,h.only,h.gl⟩
 ·cases ho:H' id with
  |none=>unfold obW at e;rw[ho]at e;cases e
  |some o=>
   obtain⟨u',e',-⟩:=cnt id o ho;rw[e]at e';simp only[Qx,Qk]at e';exact⟨o,rfl,e'.2⟩
 ·obtain⟨u,e,hor⟩:=cnt id o ho;exact⟨(hh id o ho).1,u,e,hor⟩
 ·unfold obW at e1 e2;split at e1
  ·cases e1
  ·split at e2
   ·cases e2
   ·split at e1
    ·rename_i k1 hk1;split at e2
     ·rename_i k2 hk2;exact h.sep k1 k2 u u' n n' k (fun e=>hne (hm.inj (by rw[hk1,e]) hk2)) e1 e2 hk hk'
     ·simp only[Qx,Qk]at e2;obtain⟨rfl,-⟩:=e2
      cases hk'
    ·simp only[Qx,Qk]at e1;obtain⟨rfl,-⟩:=e1
     cases hk
 ·unfold obW at e;split at e
  ·cases e
  ·split at e
   ·rename_i k1 hk1;exact h.new k1 u n k e hk hlt
   ·simp only[Qx,Qk]at e;obtain⟨rfl,-⟩:=e
    cases hk
end
theorem zOC{σ σ':ASt}{m:Nat->Option Nat}{un:Nat->Prop}(hnt:σ'.nt=σ.nt)(he: ∀t,σ'.env t= .any\/wkP σ.heap m un σ'.nxt (σ.env t) (σ'.env t))(hh: ∀id o,σ'.heap id=some o->id<σ'.nxt/\wkO σ.heap m un σ'.nxt (m id) o)(hm:Mp σ'.heap m un)(hg:wkPs σ.heap m un σ'.nxt σ.gh σ'.gh):Wk σ σ':=by
 rintro w0 V S0 gv a w ⟨ob,m1,m2,m3,m4,m5⟩;refine⟨obW ob σ'.heap m,m1.wk hh hm,fun t=>?_,m3,by rw[m4,←hnt],fun i c hi=>?_⟩
 ·rcases he t with e|e
  ·rw[e];exact .any _
  ·exact(m2 t).wk m1 hm _ e
 ·obtain⟨a',ha,hac⟩:=(zAG hg).2 i c hi;exact(m5 i a' ha).wk m1 hm c hac
theorem zOA{σ:ASt}{mp:List (Nat×Option Nat)}{nx:Nat}{hl:List (Nat×AObj)}{m:Nat->Option Nat}{un:Nat->Prop}(hh:wkH σ m un nx hl mp)(hn:keysNd mp):Mp (heapOf hl) (mpOf mp) (unm mp):=⟨zEL hn,zB9,fun h=>(zCU hh _).2 h⟩
theorem zH{σ:ASt}{el:List (Nat×AV)}{hl:List (Nat×AObj)}{nx nt:Nat}{gh:List AV}(mp:List (Nat×Option Nat))(hnt:nt=σ.nt)(he:wkE σ (mpOf mp) (unm mp) nx el)(hh:wkH σ (mpOf mp) (unm mp) nx hl mp)(hn:keysNd mp)(hg:wkPs σ.heap (mpOf mp) (unm mp) nx σ.gh gh):Wk σ (mkS el hl nx nt gh):=
 zOC (m:=mpOf mp) (un:=unm mp) hnt (zGc he) (fun id o ho=>(zCU hh id).1 o ho) (zOA hh hn) hg
def zDx(hl:List (Nat×AObj))(base n:Nat)(F:Nat->AObj)(id:Nat):Option AObj:=if id<base then heapOf hl id else if id-base<n then some (F (id-base))else none
def zBm(mp:List (Nat×Option Nat))(base n:Nat)(g:Nat->Nat)(id:Nat):Option Nat:=if id<base then mpOf mp id else if id-base<n then some (g (id-base))else none
def zCI(mp:List (Nat×Option Nat))(n:Nat)(g:Nat->Nat)(k:Nat):Prop:=unm mp k/\ ∀j,j<n->g j≠k
def mkF(el:List (Nat×AV))(hl:List (Nat×AObj))(base n:Nat)(F:Nat->AObj)(nxt nt:Nat)(gh:List AV:=[]):ASt:=⟨envOf el,zDx hl base n F,nxt,nt,gh⟩
theorem zH8{σ:ASt}{hl:List (Nat×AObj)}{base n:Nat}{F:Nat->AObj}{nx:Nat}(mp:List (Nat×Option Nat))(g:Nat->Nat)(hh:wkH σ (zBm mp base n g) (zCI mp n g) nx hl mp)(hn:keysNd mp)
  (hF: ∀j,j<n->base+j<nx/\unm mp (g j)/\wkO σ.heap (zBm mp base n g) (zCI mp n g) nx (some (g j)) (F j)) (hi: ∀i j,i<n->j<n->g i=g j->i=j):(∀id o,zDx hl base n F id=some o->id<nx/\wkO σ.heap (zBm mp base n g) (zCI mp n g) nx (zBm mp base n g id) o)/\Mp (zDx hl base n F) (zBm mp base n g) (zCI mp n g):=by
 refine⟨fun id o ho=>?_,⟨fun {i j k} h1 h2=>?_,fun {k id} hu h=>?_,fun {id} h=>?_⟩⟩
 ·have ho:zDx hl base n F id=some o:=ho;unfold zDx at ho;by_cases h1:id<base
  ·rw[if_pos h1]at ho;have:=(zCU hh id).1 o ho;refine⟨this.1,?_⟩;have e:zBm mp base n g id=mpOf mp id:=by unfold zBm;rw[if_pos h1]
   rw[e];exact this.2
  ·rw[if_neg h1]at ho;by_cases h2:id-base<n
   ·rw[if_pos h2]at ho;injection ho with ho;subst ho;obtain⟨a1,a2,a3⟩:=hF _ h2;have e:zBm mp base n g id=some (g (id-base)):=by unfold zBm;rw[if_neg h1,if_pos h2]
    rw[e];exact⟨by omega,a3⟩
   ·rw[if_neg h2]at ho;cases ho
 ·unfold zBm at h1 h2;by_cases b1:i<base<;>by_cases b2:j<base
  ·rw[if_pos b1]at h1;rw[if_pos b2]at h2;exact zEL hn h1 h2
  ·rw[if_pos b1]at h1;rw[if_neg b2]at h2;by_cases c2:j-base<n
   ·rw[if_pos c2]at h2;injection h2 with h2;exact absurd h1 (by rw[←h2];exact zB9 (hF _ c2).2.1)
   ·rw[if_neg c2]at h2;cases h2
  ·rw[if_neg b1]at h1;rw[if_pos b2]at h2;by_cases c1:i-base<n
   ·rw[if_pos c1]at h1;injection h1 with h1;exact absurd h2 (by rw[←h1];exact zB9 (hF _ c1).2.1)
   ·rw[if_neg c1]at h1;cases h1
  ·rw[if_neg b1]at h1;rw[if_neg b2]at h2;by_cases c1:i-base<n
   ·by_cases c2:j-base<n
    ·rw[if_pos c1]at h1;rw[if_pos c2]at h2;injection h1 with h1;injection h2 with h2;have:=hi _ _ c1 c2 (h1.trans h2.symm);omega
    ·rw[if_neg c2]at h2;cases h2
   ·rw[if_neg c1]at h1;cases h1
 ·unfold zBm at h;by_cases b1:id<base
  ·rw[if_pos b1]at h;exact zB9 hu.1 h
  ·rw[if_neg b1]at h;by_cases c1:id-base<n
   ·rw[if_pos c1]at h;injection h with h;exact hu.2 _ c1 h
   ·rw[if_neg c1]at h;cases h
 ·have h:zDx hl base n F id=none:=h;unfold zDx at h;unfold zBm;by_cases b1:id<base
  ·rw[if_pos b1]at h ⊢;exact(zCU hh id).2 h
  ·rw[if_neg b1]at h ⊢;by_cases c1:id-base<n
   ·rw[if_pos c1]at h;cases h
   ·rw[if_neg c1]
theorem zAQ{σ:ASt}{el:List (Nat×AV)}{hl:List (Nat×AObj)}{base n:Nat}{F:Nat->AObj}{nx nt:Nat}{gh:List AV}(mp:List (Nat×Option Nat))(g:Nat->Nat)(hnt:nt=σ.nt)(he:wkE σ (zBm mp base n g) (zCI mp n g) nx el)(hh:wkH σ (zBm mp base n g) (zCI mp n g) nx hl mp)(hn:keysNd mp)(hg:wkPs σ.heap (zBm mp base n g) (zCI mp n g) nx σ.gh gh)
  (hF: ∀j,j<n->base+j<nx/\unm mp (g j)/\wkO σ.heap (zBm mp base n g) (zCI mp n g) nx (some (g j)) (F j)) (hi: ∀i j,i<n->j<n->g i=g j->i=j):Wk σ (mkF el hl base n F nx nt gh):=by
 obtain⟨h1,h2⟩:=zH8 mp g hh hn hF hi;exact zOC (m:=zBm mp base n g) (un:=zCI mp n g) hnt (zGc he) h1 h2 hg
def ghA1:AV->AV
 | .ptr id off c=>.ptr id off c
 |_=>.any
def ghA(args:List AV):List AV:=args.map ghA1
def FnS(P:Program)(f:FuncId)(args:List AV)(H:List AObj)(res:AV)(H':List AObj):Prop:=∀(w:World) (V:Nat->Prop) (ob:Nat->Option (Value×Nat)) (vs:Array Value),MR w V (OB ob) (fun k=>k<H.length) (fun k=>H[k]?) ob w->vs.size=args.length→
 (∀(i:Nat) c,args[i]? =some c->VR (zV w.heap.size V ob (fun k=>k<H.length) w) (vs.getD i undef) c)→
 Calls P f vs w (fun e w'=>∃v ob',e= .returned v/\MR w V (OB ob) (fun k=>k<H'.length) (fun k=>H'[k]?) ob' w'/\VR (zV w.heap.size V ob' (fun k=>k<H'.length) w') v res/\GhR (zV w.heap.size V ob' (fun k=>k<H'.length) w') (fun i=>vs.getD i undef) (ghA args))
def FnA(P:Program)(f:FuncId)(args:List AV)(res:AV):Prop:=FnS P f args [] res []
def zCJ(args:List AV)(H:List AObj)(nt:Nat):ASt:=⟨fun t=>args.getD t .any,fun k=>H[k]?,H.length,nt,ghA args⟩
theorem zQF{w:World}{V:Nat->Prop}{ob:Nat->Option (Value×Nat)}{vs:Array Value}{args:List AV}{H:List AObj}{nt:Nat}(hm:MR w V (OB ob) (fun k=>k<H.length) (fun k=>H[k]?) ob w)(hn:vs.size=args.length)(hv: ∀(i:Nat) c,args[i]? =some c->VR (zV w.heap.size V ob (fun k=>k<H.length) w) (vs.getD i undef) c)(hle:args.length<=nt):
  Rel w V (OB ob) (fun i=>vs.getD i undef) (zCJ args H nt) { tmps:=vs++Array.replicate (nt-vs.size) undef,defers:=[] } w:=by
 refine⟨ob,hm,fun t=>?_,rfl,by simp[zCJ];omega,fun i c hi=>?_⟩
 ·show VR _ _ (args.getD t .any)
  cases hq:args[t]? with
  |none=>simp[hq];exact .any _
  |some c=>
   have hlt:t<vs.size:=by rw[hn];exact(Qq.1 hq).1
   have h1:=hv t c hq;have e:(vs++Array.replicate (nt-vs.size) undef).getD t undef=vs.getD t undef:=by
    simp only[Array.getD,Array.size_append,Array.size_replicate,hlt,dif_pos,show t<vs.size+(nt-vs.size) by omega];exact Array.getElem_append_left hlt
   rw[e];simp only[hq,Qv,Qd];exact h1
 ·have hi:(ghA args)[i]? =some c:=hi;unfold ghA at hi;rw[Qi]at hi
  cases hq:args[i]? with
  |none=>rw[hq]at hi;cases hi
  |some a=>
   rw[hq]at hi;simp only[Qg,Qx]at hi;subst hi;have h1:=hv i a hq
   cases a<;>first|exact h1|exact .any _
def idxF(k:Nat):List AObj->List (Nat×AObj)
 |[]=>[]
 |o::r=>(k,o)::idxF (k+1) r
theorem zCt: ∀(H:List AObj) (k j:Nat),heapOf (idxF k H) j=if j<k then none else H[j-k]?
 |[],k,j=>by simp[idxF,heapOf]
 |o::r,k,j=>by
  unfold idxF heapOf;rw[zCt r (k+1) j];by_cases e:j=k
  ·subst e;simp
  ·rw[if_neg e];by_cases h:j<k
   ·rw[if_pos h,if_pos (by omega)]
   ·rw[if_neg h,if_neg (by omega)];have:j-k=(j-(k+1))+1:=by omega
    rw[this];simp
section
variable{w0 w:World}{V S0 U:Nat->Prop}{H:Nat->Option AObj}{ob:Nat->Option (Value×Nat)}{P:Program}
def gR(tmps:Array Value):ResultVar->Sem Value
 | .tmp t=>pure (tmps.getD t undef)
 | .cell a t=>do loadVar t (←asAddr (tmps.getD a undef))
theorem zCl(fn:Func)(tmps:Array Value):results fn tmps=(do let vs ←fn.results.mapM (gR tmps);pure (if h:vs.size=1 then vs[0]else .tuple vs)):=by
 unfold results;congr 1
def resV(P:Program)(σ:ASt):List ResultVar->Option (List AV)
 |[]=>some []
 | .tmp t::r=>(resV P σ r).map fun l=>σ.env t::l
 | .cell t ty::r=>match aLoad P ty (σ.env t) σ.heap,resV P σ r with
  |some (true,e),some l=>some (e.val::l)
  |_,_=>none
theorem zA8{σ:ASt}{a:Act}(h:MR w0 V S0 U σ.heap ob w)(he: ∀t,VR (zV w0.heap.size V ob U w) (a.tmps.getD t undef) (σ.env t)): ∀(rs:List ResultVar) (l:List AV),resV P σ rs=some l-> ∃vs:List Value,(rs.mapM (gR a.tmps)).run P w= .ok vs w/\vs.length=l.length/\ ∀(i:Nat) v c,vs[i]? =some v->l[i]? =some c->VR (zV w0.heap.size V ob U w) v c
 |[],l,hl=>by
  simp[resV]at hl;subst hl;exact⟨[],by simp,rfl,fun i v c hv=>by simp at hv⟩
 | .tmp t::r,l,hl=>by
  unfold resV at hl
  cases hr:resV P σ r with
  |none=>rw[hr]at hl;cases hl
  |some l2=>
   rw[hr]at hl;simp only[Qg,Qx]at hl;subst hl;obtain⟨vs,h1,h2,h3⟩:=zA8 h he r l2 hr;refine⟨a.tmps.getD t undef::vs,by rw[List.mapM_cons];simp only[gR,Sem.run_bind,Sem.run_pure,Result.andThen_ok,h1],by simp[h2],fun i v c hv hc=>?_⟩
   cases i with
   |zero=>simp only[Qm,Qx]at hv hc;subst hv hc;exact he t
   |succ i=>exact h3 i v c (by simpa using hv) (by simpa using hc)
 | .cell p ty::r,l,hl=>by
  unfold resV at hl;split at hl
  ·rename_i e l2 hld hr;injection hl with hl;subst hl;obtain⟨vs,h1,h2,h3⟩:=zA8 h he r l2 hr;obtain⟨y,hy1,hy2,-⟩:=zOH hld rfl h (he p);have hy3:(do loadVar ty (←asAddr (a.tmps.getD p undef)):Sem Value).run P w= .ok y w:=by
    have hp: ∃ad,a.tmps.getD p undef= .pointer (some ad):=by
     generalize a.tmps.getD p undef=x at hy1
     cases x with
     |pointer o=>cases o with
      |none=>simp[Instr.loadAt,Instr.sureAddr,stuck,Sem.run]at hy1
      |some ad=>exact⟨ad,rfl⟩
     |_=>simp[Instr.loadAt,Instr.sureAddr,stuck,Sem.run]at hy1
    obtain⟨ad,hp⟩:=hp;rw[hp]at hy1 ⊢;simpa[Instr.loadAt,Instr.sureAddr,asAddr]using hy1
   refine⟨y::vs,by rw[List.mapM_cons];simp only[gR];rw[Sem.run_bind,hy3];simp only[Sem.run_bind,Sem.run_pure,Result.andThen_ok,h1],by simp[h2],fun i v c hv hc=>?_⟩
   cases i with
   |zero=>simp only[Qm,Qx]at hv hc;subst hv hc;exact hy2
   |succ i=>exact h3 i v c (by simpa using hv) (by simpa using hc)
  ·cases hl
end
def resG(P:Program)(rs:List ResultVar)(res:AV)(H':List AObj)(m:Nat->Option Nat)(un:Nat->Prop)(e:Exit)(σ:ASt):Prop:=(e= .normal\/e= .ret)/\(∀id o,H'[id]? =some o->wkO σ.heap m un H'.length (m id) o)/\Mp (fun k=>H'[k]?) m un/\wkPs σ.heap m un H'.length σ.gh σ.gh/\ ∃l,resV P σ rs=some l/\match l,res with
 |[a],r=>wkP σ.heap m un H'.length a r
 |l,.tup bs=>l.length≠1/\wkPs σ.heap m un H'.length l bs
 |_,_=>False
theorem zHX{P:Program}{f:FuncId}{fn:Func}{c:Code}{args:List AV}{H H':List AObj}{res:AV}(hf:P.funcs[f]? =some fn)(hb:fn.body=some c)(hle:args.length<=fn.ntmps)(h:awp P c (fun e σ=>(∃m un,resG P fn.results.toList res H' m un e σ)/\σ.gh=ghA args) (zCJ args H fn.ntmps)):FnS P f args H res H':=by
 intro w V ob vs hm hn hv;refine calls_of_wp hf hb ?_;obtain⟨e,σ',h1,⟨m,un,he,hwh,hmp,hgh,l,hl,hmm⟩,hga⟩:=h;refine wp_mono (h1 w V _ _ _ w (zQF hm hn hv hle)) ?_;rintro e' a w' ⟨rfl,ob2,m1,m2,m3,m4,m5⟩;obtain⟨rs,r1,r2,r3⟩:=zA8 (P:=P) m1 m2 fn.results.toList l hl;have hm2:=m1.wk (nx:=H'.length) (fun id o ho=>⟨(Qq.1 ho).1,hwh id o ho⟩) hmp;have fin:a.defers=[]/\ ∃v,(results fn a.tmps).run P w'= .ok v w'/\ ∃v' ob',Ending.returned v= .returned v'/\MR w V (OB ob) (fun k=>k<H'.length) (fun k=>H'[k]?) ob' w'/\VR (zV w.heap.size V ob' (fun k=>k<H'.length) w') v' res/\GhR (zV w.heap.size V ob' (fun k=>k<H'.length) w') (fun i=>vs.getD i undef) (ghA args):=by
  refine⟨m3,?_⟩;have hrun:(results fn a.tmps).run P w'= .ok (if h:rs.toArray.size=1 then rs.toArray[0]else .tuple rs.toArray) w':=by
   rw[zCl,Array.mapM_eq_mapM_toList];simp[r1]
  refine⟨_,hrun,_,_,rfl,hm2,?_,fun i c hi=>?_⟩
  ·split at hmm
   ·rename_i x;have hl1:rs.length=1:=by simpa using r2
    obtain⟨v,rfl⟩: ∃v,rs=[v]:=by
     cases rs with
     |nil=>simp at hl1
     |cons v r=>cases r with
      |nil=>exact⟨v,rfl⟩
      |cons _ _=>simp at hl1
    exact(r3 0 v x rfl rfl).wk m1 hmp res hmm
   ·rename_i l' bs hne;obtain⟨e1,e2⟩:=zAG hmm.2;have hl1: ¬rs.toArray.size=1:=by simp;omega
    rw[dif_neg hl1];refine .tup _ _ (by simp;omega) (fun i b hi=>?_);obtain⟨x,hx,hxb⟩:=e2 i b hi;have hlt:i<rs.length:=by rw[r2];exact(Qq.1 hx).1
    have:=(r3 i rs[i] x (by simp) hx).wk m1 hmp b hxb;have e:rs.toArray.getD i undef=rs[i]:=by simp[Array.getD,hlt]
    rw[e];exact this
   ·exact hmm.elim
  ·obtain⟨a',ha,hac⟩:=(zAG hgh).2 i c (by rw[hga];exact hi);exact(m5 i a' ha).wk m1 hmp c hac
 rcases he with rfl|rfl<;>exact fin
def zOr(P:Program)(rs:List ResultVar)(res:AV)(H':List AObj)(e:Exit)(σ:ASt):Prop:=(e= .normal\/e= .ret)/\ ∃l mp,resV P σ rs=some l/\wkH σ (mpOf mp) (unm mp) H'.length (idxF 0 H') mp/\keysNd mp/\wkPs σ.heap (mpOf mp) (unm mp) H'.length σ.gh σ.gh/\match l,res with
 |[a],r=>wkP σ.heap (mpOf mp) (unm mp) H'.length a r
 |l,.tup bs=>l.length≠1/\wkPs σ.heap (mpOf mp) (unm mp) H'.length l bs
 |_,_=>False
theorem zA7{P:Program}{rs:List ResultVar}{res:AV}{H':List AObj}{e:Exit}{σ:ASt}(h:zOr P rs res H' e σ): ∃m un,resG P rs res H' m un e σ:=by
 obtain⟨he,l,mp,hl,hwh,hnd,hgh,hmm⟩:=h;have hheap:heapOf (idxF 0 H')=fun k=>H'[k]?:=by funext k;rw[zCt];simp
 have hmp:=zOA hwh hnd;rw[hheap]at hmp;exact⟨mpOf mp,unm mp,he,fun id o ho=>((zCU hwh id).1 o (by rw[hheap];exact ho)).2,hmp,hgh,l,hl,hmm⟩
theorem zJ4{P:Program}{f:FuncId}{fn:Func}{c:Code}{args:List AV}{H H':List AObj}{res:AV}(hf:P.funcs[f]? =some fn)(hb:fn.body=some c)(hle:args.length<=fn.ntmps)(h:awp P c (fun e σ=>zOr P fn.results.toList res H' e σ/\σ.gh=ghA args) (zCJ args H fn.ntmps)):FnS P f args H res H':=
 zHX hf hb hle (zB5 h fun e σ hq=>⟨zA7 hq.1,hq.2⟩)
theorem zF{P:Program}{Q:Exit->ASt->Prop}{σ:ASt}{id:Nat}{ops:Array Oper}{y:Code}(h: ∀K:ASt->Prop,(∀σ',awp P y Q σ'->K σ')->awpL P ops σ.nxt ops.toList 0 σ K):awp P (.seq (.region id ops false) y) Q σ:=
 zA (zFd (h _ (fun _ h=>h)))
theorem zAT{P:Program}{Q:Exit->ASt->Prop}{σ:ASt}{id:Nat}{ops:Array Oper}(h: ∀K:ASt->Prop,(∀σ',Q .normal σ'->K σ')->awpL P ops σ.nxt ops.toList 0 σ K):awp P (.region id ops false) Q σ:=
 zFd (h _ (fun _ h=>h))
theorem zKW{α:Type}(f:Nat->α)(i:Nat)(x:α)(j:Nat):upd f i x j=if j=i then x else f j:=rfl
def pf1:AV->T->Prop
 |_,.any=>True
 | .t _ x,d=>x=d
 |_,_=>False
def pfx:List AV->List T->Prop
 |_,[]=>True
 |a::r,d::ds=>pf1 a d/\pfx r ds
 |_,_=>False
theorem zI0: ∀{aS:List AV} {ds:List T},pfx aS ds-> ∀(i:Nat) d,ds[i]? =some d-> ∃a,aS[i]? =some a/\pf1 a d
 |_,[],_,i,d,h=>by simp at h
 |[],_::_,h,_,_,_=>h.elim
 |a::r,d0::ds,h,0,d,hi=>by
  simp only[Qm,Qx]at hi;subst hi;exact⟨a,rfl,h.1⟩
 |a::r,d0::ds,h,i+1,d,hi=>by
  simp only[Ql]at hi ⊢;exact zI0 h.2 i d hi
mutual
def inP(H:Nat->Option AObj)(pi:List Nat)(q:Nat):AV->AV->Prop
 |_,.any=>True
 | .t p x,.t p' y=>x=y/\(scal x=true\/p'=0\/(p'=1/\q<=p))
 | .own id c,.t p' y=>p'=0/\id∉pi/\match H id with
  |some (.row _ z _ cs)=>cs.length=c/\y= .sl z cs
  |_=>False
 | .own id c,.own k c'=>pi[k]? =some id/\c=c'
 | .ptr id off c,.ptr k off' c'=>pi[k]? =some id/\off=off'/\c=c'
 | .ptr id off c,.pt p' ds=>p'=0/\id∉pi/\match H id with
  |some (.box _ cs)=>cs.length=c/\pfx (cs.drop off) ds
  |_=>False
 | .pt p cs,.pt p' ds=>cs=ds/\(p'=0\/(p'=1/\q<=p))
 | .agg aS,.agg bs=>inPs H pi q aS bs
 | .fn f aS,.fn g bs=>f=g/\inPs H pi q aS bs
 |_,_=>False
def inPs(H:Nat->Option AObj)(pi:List Nat)(q:Nat):List AV->List AV->Prop
 |[],[]=>True
 |a::aS,b::bs=>inP H pi q a b/\inPs H pi q aS bs
 |_,_=>False
end
def inO(H:Nat->Option AObj)(pi:List Nat)(q:Nat)(o:Option AObj)(o':AObj):Prop:=match o,o' with
 |some (.row e z p cs),.row e' z' p' ds=>e=e'/\z=z'/\cs=ds/\(p'=0\/(p'=1/\q<=p))
 |some (.box ty cs),.box ty' ds=>ty=ty'/\inPs H pi q cs ds
 |some (.map K Y es),.map K' Y' fs=>K=K'/\Y=Y'/\es=fs
 |some (.tmap K Y es),.tmap K' Y' fs=>K=K'/\Y=Y'/\es=fs/\q<=1
 |some (.vec e z p cs),.vec e' z' p' ds=>e=e'/\z=z'/\(p'=0\/(p'=1/\q<=p))/\inPs H pi q cs ds
 |_,_=>False
def inOs(H:Nat->Option AObj)(pi:List Nat)(q:Nat):List Nat->List AObj->Prop
 |[],[]=>True
 |k::ks,o::os=>inO H pi q (H k) o/\inOs H pi q ks os
 |_,_=>False
mutual
def outV(po:List Nat)(q:Nat):AV->AV
 | .any=>.any
 | .t p x=>if scal x||p==2 then .t 2 x else if p==1 then .t q x else .any
 | .own k c=>.own (po.getD k 0) c
 | .ptr k off c=>.ptr (po.getD k 0) off c
 | .sub _ _ _ _=>.any
 | .pt p cs=>if p==2 then .pt 2 cs else if p==1 then .pt q cs else .any
 | .agg cs=>.agg (outVs po q cs)
 | .tup cs=>.tup (outVs po q cs)
 | .fn f cs=>.fn f (outVs po q cs)
def outVs(po:List Nat)(q:Nat):List AV->List AV
 |[]=>[]
 |a::r=>outV po q a::outVs po q r
end
def outO(po:List Nat)(q:Nat):AObj->AObj
 | .row e z p cs=>.row e z (if p==2 then 2 else q) cs
 | .box ty cs=>.box ty (outVs po q cs)
 | .map K Y es=>.map K Y es
 | .tmap K Y es=>.tmap K Y (if q=0 then es.map fun e=>(e.1,.any)else es)
 | .vec e z p cs=>.vec e z (if p==2 then 2 else q) (outVs po q cs)
def okO:AObj->Bool
 | .row _ _ p _=>p==1||p==2
 | .box _ _=>true
 | .map _ _ _=>true
 | .tmap _ _ _=>true
 | .vec _ _ p _=>p==1||p==2
def addL{α:Type}(f:Nat->Option α):List (Nat×α)->Nat->Option α
 |[]=>f
 |(k,x)::r=>upd (addL f r) k (some x)
def delL{α:Type}(f:Nat->Option α):List Nat->Nat->Option α
 |[]=>f
 |k::r=>upd (delL f r) k none
def zSL(i:Nat)(pi:List Nat)(args:List AV)(H H':List AObj):Nat->List Nat->Prop
 |_,[]=>True
 |j,k::r=>((i<=k/\k<i+1000000)\/(pi[j]? =some k/\ ∃(t c ty:Nat) (cs:List AV) (ty':Nat) (cs':List AV),args[t]? =some (AV.ptr j 0 c)/\H[j]? =some (AObj.box ty cs)/\cs.length=c/\H'[j]? =some (AObj.box ty' cs')/\cs'.length=c))/\zSL i pi args H H' (j+1) r
theorem zBM(po:List Nat)(q:Nat): ∀(cs:List AV),(outVs po q cs).length=cs.length/\ ∀(i:Nat) b,(outVs po q cs)[i]? =some b-> ∃a,cs[i]? =some a/\b=outV po q a
 |[]=>⟨rfl,fun i b hi=>by simp[outVs]at hi⟩
 |a::r=>by
  obtain⟨h1,h2⟩:=zBM po q r;refine⟨by simp[outVs,h1],fun i b hi=>?_⟩
  cases i with
  |zero=>simp[outVs]at hi;exact⟨a,rfl,hi.symm⟩
  |succ i=>exact h2 i b (by simpa[outVs]using hi)
theorem zBl{H:Nat->Option AObj}{pi:List Nat}{q:Nat}: ∀{aS bs:List AV},inPs H pi q aS bs->aS.length=bs.length/\ ∀(i:Nat) b,bs[i]? =some b-> ∃a,aS[i]? =some a/\inP H pi q a b
 |[],[],_=>⟨rfl,fun i b hi=>by simp at hi⟩
 |a::aS,b::bs,h=>by
  simp only[inPs]at h;obtain⟨h1,h2⟩:=zBl h.2;refine⟨by simp[h1],fun i c hi=>?_⟩
  cases i with
  |zero=>simp at hi;subst hi;exact⟨a,rfl,h.1⟩
  |succ i=>exact h2 i c (by simpa using hi)
 |[],_::_,h=>by simp[inPs]at h
 |_::_,[],h=>by simp[inPs]at h
theorem zBg{H:Nat->Option AObj}{pi:List Nat}{q:Nat}: ∀{ks:List Nat} {os:List AObj},inOs H pi q ks os->ks.length=os.length/\ ∀(i:Nat) o,os[i]? =some o-> ∃k,ks[i]? =some k/\inO H pi q (H k) o
 |[],[],_=>⟨rfl,fun i b hi=>by simp at hi⟩
 |a::aS,b::bs,h=>by
  obtain⟨h1,h2⟩:=zBg h.2;refine⟨by simp[h1],fun i c hi=>?_⟩
  cases i with
  |zero=>simp at hi;subst hi;exact⟨a,rfl,h.1⟩
  |succ i=>exact h2 i c (by simpa using hi)
 |[],_::_,h=>h.elim
 |_::_,[],h=>h.elim
def ndL:List Nat->Prop
 |[]=>True
 |a::r=>a∉r/\ndL r
theorem zGP: ∀{l:List Nat},ndL l-> ∀{i j k:Nat},l[i]? =some k->l[j]? =some k->i=j
 |[],_,i,j,k,h,_=>by simp at h
 |a::r,hn,i,j,k,hi,hj=>by
  cases i with
  |zero=>cases j with
   |zero=>rfl
   |succ j=>
    simp at hi hj;subst hi;exact absurd (Qc hj) hn.1
  |succ i=>cases j with
   |zero=>
    simp at hi hj;subst hj;exact absurd (Qc hi) hn.1
   |succ j=>simp at hi hj;rw[zGP hn.2 hi hj]
def obI(ob:Nat->Option (Value×Nat))(pi:List Nat)(k:Nat):Option (Value×Nat):=(pi[k]?).bind ob
section
variable{w0 w:World}{V S0 U:Nat->Prop}{Hc:Nat->Option AObj}{ob:Nat->Option (Value×Nat)}{pi:List Nat}{q:Nat}{H:List AObj}
theorem zC3{b:Nat}(h:OB (obI ob pi) b): ∃(k id:Nat) (u:Value) (n:Nat),pi[k]? =some id/\ob id=some (u,n)/\blk u=some b:=by
 obtain⟨k,u,n,e1,e2⟩:=h;unfold obI at e1
 cases hq:pi[k]? with
 |none=>rw[hq]at e1;cases e1
 |some id=>rw[hq]at e1;exact⟨k,id,u,n,hq,e1,e2⟩
def V1(w0:World)(V:Nat->Prop)(ob:Nat->Option (Value×Nat))(pi:List Nat)(q b:Nat):Prop:=lvl w0.heap.size V q b/\(¬OB ob b\/OB (obI ob pi) b)
theorem zF2{p p' b o:Nat}{u:Value}(hp:p'=0\/(p'=1/\q<=p))(h:zFf w0.heap.size V ob w p b o=some u):zFf w.heap.size (V1 w0 V ob pi q) (obI ob pi) w p' b o=some u:=by
 obtain⟨h1,h2,h3⟩:=zZ.1 h;refine zZ.2 ⟨fun hb=>by obtain⟨k,id,u,n,-,e1,e2⟩:=zC3 hb;exact h1 ⟨id,u,n,e1,e2⟩,?_,h3⟩;rcases hp with rfl|⟨rfl,hq⟩
 ·exact .inr (.inl rfl)
 ·exact .inr (.inr ⟨rfl,zBc h2 hq,.inl h1⟩)
theorem VR.in_(h:MR w0 V S0 U Hc ob w)(hn:pi.length=H.length){v:Value}{a:AV}(hv:VR (zV w0.heap.size V ob U w) v a): ∀(b:AV),inP Hc pi q a b->VR (zV w.heap.size (V1 w0 V ob pi q) (obI ob pi) (fun k=>k<H.length) w) v b:=by
 induction hv with
 |any v=>
  intro b hw
  cases b<;>simp only[inP]at hw;exact .any v
 |t v p x hr=>
  intro b hw
  cases b<;>simp only[inP]at hw
  ·exact .any v
  ·rename_i p' y;obtain⟨rfl,hq⟩:=hw;rcases hq with hq|hq
   ·exact .t v p' x (hr.scal hq)
   ·exact .t v p' x (hr.mono (fun b o u hu=>zF2 hq hu))
 |own v id c h1 hU hh=>
  intro b hw
  cases b<;>simp only[inP]at hw
  ·exact .any v
  ·rename_i p' y;obtain⟨rfl,hni,hw⟩:=hw;split at hw
   ·rename_i e z p cs hH;obtain⟨rfl,rfl⟩:=hw;obtain⟨-,u,e3,-⟩:=h.obj id _ hH;have:=(hh u _ e3).2 rfl;subst this;refine .t _ 0 _ ((h.tree hH e3).mono (fun b o x hx=>?_));obtain⟨g1,g2,g3⟩:=zZ.1 hx;refine zZ.2 ⟨fun hb=>?_,.inr (.inl rfl),g3⟩;obtain⟨k,id',u',n',e4,e5,e6⟩:=zC3 hb;have hne:id'≠id:=fun e=>hni (e▸Qc e4)
    exact g1 ⟨id',u',n',by rw[zu _ _ hne];exact e5,e6⟩
   ·exact hw.elim
  ·rename_i k c';obtain⟨hm,rfl⟩:=hw;have hlt:k<H.length:=by rw[←hn];exact(Qq.1 hm).1
   refine .own v k c h1 hlt (fun u n hu=>?_);have hu:obI ob pi k=some (u,n):=hu;unfold obI at hu;rw[hm]at hu;exact hh u n hu
 |ptr v id off c h1 hU hh=>
  intro b hw
  cases b<;>simp only[inP]at hw
  ·exact .any v
  ·rename_i k off' c';obtain⟨hm,rfl,rfl⟩:=hw;have hlt:k<H.length:=by rw[←hn];exact(Qq.1 hm).1
   refine .ptr v k off c h1 hlt (fun u n hu=>?_);have hu:obI ob pi k=some (u,n):=hu;unfold obI at hu;rw[hm]at hu;exact hh u n hu
  ·rename_i p' ds;obtain⟨rfl,hni,hw⟩:=hw;split at hw
   ·rename_i ty cs hH;obtain⟨rfl,hp⟩:=hw;obtain⟨-,u,e3,bb,vs,rfl,hg,hvr⟩:=h.obj id _ hH;obtain⟨b,e4,rfl⟩:=(hh _ _ e3).2 rfl;obtain rfl:bb=b:=by simpa[blk]using e4
    cases hvr with
    |agg vs cs hvn hv1 hvr=>
     refine .pt 0 bb off ds (fun i=>vs.getD (off+i) undef) (fun i d hi=>?_) (fun i d hi=>?_)
     ·obtain⟨a,ha,-⟩:=zI0 hp i d hi;rw[List.getElem?_drop]at ha;have hlt:off+i<vs.size:=by rw[hvn];exact(Qq.1 ha).1
      refine zZ.2 ⟨fun hb=>?_,.inr (.inl rfl),by simp[World.cell?,hg,hlt,Array.getD]⟩;obtain⟨k,id',u',n',g4,g5,g6⟩:=zC3 hb;have hne:id≠id':=fun e=>hni (e▸Qc g4)
      exact h.sep id id' _ u' _ n' bb hne e3 g5 rfl g6
     ·obtain⟨a,ha,hpd⟩:=zI0 hp i d hi;rw[List.getElem?_drop]at ha;have hlt:off+i<vs.size:=by rw[hvn];exact(Qq.1 ha).1
      have hone:(vs.getD (off+i) undef).oneCell'=true:=by
       simp only[Array.getD,hlt,dif_pos];exact hv1 _ (Array.getElem_mem hlt)
      have hr0:=hvr (off+i) a ha;unfold pf1 at hpd;split at hpd
      ·exact .any _ hone
      ·subst hpd;exact hr0.rep.mono (fun b o u hu=>zF2 (.inl rfl) hu)
      ·exact hpd.elim
   ·exact hw.elim
 |sub v id off l c h1 hU hh=>
  intro b hw
  cases b<;>simp only[inP]at hw;exact .any v
 |pt p b o cs vs hc hr=>
  intro b' hw
  cases b'<;>simp only[inP]at hw
  ·exact .any _
  ·rename_i p' ds;obtain⟨rfl,hq⟩:=hw;exact .pt p' b o cs vs (fun i c hi=>zF2 hq (hc i c hi)) (fun i c hi=>(hr i c hi).mono (fun b o u hu=>zF2 hq hu))
 |agg vs cs hn' h1 hr ih=>
  intro b hw
  cases b<;>simp only[inP]at hw
  ·exact .any _
  ·rename_i ds;obtain⟨e1,e2⟩:=zBl hw;exact .agg vs ds (by omega) h1 (fun i c hi=>by obtain⟨a,ha,hab⟩:=e2 i c hi;exact ih i a ha c hab)
 |tup vs cs hn' hr ih=>
  intro b hw
  cases b<;>simp only[inP]at hw
  ·exact .any _
 |fn f vs cs hn' hr ih=>
  intro b hw
  cases b<;>simp only[inP]at hw
  ·exact .any _
  ·rename_i g ds;obtain⟨rfl,hw⟩:=hw;obtain⟨e1,e2⟩:=zBl hw;exact .fn f vs ds (by omega) (fun i c hi=>by obtain⟨a,ha,hab⟩:=e2 i c hi;exact ih i a ha c hab)
theorem MR.in_(h:MR w0 V S0 U Hc ob w)(ho:inOs Hc pi q pi H)(hnd:ndL pi):MR w (V1 w0 V ob pi q) (OB (obI ob pi)) (fun k=>k<H.length) (fun k=>H[k]?) (obI ob pi) w:=by
 obtain⟨hn,hget⟩:=zBg ho;have key: ∀k o,H[k]? =some o-> ∃u,obI ob pi k=some (u,o.cnt)/\OR (zV w.heap.size (V1 w0 V ob pi q) (obI ob pi) (fun k=>k<H.length) w) w u o:=fun k o hk=>by
  obtain⟨id,hid,hio⟩:=hget k o hk;unfold inO at hio;split at hio
  ·rename_i e z p cs e' z' p' ds hH;obtain⟨rfl,rfl,rfl,hp⟩:=hio;obtain⟨-,u,e3,hz,hlv,n,vs,how,hlen,hr⟩:=h.obj id _ hH;have hob:obI ob pi k=some (u,cs.length):=by unfold obI;rw[hid];exact e3
   refine⟨u,hob,hz,fun b hb=>?_,n,vs,how,hlen,fun i c x hi hx=>(hr i c x hi hx).mono (fun b o u hu=>zF2 hp hu)⟩;rcases hp with rfl|⟨rfl,hq⟩
   ·exact .inr (.inl rfl)
   ·exact .inr (.inr ⟨rfl,zBc (hlv b hb) hq,.inr ⟨k,u,_,hob,hb⟩⟩)
  ·rename_i ty cs ty' ds hH;obtain⟨rfl,hw⟩:=hio;obtain⟨-,u,e3,b,vs,rfl,hg,hv⟩:=h.obj id _ hH;have hlen:=(zBl hw).1;refine⟨_,?_,b,vs,rfl,hg,VR.in_ h hn hv (.agg ds) (by simpa only[inP]using hw)⟩;unfold obI;rw[hid];show ob id=_;rw[e3];simp[AObj.cnt,hlen]
  ·rename_i K Y es K' Y' fs hH;obtain⟨rfl,rfl,rfl⟩:=hio;obtain⟨-,u,e3,r,clock,xs,rfl,hg,hsz,hr⟩:=h.obj id _ hH;exact⟨_,by unfold obI;rw[hid];exact e3,r,clock,xs,rfl,hg,hsz,hr⟩
  ·rename_i K Y es K' Y' fs hH;obtain⟨rfl,rfl,rfl,hq1⟩:=hio;obtain⟨-,u,e3,r,clock,xs,rfl,hg,hsz,hr⟩:=h.obj id _ hH;exact⟨_,by unfold obI;rw[hid];exact e3,r,clock,xs,rfl,hg,hsz,fun i k x e e1 e2=>⟨(hr i k x e e1 e2).1,(hr i k x e e1 e2).2.mono (fun b o u hu=>zF2 (p':=1) (.inr ⟨rfl,hq1⟩) hu)⟩⟩
  ·rename_i e z p cs e' z' p' ds hH;obtain⟨rfl,rfl,hp,hw⟩:=hio;obtain⟨-,u,e3,hz,hlv,n,vs,how,hlen,hone,hr⟩:=h.obj id _ hH;obtain⟨g1,g2⟩:=zBl hw;have hob:obI ob pi k=some (u,ds.length):=by unfold obI;rw[hid];rw[←g1];exact e3
   refine⟨u,hob,hz,fun b hb=>?_,n,vs,how,by omega,hone,fun j c x hj hx=>?_⟩
   ·rcases hp with rfl|⟨rfl,hq⟩
    ·exact .inr (.inl rfl)
    ·exact .inr (.inr ⟨rfl,zBc (hlv b hb) hq,.inr ⟨k,u,_,hob,hb⟩⟩)
   ·obtain⟨a,ha,hac⟩:=g2 j c hj;exact VR.in_ h hn (hr j a x ha hx) c hac
  ·exact hio.elim
 refine⟨fun k u n e=>?_,fun k o hk=>?_,fun k k' u u' n n' b hne e1 e2 hb=>?_,fun k u n b e hb _=>⟨k,u,n,e,hb⟩,Onl.refl _ _,h.glw fun k ⟨id,u,n,e1,e2⟩=>by
  unfold obI at e1
  cases hq:pi[id]? with
  |none=>rw[hq]at e1;cases e1
  |some id'=>rw[hq]at e1;exact⟨id',u,n,e1,e2⟩⟩
 ·have hlt:k<H.length:=by
   unfold obI at e
   cases hq:pi[k]? with
   |none=>rw[hq]at e;cases e
   |some id=>rw[←hn];exact(Qq.1 hq).1
  obtain⟨u',e',-⟩:=key k H[k] (by simp);rw[e]at e';simp only[Qx,Qk]at e';exact⟨H[k],by simp,e'.2⟩
 ·obtain⟨u,e,hor⟩:=key k o hk;exact⟨(Qq.1 hk).1,u,e,hor⟩
 ·unfold obI at e1 e2
  cases hq:pi[k]? with
  |none=>rw[hq]at e1;cases e1
  |some id=>
   cases hq':pi[k']? with
   |none=>rw[hq']at e2;cases e2
   |some id'=>
    rw[hq]at e1;rw[hq']at e2;refine h.sep id id' u u' n n' b (fun e=>hne ?_) e1 e2 hb;subst e;exact zGP hnd hq hq'
end
def idx:List Nat->Nat->Option Nat
 |[],_=>none
 |a::r,k=>if k=a then some 0 else(idx r k).map (· +1)
theorem zDy: ∀{l:List Nat} {k j:Nat},idx l k=some j->l[j]? =some k
 |[],k,j,h=>by simp[idx]at h
 |a::r,k,j,h=>by
  unfold idx at h;by_cases e:k=a
  ·rw[if_pos e]at h;injection h with h;subst h;simp[e]
  ·rw[if_neg e]at h
   cases hq:idx r k with
   |none=>rw[hq]at h;cases h
   |some j'=>rw[hq]at h;simp only[Qg,Qx]at h;subst h;simpa using zDy hq
theorem zJ5: ∀{l:List Nat} {k j:Nat},ndL l->l[j]? =some k->idx l k=some j
 |[],k,j,_,h=>by simp at h
 |a::r,k,j,hn,h=>by
  unfold idx
  cases j with
  |zero=>simp at h;rw[if_pos h.symm]
  |succ j=>
   simp at h;have hne:k≠a:=fun e=>hn.1 (e▸Qc h)
   rw[if_neg hne,zJ5 hn.2 h];rfl
theorem addL_zip{α:Type}(f:Nat->Option α): ∀(po:List Nat) (xs:List α) (k:Nat),po.length=xs.length->addL f (po.zip xs) k=match idx po k with|some j=>xs[j]? |none=>f k
 |[],[],k,_=>rfl
 |[],_::_,_,h=>by simp at h
 |_::_,[],_,h=>by simp at h
 |a::r,x::xs,k,h=>by
  simp only[List.zip_cons_cons,addL,zKW,idx];by_cases e:k=a
  ·simp[e]
  ·rw[if_neg e,if_neg e,addL_zip f r xs k (by simpa using h)]
   cases idx r k with
   |none=>rfl
   |some j=>simp
theorem zF9{α:Type}(f:Nat->Option α): ∀(pi:List Nat) (k:Nat),delL f pi k=if k∈pi then none else f k
 |[],k=>by simp[delL]
 |a::r,k=>by
  simp only[delL,zKW,zF9 f r k,List.mem_cons];by_cases e:k=a<;>simp[e]
def ob2(ob ob1:Nat->Option (Value×Nat))(pi po:List Nat)(k:Nat):Option (Value×Nat):=match idx po k with
 |some j=>ob1 j
 |none=>if k∈pi then none else ob k
def zBn(Hc:Nat->Option AObj)(H':List AObj)(pi po:List Nat)(q:Nat):Nat->Option AObj:=addL (delL Hc pi) (po.zip (H'.map (outO po q)))
theorem zGi{Hc:Nat->Option AObj}{H':List AObj}{pi po:List Nat}{q:Nat}(hl:po.length=H'.length)(k:Nat):zBn Hc H' pi po q k=match idx po k with|some j=>(H'[j]?).map (outO po q)|none=>if k∈pi then none else Hc k:=by
 unfold zBn;rw[addL_zip _ po _ k (by simpa using hl),zF9]
 cases idx po k<;>simp
structure Ret(w0 w w':World)(V S0 U:Nat->Prop)(Hc:Nat->Option AObj)(ob ob1:Nat->Option (Value×Nat))(pi po:List Nat)(q i:Nat)(H':List AObj):Prop where
 cal:MR w0 V S0 U Hc ob w
 ret:MR w (V1 w0 V ob pi q) (OB (obI ob pi)) (fun k=>k<H'.length) (fun k=>H'[k]?) ob1 w'
 len:po.length=H'.length
 nd:ndL po
 new: ∀k,i<=k->k<i+1000000-> ¬U k
 piU: ∀k,k∈pi->U k
 /-- a number that comes back is new,or that of a variable that is where it was -/
 po: ∀(j:Nat) k,po[j]? =some k->(i<=k/\k<i+1000000)\/(k∈pi/\ ∃u n,ob1 j=some (u,n)/\ob k=some (u,n))
 ok: ∀(j:Nat) o,H'[j]? =some o->okO o=true
section
variable{w0 w w':World}{V S0 U:Nat->Prop}{Hc:Nat->Option AObj}{ob ob1:Nat->Option (Value×Nat)}{pi po:List Nat}{q i:Nat}{H':List AObj}
theorem zBP{k:Nat}{u:Value}{n:Nat}(h:ob2 ob ob1 pi po k=some (u,n)):(∃j,po[j]? =some k/\ob1 j=some (u,n))\/(idx po k=none/\k∉pi/\ob k=some (u,n)):=by
 unfold ob2 at h;split at h
 ·rename_i j hj;exact .inl ⟨j,zDy hj,h⟩
 ·rename_i hj;by_cases e:k∈pi
  ·rw[if_pos e]at h;cases h
  ·rw[if_neg e]at h;exact .inr ⟨hj,e,h⟩
theorem Ret.blk(h:Ret w0 w w' V S0 U Hc ob ob1 pi po q i H'){j b:Nat}{u:Value}{n:Nat}(e:ob1 j=some (u,n))(hb:blk u=some b):w.heap.size<=b\/OB (obI ob pi) b:=by
 by_cases hlt:b<w.heap.size
 ·exact .inr (h.ret.new j u n b e hb hlt)
 ·exact .inl (by omega)
theorem zQv{b:Nat}(h:OB (obI ob pi) b):OB ob b:=by
 obtain⟨k,id,u,n,-,e1,e2⟩:=zC3 h;exact⟨id,u,n,e1,e2⟩
theorem Ret.mem(h:Ret w0 w w' V S0 U Hc ob ob1 pi po q i H'){p b o:Nat}{u:Value}(hu:zFf w0.heap.size V ob w p b o=some u):zFf w0.heap.size V (ob2 ob ob1 pi po) w' p b o=some u:=by
 obtain⟨h1,h2,h3⟩:=zZ.1 hu;have hlt:=World.block_lt_of_cell? w _ h3;have hlt:b<w.heap.size:=hlt;refine zZ.2 ⟨?_,h2,?_⟩
 ·rintro⟨k,u',n',e1,e2⟩;rcases zBP e1 with⟨j,-,e3⟩|⟨-,-,e3⟩
  ·rcases h.blk e3 e2 with g|g
   ·omega
   ·exact h1 (zQv g)
  ·exact h1 ⟨k,u',n',e3,e2⟩
 ·rw[World.cell?_of_block (h.ret.only.block b hlt (fun g=>h1 (zQv g)))];exact h3
theorem Ret.ext(h:Ret w0 w w' V S0 U Hc ob ob1 pi po q i H'):Ext (zV w0.heap.size V ob U w) (zV w0.heap.size V (ob2 ob ob1 pi po) (fun k=>U k\/(i<=k/\k<i+1000000)) w'):=by
 refine⟨fun p b o u hu=>h.mem hu,rfl,fun k hk=>.inl hk,fun k u' n' hU e=>?_⟩;rcases zBP e with⟨j,hj,e3⟩|⟨-,-,e3⟩
 ·rcases h.po j k hj with g|⟨-,u,n,g1,g2⟩
  ·exact absurd hU (h.new k g.1 g.2)
  ·rw[g1]at e3;simp only[Qx,Qk]at e3;obtain⟨rfl,rfl⟩:=e3;exact⟨u,n,g2,Qy _,fun _=>rfl⟩
 ·exact⟨u',n',e3,Qy _,fun _=>rfl⟩
theorem Ret.back(h:Ret w0 w w' V S0 U Hc ob ob1 pi po q i H'){p b o:Nat}{u:Value}(hp:p=1\/p=2)(hu:zFf w.heap.size (V1 w0 V ob pi q) ob1 w' p b o=some u):zFf w0.heap.size V (ob2 ob ob1 pi po) w' (if p==2 then 2 else q) b o=some u:=by
 obtain⟨h1,h2,h3⟩:=zZ.1 hu;have hs:=h.cal.only.size;have hlv:lvl w0.heap.size V (if p==2 then 2 else q) b/\(w.heap.size<=b\/ ¬OB ob b\/OB (obI ob pi) b):=by
  rcases h2 with g|g|⟨g,g'⟩
  ·exact⟨.inl (by omega),.inl g⟩
  ·omega
  ·subst g;exact⟨g'.1,.inr g'.2⟩
 refine zZ.2 ⟨?_,hlv.1,h3⟩;rintro⟨k,u',n',e1,e2⟩;rcases zBP e1 with⟨j,hj,e3⟩|⟨hnx,hnp,e3⟩
 ·exact h1 ⟨j,u',n',e3,e2⟩
 ·have hlt:=h.cal.lt e3 e2;rcases hlv.2 with g|g|g
  ·omega
  ·exact g ⟨k,u',n',e3,e2⟩
  ·obtain⟨k',id,u2,n2,g1,g2,g3⟩:=zC3 g;have hne:k≠id:=fun e=>hnp (e▸Qc g1)
   exact h.cal.sep k id u' u2 n' n2 b hne e3 g2 e2 g3
theorem Ret.poU(h:Ret w0 w w' V S0 U Hc ob ob1 pi po q i H'){j:Nat}(hj:j<H'.length):U (po.getD j 0)\/(i<=po.getD j 0/\po.getD j 0<i+1000000):=by
 have hlt:j<po.length:=by rw[h.len];exact hj
 have e:po[j]? =some (po.getD j 0):=by simp[hlt]
 rcases h.po j _ e with g|⟨g,-⟩
 ·exact .inr g
 ·exact .inl (h.piU _ g)
theorem Ret.at_(h:Ret w0 w w' V S0 U Hc ob ob1 pi po q i H'){j:Nat}(hj:j<H'.length):ob2 ob ob1 pi po (po.getD j 0)=ob1 j:=by
 have hlt:j<po.length:=by rw[h.len];exact hj
 have e:po[j]? =some (po.getD j 0):=by simp[hlt]
 unfold ob2;rw[zJ5 h.nd e]
theorem VR.out(h:Ret w0 w w' V S0 U Hc ob ob1 pi po q i H'){v:Value}{a:AV}(hv:VR (zV w.heap.size (V1 w0 V ob pi q) ob1 (fun k=>k<H'.length) w') v a):VR (zV w0.heap.size V (ob2 ob ob1 pi po) (fun k=>U k\/(i<=k/\k<i+1000000)) w') v (outV po q a):=by
 induction hv with
 |any v=>simp only[outV];exact .any v
 |t v p x hr=>
  simp only[outV];by_cases hs:scal x=true
  ·simp only[hs,Bool.true_or,if_true];exact .t v 2 x (hr.scal hs)
  ·have hs:scal x=false:=by simpa using hs
   simp only[hs,Bool.false_or];by_cases h2:p=2
   ·subst h2;exact .t v 2 x (hr.mono (fun b o u hu=>h.back (.inr rfl) hu))
   ·by_cases h1:p=1
    ·subst h1;exact .t v q x (hr.mono (fun b o u hu=>h.back (.inl rfl) hu))
    ·simp[h1,h2];exact .any v
 |own v k c h1 hU hh=>
  simp only[outV];refine .own v _ c h1 (h.poU hU) (fun u n hu=>?_);have hu:ob2 ob ob1 pi po (po.getD k 0)=some (u,n):=hu;rw[h.at_ hU]at hu;exact hh u n hu
 |ptr v k off c h1 hU hh=>
  simp only[outV];refine .ptr v _ off c h1 (h.poU hU) (fun u n hu=>?_);have hu:ob2 ob ob1 pi po (po.getD k 0)=some (u,n):=hu;rw[h.at_ hU]at hu;exact hh u n hu
 |sub v id off l c h1 hU hh=>
  simp only[outV];exact .any v
 |pt p b o cs vs hc hr=>
  simp only[outV];by_cases h2:p=2
  ·subst h2;exact .pt 2 b o cs vs (fun i c hi=>h.back (.inr rfl) (hc i c hi)) (fun i c hi=>(hr i c hi).mono (fun b o u hu=>h.back (.inr rfl) hu))
  ·by_cases h1:p=1
   ·subst h1;exact .pt q b o cs vs (fun i c hi=>h.back (.inl rfl) (hc i c hi)) (fun i c hi=>(hr i c hi).mono (fun b o u hu=>h.back (.inl rfl) hu))
   ·simp[h1,h2];exact .any _
 |agg vs cs hn h1 hr ih=>
  simp only[outV];obtain⟨e1,e2⟩:=zBM po q cs;exact .agg vs _ (by omega) h1 (fun i c hi=>by obtain⟨a,ha,rfl⟩:=e2 i c hi;exact ih i a ha)
 |tup vs cs hn hr ih=>
  simp only[outV];obtain⟨e1,e2⟩:=zBM po q cs;exact .tup vs _ (by omega) (fun i c hi=>by obtain⟨a,ha,rfl⟩:=e2 i c hi;exact ih i a ha)
 |fn f vs cs hn hr ih=>
  simp only[outV];obtain⟨e1,e2⟩:=zBM po q cs;exact .fn f vs _ (by omega) (fun i c hi=>by obtain⟨a,ha,rfl⟩:=e2 i c hi;exact ih i a ha)
theorem zKZ(o:AObj):(outO po q o).cnt=o.cnt:=by
 cases o with
 |row e z p cs=>rfl
 |box ty cs=>simp[outO,AObj.cnt,(zBM po q cs).1]
 |map K Y es=>rfl
 |tmap K Y es=>rfl
 |vec e z p cs=>simp[outO,AObj.cnt,(zBM po q cs).1]
theorem Ret.mr(h:Ret w0 w w' V S0 U Hc ob ob1 pi po q i H'):MR w0 V S0 (fun k=>U k\/(i<=k/\k<i+1000000)) (zBn Hc H' pi po q) (ob2 ob ob1 pi po) w':=by
 have hs:=h.cal.only.size;have hx:=h.ext;refine⟨fun k u n e=>?_,fun k o ho=>?_,fun k k' u u' n n' b hne e1 e2 hb hb'=>?_,fun k u n b e hb hlt=>?_,?_,h.cal.gl⟩
 ·rw[zGi h.len];rcases zBP e with⟨j,hj,e3⟩|⟨hnx,hnp,e3⟩
  ·rw[zJ5 h.nd hj];obtain⟨o,e4,e5⟩:=h.ret.live j u n e3;have e4:H'[j]? =some o:=e4;exact⟨outO po q o,by simp[e4],by rw[zKZ];exact e5⟩
  ·rw[hnx];simp only[hnp,if_false];exact h.cal.live k u n e3
 ·rw[zGi h.len]at ho;split at ho
  ·rename_i j hj;have hjk:=zDy hj
   cases hq:H'[j]? with
   |none=>rw[hq]at ho;cases ho
   |some o1=>
    rw[hq]at ho;simp only[Qg,Qx]at ho;subst ho;obtain⟨hlt,u,e3,hor⟩:=h.ret.obj j o1 hq;have hpo:po.getD j 0=k:=by simp[hjk]
    have hob:ob2 ob ob1 pi po k=some (u,(outO po q o1).cnt):=by
     rw[←hpo,h.at_ hlt,zKZ];exact e3
    refine⟨by rw[←hpo];exact h.poU hlt,u,hob,?_⟩;have hok:=h.ok j o1 hq
    cases o1 with
    |row e z p cs=>
     obtain⟨hz,hlv,n,vs,how,hlen,hr⟩:=hor;have hp:p=1\/p=2:=by simpa[okO]using hok
     refine⟨hz,fun b hb=>?_,n,vs,how,hlen,fun i c x hi hxx=>(hr i c x hi hxx).mono (fun b o u hu=>h.back hp hu)⟩;rcases hlv b hb with g|g|⟨g,g'⟩
     ·exact .inl (by omega)
     ·omega
     ·subst g;exact g'.1
    |box ty cs=>
     obtain⟨b,vs,rfl,hg,hv⟩:=hor;have:=VR.out h hv;simp only[outV]at this;exact⟨b,vs,rfl,hg,this⟩
    |map K Y es=>
     obtain⟨r,clock,xs,rfl,hg,hsz,hr⟩:=hor;exact⟨r,clock,xs,rfl,hg,hsz,hr⟩
    |tmap K Y es=>
     obtain⟨r,clock,xs,rfl,hg,hsz,hr⟩:=hor;by_cases hq0:q=0
     ·refine⟨r,clock,xs,rfl,hg,by simp[hq0,hsz],fun j k x e e1 e2=>?_⟩;rw[if_pos hq0,Qi]at e1
      cases e3:es[j]? with
      |none=>rw[e3]at e1;cases e1
      |some y=>
       rw[e3]at e1;simp only[Qg,Qx,Qk]at e1;obtain⟨rfl,rfl⟩:=e1;obtain⟨g1,g2⟩:=hr j y.1 y.2 e e3 e2;exact⟨g1,.any _ g2.one⟩
     ·refine⟨r,clock,xs,rfl,hg,by simp[hq0,hsz],fun j k x e e1 e2=>?_⟩;rw[if_neg hq0]at e1;obtain⟨g1,g2⟩:=hr j k x e e1 e2;exact⟨g1,g2.mono (fun b o u hu=>zAm (show 1<=q by omega) b o u (h.back (.inl rfl) hu))⟩
    |vec e z p cs=>
     obtain⟨hz,hlv,n,vs,how,hlen,hone,hr⟩:=hor;obtain⟨e1,e2⟩:=zBM po q cs;have hp:p=1\/p=2:=by simpa[okO]using hok
     refine⟨hz,fun b hb=>?_,n,vs,how,by omega,hone,fun i c x hi hxx=>?_⟩
     ·rcases hlv b hb with g|g|⟨g,g'⟩
      ·exact .inl (by omega)
      ·omega
      ·subst g;exact g'.1
     ·obtain⟨a,ha,rfl⟩:=e2 i c hi;exact VR.out h (hr i a x ha hxx)
  ·rename_i hnx;by_cases hnp:k∈pi
   ·rw[if_pos hnp]at ho;cases ho
   ·rw[if_neg hnp]at ho;obtain⟨hU,u,e3,hor⟩:=h.cal.obj k o ho;have hob:ob2 ob ob1 pi po k=some (u,o.cnt):=by unfold ob2;rw[hnx];simp only[hnp,if_false];exact e3
    refine⟨.inl hU,u,hob,hor.ext hx (fun b hb=>h.ret.only.block b (h.cal.lt e3 hb) (fun g=>?_))⟩;obtain⟨k',id,u2,n2,g1,g2,g3⟩:=zC3 g;have hne:k≠id:=fun e=>hnp (e▸Qc g1)
    exact h.cal.sep k id u u2 _ n2 b hne e3 g2 hb g3
 ·rcases zBP e1 with⟨j,hj,e3⟩|⟨hnx,hnp,e3⟩
  ·rcases zBP e2 with⟨j',hj',e3'⟩|⟨hnx',hnp',e3'⟩
   ·refine h.ret.sep j j' u u' n n' b (fun e=>hne ?_) e3 e3' hb hb';subst e;rw[hj]at hj';injection hj'
   ·have hlt:=h.cal.lt e3' hb';rcases h.blk e3 hb with g|g
    ·omega
    ·obtain⟨k2,id,u2,n2,g1,g2,g3⟩:=zC3 g;exact h.cal.sep k' id u' u2 n' n2 b (fun e=>hnp' (e▸Qc g1)) e3' g2 hb' g3
  ·rcases zBP e2 with⟨j',hj',e3'⟩|⟨hnx',hnp',e3'⟩
   ·have hlt:=h.cal.lt e3 hb;rcases h.blk e3' hb' with g|g
    ·omega
    ·obtain⟨k2,id,u2,n2,g1,g2,g3⟩:=zC3 g;exact h.cal.sep k id u u2 n n2 b (fun e=>hnp (e▸Qc g1)) e3 g2 hb g3
   ·exact h.cal.sep k k' u u' n n' b hne e3 e3' hb hb'
 ·rcases zBP e with⟨j,hj,e3⟩|⟨hnx,hnp,e3⟩
  ·rcases h.blk e3 hb with g|g
   ·omega
   ·obtain⟨k2,id,u2,n2,g1,g2,g3⟩:=zC3 g;exact h.cal.new id u2 n2 b g2 g3 hlt
  ·exact h.cal.new k u n b e3 hb hlt
 ·have h1:=h.cal.only;have h2:=h.ret.only;exact⟨h2.os.trans h1.os,h2.tape.trans h1.tape,h2.output.trans h1.output,Nat.le_trans h1.size h2.size,fun k hk hn=>(h2.block k (by omega) (fun g=>by
   obtain⟨k2,id,u2,n2,g1,g2,g3⟩:=zC3 g;exact hn (h.cal.new id u2 n2 k g2 g3 hk))).trans (h1.block k hk hn)⟩
end
def zBy(P:Program)(f:FuncId):Bool:=match P.funcs[f]? with
 | some fn=>!(fn.name == "runtime.NumGoroutine") && fn.body.isSome
 |none=>false
theorem zJy{P:Program}{f:FuncId}(h:zBy P f=true)(vs:Array Value)(w:World):(callFunc f vs).run P w= .ok (.enter f vs) w:=by
 unfold zBy at h
 cases hq:P.funcs[f]? with
 |none=>rw[hq]at h;cases h
 |some fn=>
  rw[hq]at h;simp only[Qz,Bool.not_eq_true']at h;unfold callFunc;rw[Sem.run_bind];show Sem.run P (match P.funcs[f]? with|none=>_|some fn=>_) w=_;rw[hq];have h2:fn.body.isNone=false:=by
   cases hb:fn.body with
   |none=>rw[hb]at h;simp at h
   |some c=>rfl
  simp only[h.1,h2];rfl
def callS(σ:ASt)(dst:Option Tmp)(pi po:List Nat)(q:Nat)(res:AV)(H':List AObj):ASt:={ σ with env:=match dst with|some d=>upd σ.env d (outV po q res)|none=>σ.env,heap:=zBn σ.heap H' pi po q }
theorem zGk{i:Nat}{pi:List Nat}{args:List AV}{H H':List AObj}: ∀{po:List Nat} {j0:Nat},zSL i pi args H H' j0 po-> ∀(j:Nat) k,po[j]? =some k->(i<=k/\k<i+1000000)\/(pi[j0+j]? =some k/\ ∃(t c ty:Nat) (cs:List AV) (ty':Nat) (cs':List AV),args[t]? =some (AV.ptr (j0+j) 0 c)/\H[j0+j]? =some (AObj.box ty cs)/\cs.length=c/\H'[j0+j]? =some (AObj.box ty' cs')/\cs'.length=c)
 |[],j0,_,j,k,h=>by simp at h
 |a::r,j0,hp,j,k,h=>by
  cases j with
  |zero=>simp at h;subst h;exact hp.1
  |succ j=>
   have:=zGk hp.2 j k (by simpa using h);rw[show j0+(j+1)=j0+1+j by omega];exact this
theorem zND{P:Program}{ops:Array Oper}{i:Nat}{o:Oper}{σ:ASt}{cl:Call}{fo:Operand}{f:FuncId}{caps:List AV}{args:List AV}{H H':List AObj}{res:AV}(pi po:List Nat)(q:Nat)
  (hg:gd ops σ o=some true) (hop:o.op= .call cl) (hc:cl.callee= .value fo) (hfo:σ.eval fo= .fn f caps) (hb:zBy P f=true) (hspec:FnS P f args H res H') (hd:zAt σ o=true)
  (hargs:inPs σ.heap pi q (cl.args.toList.map σ.eval++caps) args) (hobj:inOs σ.heap pi q pi H) (hndi:ndL pi) (hlen:po.length=H'.length) (hndo:ndL po) (hpo:zSL i pi args H H' 0 po) (hok:H'.all okO=true):
  OpS P ops i o σ (callS σ o.dst pi po q res H'):=by
 intro w0 V S0 gv U a w hR hnew K Q hK;obtain⟨ob,m1,m2,m3,m4,m5⟩:=hR;have hw:Region.wanted o (yielded ops a.tmps)=true:=zA0 hg m2 m4;rw[if_pos hw];have hfv:=VR.eval m1.glE m2 fo;rw[hfo]at hfv;obtain⟨cvs,hcv,hcn,hcr⟩: ∃cvs:Array Value,a.eval fo= .func (.func f) #[] cvs/\cvs.size=caps.length/\ ∀(j:Nat) c,caps[j]? =some c->VR (zV w0.heap.size V ob U w) (cvs.getD j undef) c:=by
  generalize a.eval fo=v at hfv
  cases hfv with
  |fn f vs cs hn hr=>exact⟨vs,rfl,hn,hr⟩
 have hmi:=m1.in_ hobj hndi;have hpl:=(zBg hobj).1;obtain⟨hal,hag⟩:=zBl hargs;obtain⟨vs,hvs⟩: ∃vs,vs=cl.args.map a.eval++cvs:=⟨_,rfl⟩;have hvn:vs.size=args.length:=by rw[hvs,←hal];simp[hcn]
 have hvv: ∀(j:Nat) c,args[j]? =some c->VR (zV w.heap.size (V1 w0 V ob pi q) (obI ob pi) (fun k=>k<H.length) w) (vs.getD j undef) c:=fun j c hj=>by
  obtain⟨x,hx,hxc⟩:=hag j c hj;refine VR.in_ m1 hpl ?_ c hxc;rw[hvs];by_cases hlt:j<cl.args.size
  ·rw[Qw (by simpa using hlt),Qi]at hx;have e1:cl.args.toList[j]? =some cl.args[j]:=by simp[hlt]
   rw[e1]at hx;simp only[Qg,Qx]at hx;subst hx;have e2:(cl.args.map a.eval++cvs).getD j undef=a.eval cl.args[j]:=by
    have h3:j<(cl.args.map a.eval++cvs).size:=by simp;omega
    simp only[Array.getD,h3,dif_pos];show(cl.args.map a.eval++cvs)[j]=_;rw[Array.getElem_append_left (by simpa using hlt)];simp
   rw[e2];exact VR.eval m1.glE m2 _
  ·rw[Qa (by simp;omega)]at hx;have hx:caps[j-cl.args.size]? =some x:=by simpa using hx
   have hlt2:=(Qq.1 hx).1;have e2:(cl.args.map a.eval++cvs).getD j undef=cvs.getD (j-cl.args.size) undef:=by
    have h3:j<(cl.args.map a.eval++cvs).size:=by simp;omega
    have h4:j-cl.args.size<cvs.size:=by omega
    simp only[Array.getD,h3,h4,dif_pos];show(cl.args.map a.eval++cvs)[j]=cvs[j-cl.args.size];rw[Array.getElem_append_right (by simp;omega)];simp
   rw[e2];exact hcr _ x hx
 have hcall:=hspec w (V1 w0 V ob pi q) (obI ob pi) vs hmi hvn hvv;unfold Oper.wp execOp;simp only[hop,resolve,hc,invoke,Sem.run_bind];rw[hcv];simp only[Deferred.ofValue,Sem.run_pure,Result.andThen_ok,Array.empty_append];rw[←hvs,zJy hb];show Calls P f vs w _;refine hcall.mono ?_;rintro e w' ⟨v,ob1,rfl,hm2,hv2,hgh2⟩;have hret:Ret w0 w w' V S0 U σ.heap ob ob1 pi po q i H':=by
  refine⟨m1,hm2,hlen,hndo,hnew,fun k hk=>?_,fun j k hj=>?_,fun j o' ho'=>List.all_eq_true.1 hok o' (Qc ho')⟩
  ·obtain⟨j,hj,hjk⟩:=Qb hk;obtain⟨k',e1,e2⟩:=(zBg hobj).2 j (H[j]'(by omega)) (by simp);have hkk:k'=k:=by
    rw[Qj hj,hjk]at e1;injection e1 with e1;exact e1.symm
   subst hkk
   cases hH:σ.heap k' with
   |none=>rw[hH]at e2;exact e2.elim
   |some ob0=>exact(m1.obj k' ob0 hH).1
  ·have:=zGk hpo j k hj;rw[Nat.zero_add]at this;rcases this with g|⟨g,t,c,ty,cs,ty',cs',h1,h2,h3,h4,h5⟩
   ·exact .inl g
   ·refine .inr ⟨Qc g,?_⟩;obtain⟨-,u,e1,b,bs,rfl,-,-⟩:=hmi.obj j _ h2;obtain⟨-,u',e2,b',bs',rfl,-,-⟩:=hm2.obj j _ h4;have e1':ob k=some (.pointer (some ⟨b,0,none⟩),cs.length):=by
     have:obI ob pi j=ob k:=by unfold obI;rw[g];rfl
     rw[←this];exact e1
    have q1:=hvv t _ h1;have q2:VR (zV w.heap.size (V1 w0 V ob pi q) ob1 (fun k=>k<H'.length) w') (vs.getD t undef) (.ptr j 0 c):=hgh2 t (.ptr j 0 c) (by simp[ghA,h1,ghA1]);have r1: ∃b0,blk (.pointer (some ⟨b,0,none⟩))=some b0/\vs.getD t undef= .pointer (some ⟨b0,0,none⟩):=by
     generalize vs.getD t undef=x at q1
     cases q1 with
     |ptr v id off c h1 hU hh=>exact(hh _ _ e1).2 (by simp[AObj.cnt,h3])
    have r2: ∃b0,blk (.pointer (some ⟨b',0,none⟩))=some b0/\vs.getD t undef= .pointer (some ⟨b0,0,none⟩):=by
     generalize vs.getD t undef=x at q2
     cases q2 with
     |ptr v id off c h1 hU hh=>exact(hh _ _ e2).2 (by simp[AObj.cnt,h5])
    obtain⟨b0,x1,x2⟩:=r1;obtain⟨b1,x3,x4⟩:=r2;rw[x2]at x4;have:b=b':=by
     simp only[blk,Qx]at x1 x3;simp only[Value.pointer.injEq,Qx,Addr.mk.injEq]at x4;omega
    subst this;refine⟨_,_,e2,?_⟩;rw[e1'];simp[AObj.cnt,h3,h5]
 refine hK _ _ ?_;have hx:=hret.ext;exact zEN.zRl (σ:=σ) hret.mr (fun t=>(m2 t).ext hx) m3 m4 (m5.ext hx) hd (VR.out hret hv2)
theorem zD{P:Program}{ops:Array Oper}{i:Nat}{o:Oper}{σ:ASt}{K:ASt->Prop}{cl:Call}{fo:Operand}{f:FuncId}{caps:List AV}{args:List AV}{H H':List AObj}{res:AV}(hspec:FnS P f args H res H')(pi po:List Nat)(q:Nat)
  (hg:gd ops σ o=some true) (hop:o.op= .call cl) (hc:cl.callee= .value fo) (hfo:σ.eval fo= .fn f caps) (hb:zBy P f=true) (hd:zAt σ o=true)
  (hargs:inPs σ.heap pi q (cl.args.toList.map σ.eval++caps) args) (hobj:inOs σ.heap pi q pi H) (hndi:ndL pi) (hlen:po.length=H'.length) (hndo:ndL po) (hpo:zSL i pi args H H' 0 po) (hok:H'.all okO=true)
  (hK:K (callS σ o.dst pi po q res H')):zDo P ops i o σ K:=
 ⟨_,zND pi po q hg hop hc hfo hb hspec hd hargs hobj hndi hlen hndo hpo hok,rfl,hK⟩
section
variable{P:Program}{i:Nat}{H H2:Nat->Option AObj}{c:Bool}{eff:Eff}
theorem zI7{t:TypeId}{x:AV}(he:aLoad P t x H=some (c,eff))(hH: ∀k,k∈eff.tch->H2 k=H k):aLoad P t x H2=some (c,eff):=by
 unfold aLoad at he ⊢;split at he
 ·rename_i a s id off c' ha hs;have key:H2 id=H id:=by
   split at he
   ·split at he
    ·simp only[Qx,Qk]at he;obtain⟨-,rfl⟩:=he;exact hH id (by simp)
    ·split at he
     ·simp only[Qx,Qk]at he;obtain⟨-,rfl⟩:=he;exact hH id (by simp)
     ·cases he
   ·split at he
    ·simp only[Qx,Qk]at he;obtain⟨-,rfl⟩:=he;exact hH id (by simp)
    ·simp only[Qx,Qk]at he;obtain⟨-,rfl⟩:=he;exact hH id (by simp)
   ·split at he
    ·simp only[Qx,Qk]at he;obtain⟨-,rfl⟩:=he;exact hH id (by simp)
    ·split at he
     ·simp only[Qx,Qk]at he;obtain⟨-,rfl⟩:=he;exact hH id (by simp)
     ·cases he
   ·cases he
  simp only[key];exact he
 ·exact he
 ·cases he
theorem zG8{s f:Nat}{x:AV}(he:aField P s f x H=some (c,eff))(hH: ∀k,k∈eff.tch->H2 k=H k):aField P s f x H2=some (c,eff):=by
 unfold aField at he ⊢;split at he
 ·rename_i o sz a id off c' hf;have key:H2 id=H id:=by
   split at he
   ·simp only[Qx,Qk]at he;obtain⟨-,rfl⟩:=he;exact hH id (by simp)
   ·cases he
  simp only[key];exact he
 ·exact he
 ·cases he
theorem zCG{t:TypeId}{x ix:AV}(he:aIndexAddr P t x ix H=some (c,eff))(hH: ∀k,k∈eff.tch->H2 k=H k):aIndexAddr P t x ix H2=some (c,eff):=by
 unfold aIndexAddr at he ⊢;split at he
 ·rename_i e hel;split at he
  ·exact he
  ·rename_i s id c' q k j hs;have key:H2 id=H id:=by
    split at he
    ·simp only[Qx,Qk]at he;obtain⟨-,rfl⟩:=he;exact hH id (by simp)
    ·split at he
     ·simp only[Qx,Qk]at he;obtain⟨-,rfl⟩:=he;exact hH id (by simp)
     ·simp only[Qx,Qk]at he;obtain⟨-,rfl⟩:=he;exact hH id (by simp)
    ·cases he
   simp only[key];exact he
  ·rename_i s id off l c' q k j hs;have key:H2 id=H id:=by
    split at he
    ·simp only[Qx,Qk]at he;obtain⟨-,rfl⟩:=he;exact hH id (by simp)
    ·cases he
   simp only[key];exact he
  ·cases he
 ·rename_i hel;split at he
  ·rename_i n e har;split at he
   ·rename_i s id off c' q k j hs;have key:H2 id=H id:=by
     split at he
     ·simp only[Qx,Qk]at he;obtain⟨-,rfl⟩:=he;exact hH id (by simp)
     ·cases he
    simp only[key];exact he
   ·exact he
   ·cases he
  ·cases he
theorem zLQ{t:TypeId}{x:AV}(he:aLen P t x H=some (c,eff))(hH: ∀k,k∈eff.tch->H2 k=H k):aLen P t x H2=some (c,eff):=by
 unfold aLen at he ⊢;split at he
 ·exact he
 ·exact he
 ·rename_i id off l c';split at he
  ·rename_i e e' z p cs hel hh;have key:H2 id=H id:=by
    simp only[Qx,Qk]at he;obtain⟨-,rfl⟩:=he;exact hH id (by simp)
   simp only[hel,key,hh];exact he
  ·cases he
 ·rename_i id c';split at he
  ·rename_i e e' z p cs hel hh;have key:H2 id=H id:=by
    simp only[Qx,Qk]at he;obtain⟨-,rfl⟩:=he;exact hH id (by simp)
   simp only[hel,key,hh];exact he
  ·rename_i e e' cs hel hh;have key:H2 id=H id:=by
    simp only[Qx,Qk]at he;obtain⟨-,rfl⟩:=he;exact hH id (by simp)
   simp only[hel,key,hh];exact he
  ·rename_i K Y es hel hh;split at he
   ·rename_i hmp;have key:H2 id=H id:=by
     simp only[Qx,Qk]at he;obtain⟨-,rfl⟩:=he;exact hH id (by simp)
    simp only[hel,key,hh,hmp,if_true];exact he
   ·cases he
  ·cases he
 ·cases he
theorem zIk{s d:TypeId}{x:AV}(he:aConv P s d x H=some (c,eff))(hH: ∀k,k∈eff.tch->H2 k=H k):aConv P s d x H2=some (c,eff):=by
 unfold aConv at he ⊢;split at he
 ·exact he
 ·exact he
 ·exact he
 ·rename_i id c';split at he
  ·rename_i e e' z p cs hel hh;split at he
   ·rename_i hb;have key:H2 id=H id:=by
     simp only[Qx,Qk]at he;obtain⟨-,rfl⟩:=he;exact hH id (by simp)
    simp only[hel,key,hh,hb];exact he
   ·cases he
  ·cases he
 ·cases he
theorem zG7{t:TypeId}{x y:AV}(he:aStore P t x y H=some (c,eff))(hH: ∀k,k∈eff.tch->H2 k=H k):aStore P t x y H2=some (c,eff):=by
 unfold aStore at he ⊢;split at he
 ·rename_i id off c' xs s hx hs;have key:H2 id=H id:=by
   split at he
   ·simp only[Qx,Qk]at he;obtain⟨-,rfl⟩:=he;exact hH id (by simp)
   ·split at he
    ·simp only[Qx,Qk]at he;obtain⟨-,rfl⟩:=he;exact hH id (by simp)
    ·split at he
     ·simp only[Qx,Qk]at he;obtain⟨-,rfl⟩:=he;exact hH id (by simp)
     ·cases he
   ·split at he
    ·simp only[Qx,Qk]at he;obtain⟨-,rfl⟩:=he;exact hH id (by simp)
    ·cases he
   ·cases he
  simp only[key];exact he
 ·cases he
theorem zLn{x:AV}(he:aNil x H=some (c,eff))(hH: ∀k,k∈eff.tch->H2 k=H k):aNil x H2=some (c,eff):=by
 unfold aNil at he ⊢;split at he
 ·rename_i id off c';have key:H2 id=H id:=by
   split at he
   ·simp only[Qx,Qk]at he;obtain⟨-,rfl⟩:=he;exact hH id (by simp)
   ·cases he
  simp only[key];exact he
 ·exact he
 ·exact he
 ·cases he
theorem zEd: ∀(qs:List (Nat×AV)) {H H2:Nat->Option AObj} {b:Bool} {ps:List (Nat×AV)} {ds:List Nat},frz H qs=some (b,ps,ds)->(∀k,k∈ds->H2 k=H k)->frz H2 qs=some (b,ps,ds)
 |[],H,H2,b,ps,ds,h,_=>by simpa only[frz]using h
 |(k,q)::qs,H,H2,b,ps,ds,h,hH=>by
  have plain:(frz H qs).map (fun(b,ps,ds)=>(b,(k,q)::ps,ds))=some (b,ps,ds)->(frz H2 qs).map (fun(b,ps,ds)=>(b,(k,q)::ps,ds))=some (b,ps,ds):=fun h=>by
   cases hq:frz H qs with
   |none=>rw[hq]at h;cases h
   |some x=>
    obtain⟨b2,ps2,ds2⟩:=x;rw[hq]at h;simp only[Qg,Qx,Qk]at h;obtain⟨rfl,rfl,rfl⟩:=h;rw[zEd qs hq hH];rfl
  cases q with
  |own id c'=>
   unfold frz at h ⊢;split at h
   ·rename_i e z p cs hh
    cases hq:frz (upd H id none) qs with
    |none=>rw[hq]at h;cases h
    |some x=>
     obtain⟨b2,ps2,ds2⟩:=x;rw[hq]at h;simp only[Qg,Qx,Qk]at h;obtain⟨rfl,rfl,rfl⟩:=h;have key:H2 id=H id:=hH id (by simp);simp only[key,hh];rw[zEd qs (H:=upd H id none) (H2:=upd H2 id none) hq (fun k hk=>by
      by_cases e:k=id
      ·subst e;rw[zX,zX]
      ·rw[zu _ _ e,zu _ _ e];exact hH k (by simp[hk]))]
     rfl
   ·cases h
  |any=>simpa only[frz]using plain (by simpa only[frz]using h)
  |t p x=>simpa only[frz]using plain (by simpa only[frz]using h)
  |ptr id off c=>simpa only[frz]using plain (by simpa only[frz]using h)
  |sub id off l c=>simpa only[frz]using plain (by simpa only[frz]using h)
  |pt p cs=>simpa only[frz]using plain (by simpa only[frz]using h)
  |agg cs=>simpa only[frz]using plain (by simpa only[frz]using h)
  |tup cs=>simpa only[frz]using plain (by simpa only[frz]using h)
  |fn f cs=>simpa only[frz]using plain (by simpa only[frz]using h)
theorem zDj{cs:List AV}{b:Bool}{p:Nat}{xs:List T}{ds:List Nat}(h:frzL H cs=some (b,p,xs,ds))(hH: ∀k,k∈ds->H2 k=H k):frzL H2 cs=some (b,p,xs,ds):=by
 unfold frzL at h ⊢;split at h
 ·rename_i b2 ps ds2 hfr;split at h
  ·rename_i p2 xs2 hts;have h0:=h;simp only[Qx,Qk]at h;obtain⟨rfl,rfl,rfl,rfl⟩:=h;rw[zEd _ hfr hH];simp only[hts]
  ·cases h
 ·cases h
theorem zD2{t:TypeId}{n:Nat}{qs:List (Nat×AV)}(he:aBuildSlice P i t n qs H=some (c,eff))(hH: ∀k,k∈eff.tch->H2 k=H k):aBuildSlice P i t n qs H2=some (c,eff):=by
 unfold aBuildSlice at he ⊢;split at he
 ·rename_i e hel;split at he
  ·rename_i s zs hs hz;split at he
   ·rename_i cs hfi;split at he
    ·rename_i hs1;simp only[hs1,if_true];exact he
    ·rename_i hs1;rw[if_neg hs1];split at he
     ·rename_i b p xs ds hfr;have he0:=he;simp only[Qx,Qk]at he;obtain⟨-,rfl⟩:=he;rw[zDj hfr (fun k hk=>hH k (by simp[hk]))];exact he0
     ·cases he
   ·cases he
  ·cases he
 ·cases he
theorem zB8{s:Nat}{x:AV}{r:Bool×Nat×List T×List Nat}(he:srcOf H s x=some r)(hH: ∀k,k∈r.2.2.2->H2 k=H k):srcOf H2 s x=some r:=by
 unfold srcOf at he ⊢;split at he
 ·exact he
 ·rename_i id c';have key:H2 id=H id:=by
   split at he
   ·injection he with he;subst he;exact hH id (by simp)
   ·cases he
  simp only[key];exact he
 ·cases he
theorem zC8{s:Nat}{x:AV}{b:Bool}{ys:List AV}{rd:Nat}(h:vecOf H s x=some (b,ys,rd))(hH:H2 rd=H rd):vecOf H2 s x=some (b,ys,rd):=by
 unfold vecOf at h ⊢;split at h
 ·rename_i id c';split at h
  ·rename_i e z pv ys' hh;have h0:=h;simp only[Qx,Qk]at h;obtain⟨-,-,rfl⟩:=h;simp only[hH,hh];exact h0
  ·cases h
 ·cases h
theorem zDv{s:Nat}{x:AV}{r:Bool×Nat×List T×List Nat}(he:srcOf H s x=some r)(h:vecOf H s x=none)(hH: ∀k,k∈r.2.2.2->H2 k=H k):vecOf H2 s x=none:=by
 unfold vecOf;unfold srcOf at he;split at he
 ·rfl
 ·rename_i id c';split at he
  ·rename_i e z q ys hh;injection he with he;subst he;have key:H2 id=H id:=hH id (by simp);simp only[key,hh]
  ·cases he
 ·cases he
theorem zF5{t:TypeId}{d x:AV}(he:aAppend P i t d x H=some (c,eff))(hH: ∀k,k∈eff.tch->H2 k=H k):aAppend P i t d x H2=some (c,eff):=by
 unfold aAppend at he ⊢;split at he
 ·rename_i e hel;split at he
  ·rename_i s by_ zs hs hby hz;split at he
   ·rename_i vb ys rd hvec;split at he
    ·rename_i id c';split at he
     ·rename_i e' z p cs hh;have he0:=he;simp only[Qx,Qk]at he;obtain⟨-,rfl⟩:=he;have k1:=zC8 (H2:=H2) hvec (hH rd (by simp));have k2:H2 id=H id:=hH id (by simp);simp only[k1,k2,hh];exact he0
     ·rename_i e' z p cs hh;split at he
      ·rename_i b2 q ts ds hfr;have he0:=he;simp only[Qx,Qk]at he;obtain⟨-,rfl⟩:=he;have k1:=zC8 (H2:=H2) hvec (hH rd (by simp));have k2:H2 id=H id:=hH id (by simp);have k3:=zDj (H2:=H2) hfr (fun k hk=>hH k (by simp[hk]));simp only[k1,k2,hh,k3];exact he0
      ·cases he
     ·cases he
    ·split at he
     ·rename_i b2 q ts ds hfr;have he0:=he;simp only[Qx,Qk]at he;obtain⟨-,rfl⟩:=he;have k1:=zC8 (H2:=H2) hvec (hH rd (by simp));have k3:=zDj (H2:=H2) hfr (fun k hk=>hH k (by simp[hk]));simp only[k1,k3];exact he0
     ·cases he
    ·cases he
   ·rename_i hnv;split at he
    ·rename_i b q ys rd hsrc;split at he
     ·rename_i id c';split at he
      ·rename_i e' z p cs hh;have he0:=he;simp only[Qx,Qk]at he;obtain⟨-,rfl⟩:=he;have k1:=zB8 (H2:=H2) hsrc (fun k hk=>hH k (by simp at hk ⊢;exact .inr hk));have k0:=zDv (H2:=H2) hsrc hnv (fun k hk=>hH k (by simp at hk ⊢;exact .inr hk));have k2:H2 id=H id:=hH id (by simp);simp only[k0,k1,k2,hh];exact he0
      ·rename_i e' z p cs hh;have he0:=he;simp only[Qx,Qk]at he;obtain⟨-,rfl⟩:=he;have k1:=zB8 (H2:=H2) hsrc (fun k hk=>hH k (by simp at hk ⊢;exact .inr hk));have k0:=zDv (H2:=H2) hsrc hnv (fun k hk=>hH k (by simp at hk ⊢;exact .inr hk));have k2:H2 id=H id:=hH id (by simp);simp only[k0,k1,k2,hh];exact he0
      ·cases he
     ·have he0:=he;simp only[Qx,Qk]at he;obtain⟨-,rfl⟩:=he;have k1:=zB8 (H2:=H2) hsrc (fun k hk=>hH k (by simp at hk ⊢;exact .inr hk));have k0:=zDv (H2:=H2) hsrc hnv (fun k hk=>hH k (by simp at hk ⊢;exact .inr hk));simp only[k0,k1];exact he0
     ·cases he
    ·cases he
  ·cases he
 ·cases he
theorem zDP{t:TypeId}{m k v:AV}(he:aMapUpd P t m k v H=some (c,eff))(hH: ∀k,k∈eff.tch->H2 k=H k):aMapUpd P t m k v H2=some (c,eff):=by
 unfold aMapUpd at he ⊢;split at he
 ·rename_i K Y id c' p x p' y hm;have key:H2 id=H id:=by
   split at he
   ·simp only[Qx,Qk]at he;obtain⟨-,rfl⟩:=he;exact hH id (by simp)
   ·simp only[Qx,Qk]at he;obtain⟨-,rfl⟩:=he;exact hH id (by simp)
   ·cases he
  simp only[key];exact he
 ·rename_i K Y id c' ks p' y hm;have key:H2 id=H id:=by
   split at he
   ·simp only[Qx,Qk]at he;obtain⟨-,rfl⟩:=he;exact hH id (by simp)
   ·cases he
  simp only[key];exact he
 ·cases he
theorem zF8{t:TypeId}{m k:AV}{b:Bool}(he:aLookup P t m k b H=some (c,eff))(hH: ∀k,k∈eff.tch->H2 k=H k):aLookup P t m k b H2=some (c,eff):=by
 unfold aLookup at he ⊢;split at he
 ·rename_i K Y id c' p x hm;have key:H2 id=H id:=by
   split at he
   ·simp only[Qx,Qk]at he;obtain⟨-,rfl⟩:=he;exact hH id (by simp)
   ·simp only[Qx,Qk]at he;obtain⟨-,rfl⟩:=he;exact hH id (by simp)
   ·cases he
  simp only[key];exact he
 ·rename_i K Y id c' ks hm;have key:H2 id=H id:=by
   split at he
   ·simp only[Qx,Qk]at he;obtain⟨-,rfl⟩:=he;exact hH id (by simp)
   ·cases he
  simp only[key];exact he
 ·exact he
 ·cases he
theorem zGv{t:TypeId}{x:AV}{lo hi:Option AV}(he:aSliceO P i t x lo hi H=some (c,eff))(hH: ∀k,k∈eff.tch->H2 k=H k):aSliceO P i t x lo hi H2=some (c,eff):=by
 unfold aSliceO at he ⊢;split at he
 ·rename_i id c';split at he
  ·rename_i e e' z p cs q k h' hel hh;split at he
   ·rename_i s hs;have key:H2 id=H id:=by
     simp only[Qx,Qk]at he;obtain⟨-,rfl⟩:=he;exact hH id (by simp)
    simp only[hel,key,hh,hs];exact he
   ·cases he
  ·rename_i e e' z p cs q k l hel hh;split at he
   ·rename_i s hs;have key:H2 id=H id:=by
     simp only[Qx,Qk]at he;obtain⟨-,rfl⟩:=he;exact hH id (by simp)
    simp only[hel,key,hh,hs];exact he
   ·cases he
  ·cases he
 ·rename_i hn
  first
   |exact he
   |(
     split
     ·rename_i id c';exact absurd rfl (hn id c')
     ·exact he)
theorem zGs{t t':TypeId}{d x:AV}(he:aAppStr P i t t' d x H=some (c,eff))(hH: ∀k,k∈eff.tch->H2 k=H k):aAppStr P i t t' d x H2=some (c,eff):=by
 unfold aAppStr at he ⊢;split at he
 ·rename_i e hel;split at he
  ·rename_i q s;split at he
   ·rename_i id c';split at he
    ·rename_i e' z p cs hh;have he0:=he;simp only[Qx,Qk]at he;obtain⟨-,rfl⟩:=he;have k2:H2 id=H id:=hH id (by simp);simp only[k2,hh];exact he0
    ·cases he
   ·exact he
   ·cases he
  ·cases he
 ·cases he
theorem zI8{t:TypeId}{d x:AV}(he:aCopy P i t d x H=some (c,eff))(hH: ∀k,k∈eff.tch->H2 k=H k):aCopy P i t d x H2=some (c,eff):=by
 unfold aCopy at he ⊢;split at he
 ·rename_i e hel;split at he
  ·rename_i s hs;split at he
   ·rename_i b q ys rd hsrc;split at he
    ·rename_i id c';split at he
     ·rename_i e' z p cs hh;have he0:=he;simp only[Qx,Qk]at he;obtain⟨-,rfl⟩:=he;have k2:H2 id=H id:=hH id (by simp);have k3:=zB8 hsrc (fun k hk=>hH k (by simp[hk]));simp only[k3,k2,hh];exact he0
     ·cases he
    ·cases he
   ·cases he
  ·cases he
 ·cases he
theorem zHW{t:TypeId}{d:AV}(he:aClear P t d H=some (c,eff))(hH: ∀k,k∈eff.tch->H2 k=H k):aClear P t d H2=some (c,eff):=by
 unfold aClear at he ⊢;split at he
 ·rename_i e hel;split at he
  ·rename_i z0 hz;split at he
   ·rename_i id c';split at he
    ·rename_i e' z p cs hh;have he0:=he;simp only[Qx,Qk]at he;obtain⟨-,rfl⟩:=he;have k2:H2 id=H id:=hH id (by simp);simp only[k2,hh];exact he0
    ·cases he
   ·cases he
  ·cases he
 ·cases he
theorem zQr{ev ev2:Operand->AV}{l:List Operand}(h: ∀x,x∈l->ev2 x=ev x):l.map ev2=l.map ev:=List.map_congr_left h
theorem zFN{b:Builtin}{args:List AV}{tys:List TypeId}(he:aBuiltin P i b args tys H=some (c,eff))(hH: ∀k,k∈eff.tch->H2 k=H k):aBuiltin P i b args tys H2=some (c,eff):=by
 unfold aBuiltin at he ⊢;split at he
 ·exact zLQ he hH
 ·split at he
  ·rename_i htt;simp only[htt,if_true];rw[←htt];exact zF5 he hH
  ·rename_i htt;simp only[htt,if_false];exact zGs he hH
 ·exact he
 ·exact he
 ·exact zI8 he hH
 ·exact zHW he hH
 ·exact he
 ·cases he
theorem zGA{op:BinOp}{t:TypeId}{x y:AV}(he:aMapNil P op t x y H=some (c,eff))(hH: ∀k,k∈eff.tch->H2 k=H k):aMapNil P op t x y H2=some (c,eff):=by
 unfold aMapNil at he ⊢;split at he
 ·exact he
 ·rename_i id c' p;have key:H2 id=H id:=by
   split at he
   ·simp only[Qx,Qk]at he;obtain⟨-,rfl⟩:=he;exact hH id (by simp)
   ·cases he
  simp only[key];exact he
 ·exact he
 ·exact he
 ·exact he
 ·exact he
 ·cases he
theorem zHe{op:Op}{ev ev2:Operand->AV}(he:aop P i op ev H=some (c,eff))(hev: ∀x,x∈op.operands->ev2 x=ev x)(hH: ∀k,k∈eff.tch->H2 k=H k):aop P i op ev2 H2=some (c,eff):=by
 unfold aop at he ⊢;split at he
 ·rename_i x;simp only[hev x (by simp[Op.operands])];exact he
 ·rename_i x;simp only[hev x (by simp[Op.operands])];exact he
 ·rename_i x a b;simp only[hev x (by simp[Op.operands]),hev a (by simp[Op.operands]),hev b (by simp[Op.operands])];exact he
 ·exact he
 ·rename_i e x;simp only[hev x (by simp[Op.operands])];exact he
 ·rename_i t ps;have:(ps.toList.map fun p=>(p.1,ev2 p.2))=ps.toList.map fun p=>(p.1,ev p.2):=List.map_congr_left (fun p hp=>by rw[hev p.2 (by simp only[Op.operands,List.mem_toArray,List.mem_map];exact⟨p,hp,rfl⟩)])
  simp only[this];exact he
 ·rename_i t n ps;have:(ps.toList.map fun p=>(p.1,ev2 p.2))=ps.toList.map fun p=>(p.1,ev p.2):=List.map_congr_left (fun p hp=>by rw[hev p.2 (by simp only[Op.operands,List.mem_toArray,List.mem_map];exact⟨p,hp,rfl⟩)])
  simp only[this];exact zD2 he hH
 ·rename_i t x;simp only[hev x (by simp[Op.operands])];exact zI7 he hH
 ·rename_i t x y;simp only[hev x (by simp[Op.operands]),hev y (by simp[Op.operands])];exact zG7 he hH
 ·rename_i x;simp only[hev x (by simp[Op.operands])];exact zLn he hH
 ·rename_i op t x y yt;simp only[hev x (by simp[Op.operands]),hev y (by simp[Op.operands])];split at he
  ·exact he
  ·exact zGA he hH
 ·rename_i op t x;simp only[hev x (by simp[Op.operands])];exact he
 ·rename_i s d x;simp only[hev x (by simp[Op.operands])];exact zIk he hH
 ·rename_i t l k;simp only[hev l (by simp[Op.operands]),hev k (by simp[Op.operands])];exact he
 ·rename_i t x lo hi;have h1:lo.map ev2=lo.map ev:=by cases lo with
   |none=>rfl
   |some l=>simp only[Qg];rw[hev l (by simp[Op.operands])]
  have h2:hi.map ev2=hi.map ev:=by cases hi with
   |none=>rfl
   |some l=>simp only[Qg];rw[hev l (by simp[Op.operands])]
  simp only[hev x (by simp[Op.operands]),h1,h2];exact zGv he hH
 ·rename_i s x f;simp only[hev x (by simp[Op.operands])];exact zG8 he hH
 ·rename_i s x f;simp only[hev x (by simp[Op.operands])];exact he
 ·rename_i t x ix;simp only[hev x (by simp[Op.operands]),hev ix (by simp[Op.operands])];exact zCG he hH
 ·rename_i t x ix;simp only[hev x (by simp[Op.operands]),hev ix (by simp[Op.operands])];exact he
 ·rename_i x k;simp only[hev x (by simp[Op.operands])];exact he
 ·rename_i f first caps
  have:caps.toList.map ev2=caps.toList.map ev:=zQr (fun x hx=>hev x (by simp[Op.operands];exact .inr (by simpa using hx)));simp only[this];exact he
 ·exact he
 ·rename_i t m k v;simp only[hev m (by simp[Op.operands]),hev k (by simp[Op.operands]),hev v (by simp[Op.operands])];exact zDP he hH
 ·rename_i t m k v;simp only[hev m (by simp[Op.operands]),hev k (by simp[Op.operands]),hev v (by simp[Op.operands])];exact zDP he hH
 ·rename_i t m k ok;simp only[hev m (by simp[Op.operands]),hev k (by simp[Op.operands])];exact zF8 he hH
 ·rename_i cl;split at he
  ·rename_i b hb;have:cl.args.toList.map ev2=cl.args.toList.map ev:=zQr (fun x hx=>hev x (by simp[Op.operands,Call.operands];exact .inr (by simpa using hx)));simp only[this];exact zFN he hH
  ·cases he
 ·cases he
end
mutual
def refsV:AV->List Nat
 | .own id _=>[id]
 | .ptr id _ _=>[id]
 | .sub id _ _ _=>[id]
 | .agg cs=>refsVs cs
 | .tup cs=>refsVs cs
 | .fn _ cs=>refsVs cs
 |_=>[]
def refsVs:List AV->List Nat
 |[]=>[]
 |a::r=>refsV a++refsVs r
end
mutual
theorem zMV{H H2:Nat->Option AObj}{pi:List Nat}{q:Nat}: ∀(a b:AV),inP H pi q a b->(∀k,k∈refsV a->H2 k=H k)->inP H2 pi q a b
 |a,b,h,hH=>by
  cases b with
  |any=>cases a<;>simp only[inP]
  |t p y=>
        cases a<;>simp only[inP]at h ⊢
        ·exact h
        ·rename_i id c;have:H2 id=H id:=hH id (by simp[refsV]);rw[this];exact h
  |own k c=>cases a<;>simp only[inP]at h ⊢;exact h
  |ptr k off c=>cases a<;>simp only[inP]at h ⊢;exact h
  |sub k off l c=>cases a<;>simp only[inP]at h
  |pt p ds=>
   cases a<;>simp only[inP]at h ⊢
   ·rw[hH _ (by simp[refsV])];exact h
   ·exact h
  |agg bs=>
        cases a<;>simp only[inP]at h ⊢;rename_i aS;exact zBC aS bs h (fun k hk=>hH k (by simpa only[refsV]using hk))
  |tup bs=>cases a<;>simp only[inP]at h
  |fn g bs=>
         cases a<;>simp only[inP]at h ⊢;rename_i f aS;exact⟨h.1,zBC aS bs h.2 (fun k hk=>hH k (by simpa only[refsV]using hk))⟩
theorem zBC{H H2:Nat->Option AObj}{pi:List Nat}{q:Nat}: ∀(aS bs:List AV),inPs H pi q aS bs->(∀k,k∈refsVs aS->H2 k=H k)->inPs H2 pi q aS bs
 |[],[],h,_=>h
 |a::aS,b::bs,h,hH=>by
  simp only[inPs]at h ⊢;exact⟨zMV a b h.1 (fun k hk=>hH k (by simp only[refsVs,List.mem_append];exact .inl hk)),zBC aS bs h.2 (fun k hk=>hH k (by simp only[refsVs,List.mem_append];exact .inr hk))⟩
 |[],_::_,h,_=>by simp only[inPs]at h
 |_::_,[],h,_=>by simp only[inPs]at h
end
structure LE where
 val:AV
 ups:List (Nat×Option AObj)
 tch:List Nat
def lk:List (Nat×Option AObj)->Nat->Option (Option AObj)
 |[],_=>none
 |(a,x)::r,k=>if k=a then some x else lk r k
theorem zGS: ∀{u:List (Nat×Option AObj)} {k:Nat},k∉u.map (·.1)->lk u k=none
 |[],k,_=>rfl
 |(a,x)::r,k,h=>by
  simp only[List.map_cons,List.mem_cons,not_or]at h;unfold lk;rw[if_neg h.1];exact zGS h.2
theorem zMr: ∀{u:List (Nat×Option AObj)} {k:Nat},k∈u.map (·.1)-> ∃x,lk u k=some x
 |[],k,h=>by simp at h
 |(a,x)::r,k,h=>by
  unfold lk;by_cases e:k=a
  ·rw[if_pos e];exact⟨x,rfl⟩
  ·rw[if_neg e];simp only[List.map_cons,List.mem_cons]at h;exact zMr (h.resolve_left e)
def zCW(σ:ASt)(dst:Option Tmp)(l:LE):ASt:={ σ with env:=match dst with|some d=>upd σ.env d l.val|none=>σ.env,heap:=fun k=>(lk l.ups k).getD (σ.heap k) }
def rdT(ops:Array Oper)(o:Oper):List Tmp:=(o.op.operands.toList.filterMap fun x=>match x with| .tmp t=>some t|_=>none)++(match o.guard with|some (j,_)=>((ops[j]?).bind (·.dst)).toList|none=>[])
def zTy(P:Program)(ops:Array Oper)(i:Nat)(o:Oper)(σ:ASt)(l:LE):Prop:=∀σ2:ASt,(∀t,t∈rdT ops o->σ2.env t=σ.env t)->(∀k,k∈l.tch->σ2.heap k=σ.heap k)->σ2.nt=σ.nt->OpS P ops i o σ2 (zCW σ2 o.dst l)
def zEA(ops:Array Oper)(j:Nat):Option Tmp:=(ops[j]?).bind (·.dst)
def foldS(ops:Array Oper)(le:Nat->LE)(σ0:ASt)(L:Nat->Bool):Nat->ASt
 |0=>σ0
 |n+1=>if L n then zCW (foldS ops le σ0 L n) (zEA ops n) (le n)else foldS ops le σ0 L n
section
variable{ops:Array Oper}{le:Nat->LE}{σ0:ASt}{L L':Nat->Bool}
theorem zAK: ∀n,(foldS ops le σ0 L n).nt=σ0.nt/\(foldS ops le σ0 L n).gh=σ0.gh/\(foldS ops le σ0 L n).nxt=σ0.nxt
 |0=>⟨rfl,rfl,rfl⟩
 |n+1=>by
  unfold foldS;split
  ·exact zAK n
  ·exact zAK n
theorem zDK{t:Nat}: ∀n,(∀j,j<n->L j=L' j\/zEA ops j≠some t)->(foldS ops le σ0 L n).env t=(foldS ops le σ0 L' n).env t
 |0,_=>rfl
 |n+1,h=>by
  have ih:=zDK n (fun j hj=>h j (by omega));have hput: ∀(σ:ASt),zEA ops n≠some t->(zCW σ (zEA ops n) (le n)).env t=σ.env t:=fun σ hne=>by
   unfold zCW
   cases hd:zEA ops n with
   |none=>rfl
   |some d=>exact zu _ _ (fun e=>hne (by rw[hd,e]))
  unfold foldS;rcases h n (by omega)with e|e
  ·rw[e];split
   ·unfold zCW
    cases hd:zEA ops n with
    |none=>exact ih
    |some d=>
     show upd _ _ _ _=upd _ _ _ _;by_cases e2:t=d
     ·rw[e2,zX,zX]
     ·rw[zu _ _ e2,zu _ _ e2];exact ih
   ·exact ih
  ·by_cases h1:L n=true
   ·by_cases h2:L' n=true
    ·rw[if_pos h1,if_pos h2,hput _ e,hput _ e];exact ih
    ·rw[if_pos h1,if_neg h2,hput _ e];exact ih
   ·by_cases h2:L' n=true
    ·rw[if_neg h1,if_pos h2,hput _ e];exact ih
    ·rw[if_neg h1,if_neg h2];exact ih
theorem zCo{k:Nat}: ∀n,(∀j,j<n->L j=L' j\/k∉(le j).ups.map (·.1))->(foldS ops le σ0 L n).heap k=(foldS ops le σ0 L' n).heap k
 |0,_=>rfl
 |n+1,h=>by
  have ih:=zCo n (fun j hj=>h j (by omega));have hput: ∀(σ:ASt),k∉(le n).ups.map (·.1)->(zCW σ (zEA ops n) (le n)).heap k=σ.heap k:=fun σ hne=>by
   show(lk (le n).ups k).getD (σ.heap k)=_;rw[zGS hne];rfl
  unfold foldS;rcases h n (by omega)with e|e
  ·rw[e];split
   ·show(lk (le n).ups k).getD _=(lk (le n).ups k).getD _;rw[ih]
   ·exact ih
  ·by_cases h1:L n=true
   ·by_cases h2:L' n=true
    ·rw[if_pos h1,if_pos h2,hput _ e,hput _ e];exact ih
    ·rw[if_pos h1,if_neg h2,hput _ e];exact ih
   ·by_cases h2:L' n=true
    ·rw[if_neg h1,if_pos h2,hput _ e];exact ih
    ·rw[if_neg h1,if_neg h2];exact ih
theorem zD5{i t:Nat}(hi:L i=true)(ht:zEA ops i=some t): ∀n,i<n->(∀j,i<j->j<n->L j=true->zEA ops j≠some t)->(foldS ops le σ0 L n).env t=(le i).val
 |0,h,_=>by omega
 |n+1,h,hl=>by
  unfold foldS;by_cases e:n=i
  ·subst e;rw[if_pos hi];unfold zCW;rw[ht];exact zX _ _ _
  ·have ih:=zD5 hi ht n (by omega) (fun j h1 h2=>hl j h1 (by omega));by_cases hn:L n=true
   ·rw[if_pos hn];have hne:=hl n (by omega) (by omega) hn;unfold zCW
    cases hd:zEA ops n with
    |none=>exact ih
    |some d=>exact(zu _ _ (fun e=>hne (by rw[hd,e]))).trans ih
   ·rw[if_neg hn];exact ih
theorem zDG{i k:Nat}{x:Option AObj}(hi:L i=true)(hk:lk (le i).ups k=some x): ∀n,i<n->(∀j,i<j->j<n->L j=true->k∉(le j).ups.map (·.1))->(foldS ops le σ0 L n).heap k=x
 |0,h,_=>by omega
 |n+1,h,hl=>by
  unfold foldS;by_cases e:n=i
  ·subst e;rw[if_pos hi];show(lk (le n).ups k).getD _=_;rw[hk];rfl
  ·have ih:=zDG hi hk n (by omega) (fun j h1 h2=>hl j h1 (by omega));by_cases hn:L n=true
   ·rw[if_pos hn];show(lk (le n).ups k).getD _=_;rw[zGS (hl n (by omega) (by omega) hn)];exact ih
   ·rw[if_neg hn];exact ih
end
def zD3(ops:Array Oper)(j:Nat):List Nat:=((ops[j]?).map fun o=>(o.after.toList.filter (Region.binds .any)).map (·.on)).getD []
theorem zDi{ops:Array Oper}{listed:Array Bool}{i:Nat}:i∈Region.ready .any ops listed↔i<ops.size/\listed.getD i true=false/\ ∀j,j∈zD3 ops i->listed.getD j false=true:=by
 unfold Region.ready zD3;rw[List.mem_filter,List.mem_range];constructor
 ·rintro⟨h1,h2⟩;rw[Qz]at h2;refine⟨h1,by simpa using h2.1,fun j hj=>?_⟩;have h3:=h2.2;rw[Array.getElem?_eq_getElem h1]at h3 hj;simp only[Qg,Qd,Array.all_eq_true',Bool.or_eq_true]at h3;simp only[Qg,Qd,List.mem_map,List.mem_filter]at hj;obtain⟨e,⟨he1,he2⟩,rfl⟩:=hj;rcases h3 e (by simpa using he1)with h|h
  ·rw[he2]at h;cases h
  ·exact h
 ·rintro⟨h1,h2,h3⟩;refine⟨h1,?_⟩;rw[Qz];refine⟨by rw[h2];rfl,?_⟩;rw[Array.getElem?_eq_getElem h1]at h3 ⊢;simp only[Qg,Qd,Array.all_eq_true',Bool.or_eq_true]at h3 ⊢;intro e he;by_cases hb:Region.binds .any e=true
  ·right;exact h3 _ (by simp only[List.mem_map,List.mem_filter];exact⟨e,⟨by simpa using he,hb⟩,rfl⟩)
  ·left;simpa using hb
def zRM(ops:Array Oper):Nat->List Nat
 |0=>[]
 |n+1=>zRM ops n++[(zD3 ops n).foldl (fun s d=>s|||2^d|||(zRM ops n).getD d 0) 0]
theorem zDN(ops:Array Oper): ∀n,(zRM ops n).length=n
 |0=>rfl
 |n+1=>by simp[zRM,zDN ops n]
theorem zKs{f:Nat->Nat}{i:Nat}: ∀(ds:List Nat) (s:Nat),(ds.foldl (fun s d=>s|||2^d|||f d) s).testBit i=true->s.testBit i=true\/ ∃d,d∈ds/\(i=d\/(f d).testBit i=true)
 |[],s,h=>.inl h
 |d::ds,s,h=>by
  rcases zKs ds _ h with h|⟨d',h1,h2⟩
  ·rw[Nat.testBit_or,Nat.testBit_or,Bool.or_eq_true,Bool.or_eq_true,Nat.testBit_two_pow]at h;rcases h with(h|h)|h
   ·exact .inl h
   ·exact .inr ⟨d,by simp,.inl (by simpa using Eq.symm (by simpa using h))⟩
   ·exact .inr ⟨d,by simp,.inr h⟩
  ·exact .inr ⟨d',by simp[h1],h2⟩
theorem zGJ(ops:Array Oper){L:Nat->Bool}(hcl: ∀j,L j=true-> ∀d,d∈zD3 ops j->L d=true): ∀n j,j<n-> ∀i,((zRM ops n).getD j 0).testBit i=true->L j=true->L i=true
 |0,j,h,_,_,_=>by omega
 |n+1,j,h,i,hb,hj=>by
  unfold zRM at hb;by_cases e:j<n
  ·refine zGJ ops hcl n j e i ?_ hj;rw[Qv,Qw (by rw[zDN];exact e)]at hb;rw[Qv];exact hb
  ·obtain rfl:j=n:=by omega
   rw[Qv,Qa (by rw[zDN];exact Qy _),zDN,Nat.sub_self]at hb;simp only[Qm,Qd]at hb;rcases zKs _ _ hb with h1|⟨d,h1,h2⟩
   ·simp at h1
   ·have hd:=hcl j hj d h1;rcases h2 with rfl|h2
    ·exact hd
    ·by_cases hdj:d<j
     ·exact zGJ ops hcl j d hdj i h2 hd
     ·rw[Qv,Qh (by rw[zDN];omega)]at h2;simp at h2
def zIL(a b:List Nat):Bool:=a.all fun x=>!b.contains x
theorem zRs{a b:List Nat}(h:zIL a b=true){x:Nat}(ha:x∈a)(hb:x∈b):False:=by
 have:=List.all_eq_true.1 h x ha;simp[hb]at this
def apart(ops:Array Oper)(sm:List (List Nat×List Nat))(i j:Nat):Bool:=
 let di:=(zEA ops i).toList
 let dj:=(zEA ops j).toList
 let ri:=((ops[i]?).map (rdT ops)).getD []
 let rj:=((ops[j]?).map (rdT ops)).getD []
 let si:=sm.getD i ([],[])
 let sj:=sm.getD j ([],[])
 zIL di dj&&zIL di rj&&zIL dj ri&&zIL si.2 sj.1&&zIL sj.2 si.1
def zAY(ops:Array Oper)(sm:List (List Nat×List Nat)):Bool:=
 let ms:=zRM ops ops.size
 (List.range ops.size).all fun j=>(zD3 ops j).all (fun d=>decide (d<j))&&(List.range j).all fun i=>(ms.getD j 0).testBit i||apart ops sm i j
theorem ASt.ext'{σ σ':ASt}(h1: ∀t,σ.env t=σ'.env t)(h2: ∀k,σ.heap k=σ'.heap k)(h3:σ.nxt=σ'.nxt)(h4:σ.nt=σ'.nt)(h5:σ.gh=σ'.gh):σ=σ':=by
 cases σ;cases σ';simp only at h1 h2 h3 h4 h5;obtain rfl:=funext h1;obtain rfl:=funext h2;subst h3 h4 h5;rfl
section
variable{ops:Array Oper}{le:Nat->LE}{σ0:ASt}{L L':Nat->Bool}
theorem zFE(n:Nat)(h: ∀j,j<n->L j=L' j):foldS ops le σ0 L n=foldS ops le σ0 L' n:=
 ASt.ext' (fun t=>zDK n (fun j hj=>.inl (h j hj))) (fun k=>zCo n (fun j hj=>.inl (h j hj))) (by rw[(zAK n).2.2,(zAK n).2.2]) (by rw[(zAK n).1,(zAK n).1]) (by rw[(zAK n).2.1,(zAK n).2.1])
theorem zE0{i:Nat}: ∀n,i<=n->foldS ops le σ0 (fun j=>decide (j<i)) n=foldS ops le σ0 (fun _=>true) i
 |0,h=>by
  obtain rfl:i=0:=by omega
  rfl
 |n+1,h=>by
  by_cases e:i=n+1
  ·subst e;exact zFE _ (fun j hj=>by simpa using hj)
  ·rw[←zE0 n (by omega)];show(if decide (n<i)then _ else _)=_;rw[if_neg (by simp;omega)]
end
def cntL(L:Nat->Bool):Nat->Nat
 |0=>0
 |n+1=>cntL L n+(if L n then 0 else 1)
theorem zHS{L:Nat->Bool}: ∀n,cntL L n=0-> ∀j,j<n->L j=true
 |0,_,j,h=>by omega
 |n+1,h,j,hj=>by
  unfold cntL at h;by_cases hn:L n=true
  ·by_cases e:j=n
   ·rw[e];exact hn
   ·exact zHS n (by simpa[hn]using h) j (by omega)
  ·simp[hn]at h
def zEP(L:Nat->Bool)(i:Nat):Nat->Bool:=fun j=>if j=i then true else L j
theorem zK4{L:Nat->Bool}{i:Nat}(hi:L i=false): ∀n,i<n->cntL (zEP L i) n+1=cntL L n
 |0,h=>by omega
 |n+1,h=>by
  unfold cntL;by_cases e:n=i
  ·subst e;have: ∀m,m<=n->cntL (zEP L n) m=cntL L m:=by
    intro m
    induction m with
    |zero=>intro _;rfl
    |succ m ih=>
     intro hm;unfold cntL;rw[ih (by omega)];have:zEP L n m=L m:=by unfold zEP;rw[if_neg (by omega)]
     rw[this]
   rw[this n (Qy _),hi];simp[zEP]
  ·have:=zK4 hi n (by omega);have e2:zEP L i n=L n:=by unfold zEP;rw[if_neg e]
   rw[e2];omega
def zRA(J:ASt->Prop)(P:Program)(ops:Array Oper)(i:Nat)(o:Oper)(σ:ASt)(l:LE):Prop:=∀σ2:ASt,J σ2->(∀t,t∈rdT ops o->σ2.env t=σ.env t)->(∀k,k∈l.tch->σ2.heap k=σ.heap k)->σ2.nt=σ.nt->OpS P ops i o σ2 (zCW σ2 o.dst l)
theorem zTy.J{J:ASt->Prop}{P:Program}{ops:Array Oper}{i:Nat}{o:Oper}{σ:ASt}{l:LE}(h:zTy P ops i o σ l):zRA J P ops i o σ l:=fun σ2 _=>h σ2
section
variable{P:Program}{ops:Array Oper}{le:Nat->LE}{σ0:ASt}{N:Nat}{sm:List (List Nat×List Nat)}
def UL(N n:Nat)(L:Nat->Bool)(k:Nat):Prop:=k<N\/ ∃j,j<n/\L j=true/\N+1000000*j<=k/\k<N+1000000*j+1000000
theorem zVi(hchk:zAY ops sm=true){i j:Nat}(hij:i<j)(hj:j<ops.size)(hna:apart ops sm i j=false){L:Nat->Bool}(hcl: ∀j,L j=true-> ∀d,d∈zD3 ops j->L d=true)(hL:L j=true):L i=true:=by
 unfold zAY at hchk;simp only[List.all_eq_true,Qz,List.mem_range,Bool.or_eq_true]at hchk;have:=(hchk j hj).2 i hij;rcases this with h|h
 ·exact zGJ ops hcl ops.size j hj i h hL
 ·rw[hna]at h;cases h
theorem zAx{i j:Nat}{x:Nat}{a b:List Nat}(h:zIL a b=false->apart ops sm i j=false)(ha:x∈a)(hb:x∈b):apart ops sm i j=false:=by
 apply h
 cases hd:zIL a b with
 |false=>rfl
 |true=>exact(zRs hd ha hb).elim
theorem zBB{i j:Nat}:apart ops sm i j=(zIL (zEA ops i).toList (zEA ops j).toList&&zIL (zEA ops i).toList (((ops[j]?).map (rdT ops)).getD [])&&zIL (zEA ops j).toList (((ops[i]?).map (rdT ops)).getD [])&&zIL (sm.getD i ([],[])).2 (sm.getD j ([],[])).1&&zIL (sm.getD j ([],[])).2 (sm.getD i ([],[])).1):=rfl
theorem zNU(hchk:zAY ops sm=true)(hsm: ∀j,j<ops.size->sm.getD j ([],[])=((le j).tch++(le j).ups.map (·.1),(le j).ups.map (·.1)))
  {L:Nat->Bool} (hcl: ∀j,L j=true-> ∀d,d∈zD3 ops j->L d=true) {i:Nat} {o:Oper} (ho:ops[i]? =some o) (hi:L i=false) (hd: ∀d,d∈zD3 ops i->L d=true) {J:ASt->Prop} (hJ:J (foldS ops le σ0 L ops.size)) (hloc:zRA J P ops (N+1000000*i) o (foldS ops le σ0 (fun _=>true) i) (le i)):
  OpS P ops (N+1000000*i) o (foldS ops le σ0 L ops.size) (foldS ops le σ0 (zEP L i) ops.size):=by
 have hin:i<ops.size:=(Array.getElem?_eq_some_iff.1 ho).1;have hcl2: ∀j,zEP L i j=true-> ∀d,d∈zD3 ops j->zEP L i d=true:=fun j hj d hdd=>by
  unfold zEP at hj ⊢;by_cases e:d=i
  ·rw[if_pos e]
  ·rw[if_neg e];by_cases ej:j=i
   ·subst ej;exact hd d hdd
   ·rw[if_neg ej]at hj;exact hcl j hj d hdd
 -- an operation before i that meets it is done; one behind i is not
 have hlow: ∀j,j<i->apart ops sm j i=false->L j=true:=fun j hj hna=>by
  have:=zVi hchk hj hin hna hcl2 (by simp[zEP]);unfold zEP at this
  rwa [if_neg (by omega)]at this
 have hhigh: ∀j,i<j->j<ops.size->apart ops sm i j=false->L j=false:=fun j hj hjn hna=>by
  cases hLj:L j with
  |false=>rfl
  |true=>
   have:=zVi hchk hj hjn hna hcl hLj;rw[hi]at this;cases this
 have hoi:((ops[i]?).map (rdT ops)).getD []=rdT ops o:=by rw[ho];rfl
 have hread: ∀t,t∈rdT ops o->(foldS ops le σ0 L ops.size).env t=(foldS ops le σ0 (fun _=>true) i).env t:=fun t ht=>by
  rw[←zE0 ops.size (Nat.le_of_lt hin)];refine zDK ops.size (fun j hj=>?_);by_cases hdt:zEA ops j=some t
  ·left;have hmem:t∈(zEA ops j).toList:=by rw[hdt];simp
   rcases Nat.lt_trichotomy j i with h|h|h
   ·rw[hlow j h (zAx (a:=(zEA ops j).toList) (b:=rdT ops o) (fun hx=>by rw[zBB,hoi,hx];simp) hmem ht)];simp[h]
   ·subst h;rw[hi];simp
   ·rw[hhigh j h hj (zAx (a:=(zEA ops j).toList) (b:=rdT ops o) (fun hx=>by rw[zBB,hoi,hx];simp) hmem ht)];simp;omega
  ·exact .inr hdt
 have hheap: ∀k,k∈(le i).tch->(foldS ops le σ0 L ops.size).heap k=(foldS ops le σ0 (fun _=>true) i).heap k:=fun k hk=>by
  rw[←zE0 ops.size (Nat.le_of_lt hin)];refine zCo ops.size (fun j hj=>?_);by_cases hkj:k∈(le j).ups.map (·.1)
  ·left;have m1:k∈(sm.getD j ([],[])).2:=by rw[hsm j hj];exact hkj
   have m2:k∈(sm.getD i ([],[])).1:=by rw[hsm i hin];exact List.mem_append_left _ hk
   rcases Nat.lt_trichotomy j i with h|h|h
   ·rw[hlow j h (zAx (fun hx=>by rw[zBB,hx];simp) m1 m2)];simp[h]
   ·subst h;rw[hi];simp
   ·rw[hhigh j h hj (zAx (fun hx=>by rw[zBB,hx];simp) m1 m2)];simp;omega
  ·exact .inr hkj
 have hres:zCW (foldS ops le σ0 L ops.size) o.dst (le i)=foldS ops le σ0 (zEP L i) ops.size:=by
  have hdst:zEA ops i=o.dst:=by unfold zEA;rw[ho];rfl
  have hpi:zEP L i i=true:=by simp[zEP]
  have hpj: ∀j,j≠i->L j=zEP L i j:=fun j hj=>by unfold zEP;rw[if_neg hj]
  refine ASt.ext' (fun t=>?_) (fun k=>?_) ?_ ?_ ?_
  ·by_cases e:o.dst=some t
   ·have h1:(zCW (foldS ops le σ0 L ops.size) o.dst (le i)).env t=(le i).val:=by
     unfold zCW;rw[e];exact zX _ _ _
    rw[h1];refine(zD5 hpi (by rw[hdst];exact e) ops.size hin (fun j h1 h2 h3 h4=>?_)).symm;rw[←hpj j (by omega)]at h3;have m1:t∈(zEA ops i).toList:=by rw[hdst,e];simp
    have m2:t∈(zEA ops j).toList:=by rw[h4];simp
    have:=hhigh j h1 h2 (zAx (fun hx=>by rw[zBB,hx];simp) m1 m2);rw[this]at h3;cases h3
   ·have h1:(zCW (foldS ops le σ0 L ops.size) o.dst (le i)).env t=(foldS ops le σ0 L ops.size).env t:=by
     unfold zCW
     cases hq:o.dst with
     |none=>rfl
     |some d=>exact zu _ _ (fun e2=>e (by rw[hq,e2]))
    rw[h1];refine zDK ops.size (fun j hj=>?_);by_cases ej:j=i
    ·subst ej;exact .inr (by rw[hdst];exact e)
    ·exact .inl (hpj j ej)
  ·by_cases hk:k∈(le i).ups.map (·.1)
   ·obtain⟨x,hx⟩:=zMr hk;have h1:(zCW (foldS ops le σ0 L ops.size) o.dst (le i)).heap k=x:=by
     show(lk (le i).ups k).getD _=x;rw[hx];rfl
    rw[h1];refine(zDG hpi hx ops.size hin (fun j h1 h2 h3 h4=>?_)).symm;rw[←hpj j (by omega)]at h3;have m1:k∈(sm.getD i ([],[])).2:=by rw[hsm i hin];exact hk
    have m2:k∈(sm.getD j ([],[])).1:=by rw[hsm j h2];exact List.mem_append_right _ h4
    have:=hhigh j h1 h2 (zAx (fun hx=>by rw[zBB,hx];simp) m1 m2);rw[this]at h3;cases h3
   ·have h1:(zCW (foldS ops le σ0 L ops.size) o.dst (le i)).heap k=(foldS ops le σ0 L ops.size).heap k:=by
     show(lk (le i).ups k).getD _=_;rw[zGS hk];rfl
    rw[h1];refine zCo ops.size (fun j hj=>?_);by_cases ej:j=i
    ·subst ej;exact .inr hk
    ·exact .inl (hpj j ej)
  ·show(foldS ops le σ0 L ops.size).nxt=_;rw[(zAK _).2.2,(zAK _).2.2]
  ·show(foldS ops le σ0 L ops.size).nt=_;rw[(zAK _).1,(zAK _).1]
  ·show(foldS ops le σ0 L ops.size).gh=_;rw[(zAK _).2.1,(zAK _).2.1]
 rw[←hres];exact hloc _ hJ hread hheap (by rw[(zAK _).1,(zAK _).1])
theorem zRJ(hchk:zAY ops sm=true)(hsm: ∀j,j<ops.size->sm.getD j ([],[])=((le j).tch++(le j).ups.map (·.1),(le j).ups.map (·.1)))
  {J:ASt->Prop} (hJ: ∀L,J (foldS ops le σ0 L ops.size)) (hloc: ∀j o,ops[j]? =some o->zRA J P ops (N+1000000*j) o (foldS ops le σ0 (fun _=>true) j) (le j)) {w0:World} {V S0:Nat->Prop} {gv:Nat->Value} {Q:Exit->Act->World->Prop}
  (hend: ∀a' w',zEN w0 V S0 gv (fun k=>k<N+1000000*ops.size) (foldS ops le σ0 (fun _=>true) ops.size) a' w'->Q .normal a' w'):
  ∀(fuel:Nat) (listed:Array Bool) (a:Act) (w:World),listed.size=ops.size->(∀j,listed.getD j true=true-> ∀d,d∈zD3 ops j->listed.getD d true=true)->cntL (fun j=>listed.getD j true) ops.size=fuel->zEN w0 V S0 gv (UL N ops.size (fun j=>listed.getD j true)) (foldS ops le σ0 (fun j=>listed.getD j true) ops.size) a w->wpAny P .any ops Q fuel listed a w:=by
 have hfwd: ∀j,j<ops.size-> ∀d,d∈zD3 ops j->d<j:=fun j hj d hd=>by
  unfold zAY at hchk;simp only[List.all_eq_true,Qz,List.mem_range,decide_eq_true_eq]at hchk;exact(hchk j hj).1 d hd
 have hall: ∀(listed:Array Bool),(∀j,j<ops.size->listed.getD j true=true)-> ∀a w,zEN w0 V S0 gv (UL N ops.size (fun j=>listed.getD j true)) (foldS ops le σ0 (fun j=>listed.getD j true) ops.size) a w->Q .normal a w:=fun listed h a w hR=>by
  refine hend a w ?_;have e1:UL N ops.size (fun j=>listed.getD j true)=(fun k=>k<N+1000000*ops.size):=by
   funext k;apply propext;unfold UL;constructor
   ·rintro(g|⟨j,g1,g2,g3,g4⟩)
    ·omega
    ·omega
   ·intro g;by_cases g2:k<N
    ·exact .inl g2
    ·exact .inr ⟨(k-N)/1000000,by omega,h _ (by omega),by omega,by omega⟩
  have e2:=zFE (ops:=ops) (le:=le) (σ0:=σ0) (L:=fun j=>listed.getD j true) (L':=fun _=>true) ops.size h;rw[e1,e2]at hR;exact hR
 intro fuel
 induction fuel with
 |zero=>
  intro listed a w hsz hcl hc hR;have h0:=zHS ops.size hc;refine⟨?_,hall listed h0 a w hR⟩
  cases hr:Region.ready .any ops listed with
  |nil=>rfl
  |cons i r=>
   have hi:i∈Region.ready .any ops listed:=by rw[hr];simp
   obtain⟨h1,h2,-⟩:=zDi.1 hi;have:=h0 i h1;rw[h2]at this
   cases this
 |succ fuel ih=>
  intro listed a w hsz hcl hc hR;refine⟨fun hr=>?_,fun i hi=>?_⟩
  ·refine hall listed ?_ a w hR;intro j
   induction j using Nat.strongRecOn with
   |ind j ihj=>
    intro hj
    cases hcj:listed.getD j true with
    |true=>rfl
    |false=>
     have:j∈Region.ready .any ops listed:=zDi.2 ⟨hj,hcj,fun d hd=>by
      have hdj:=hfwd j hj d hd;have:=ihj d hdj (by omega);have hds:d<listed.size:=by omega
      simp[Array.getD,hds]at this ⊢;exact this⟩
     rw[hr]at this
     cases this
  ·obtain⟨h1,h2,h3⟩:=zDi.1 hi;have hd: ∀d,d∈zD3 ops i->listed.getD d true=true:=fun d hdd=>by
    have:=h3 d hdd;by_cases hds:d<listed.size
    ·simp[Array.getD,hds]at this ⊢;exact this
    ·simp[Array.getD,hds]
   have ho:ops[i]? =some ops[i]:=by simp[h1]
   have hstep:=zNU (L:=fun j=>listed.getD j true) hchk hsm hcl ho h2 hd (hJ _) (hloc i _ ho);have e:(fun j=>(listed.setIfInBounds i true).getD j true)=zEP (fun j=>listed.getD j true) i:=by
    funext j;unfold zEP;by_cases hji:j=i
    ·subst hji;have:j<listed.size:=by omega
     simp[Array.getD,this]
    ·rw[if_neg hji];by_cases hjs:j<listed.size
     ·simp[Array.getD,hjs,Array.getElem_setIfInBounds_ne,Ne.symm hji]
     ·simp[Array.getD,hjs]
   have e': ∀j,(listed.setIfInBounds i true).getD j true=zEP (fun j=>listed.getD j true) i j:=fun j=>congrFun e j
   have hnew: ∀k,N+1000000*i<=k->k<N+1000000*i+1000000-> ¬UL N ops.size (fun j=>listed.getD j true) k:=fun k g1 g2=>by
    rintro(g|⟨j,g3,g4,g5,g6⟩)
    ·omega
    ·obtain rfl:j=i:=by omega
     have g4:listed.getD j true=true:=g4;rw[h2]at g4;cases g4
   have hu:(fun k=>UL N ops.size (fun j=>listed.getD j true) k\/(N+1000000*i<=k/\k<N+1000000*i+1000000))=UL N ops.size (zEP (fun j=>listed.getD j true) i):=by
    funext k;apply propext;unfold UL zEP;constructor
    ·rintro((g|⟨j,g3,g4,g5⟩)|g)
     ·exact .inl g
     ·refine .inr ⟨j,g3,?_,g5⟩;by_cases e:j=i
      ·simp[e]
      ·simpa[e]using g4
     ·exact .inr ⟨i,h1,by simp,g⟩
    ·rintro(g|⟨j,g3,g4,g5⟩)
     ·exact .inl (.inl g)
     ·by_cases e:j=i
      ·subst e;exact .inr g5
      ·exact .inl (.inr ⟨j,g3,by simpa[e]using g4,g5⟩)
   have hK:=hstep w0 V S0 gv _ a w hR hnew (wpAny P .any ops Q fuel (listed.setIfInBounds i true)) Q (fun a' w' hR'=>by
    rw[hu]at hR';refine ih _ a' w' (by simpa using hsz) (fun j hj d hdd=>?_) ?_ (by rw[e];exact hR')
    ·rw[e']at hj ⊢;unfold zEP at hj ⊢;by_cases hdi:d=i
     ·simp[hdi]
     ·rw[if_neg hdi];by_cases hji:j=i
      ·subst hji;exact hd d hdd
      ·rw[if_neg hji]at hj;exact hcl j hj d hdd
    ·rw[e];have:=zK4 (L:=fun j=>listed.getD j true) (i:=i) h2 ops.size h1;omega)
   unfold wpOp;rw[ho];split at hK
   ·rename_i hw;simp only[hw,if_true];exact .inl hK
   ·rename_i hw;simp only[hw];exact hK
end
def effU(e:Eff):List (Nat×Option AObj):=(match e.new with|some (i,o)=>[(i,some o)]|none=>[])++e.del.map fun d=>(d,none)
def wrE(e:Eff):List Nat:=(match e.new with|some (i,_)=>[i]|none=>[])++e.del
theorem zHx(e:Eff):(effU e).map (·.1)=wrE e:=by
 unfold effU wrE;have h:(e.del.map fun d=>(d,(none:Option AObj))).map (·.1)=e.del:=by rw[List.map_map];exact List.map_id _
 rw[List.map_append,h]
 cases e.new with
 |none=>rfl
 |some p=>rfl
theorem zIm: ∀(ds:List Nat) (H:Nat->Option AObj) (k:Nat),dels H ds k=if k∈ds then none else H k
 |[],H,k=>by simp[dels]
 |d::ds,H,k=>by
  unfold dels;rw[zIm ds];simp only[List.mem_cons,zKW];by_cases e:k∈ds<;>by_cases e2:k=d<;>simp[e,e2]
theorem zCC: ∀(ds:List Nat) (k:Nat),lk (ds.map fun d=>(d,(none:Option AObj))) k=if k∈ds then some none else none
 |[],k=>by simp[lk]
 |d::ds,k=>by
  simp only[List.map_cons,lk,zCC ds k,List.mem_cons];by_cases e:k=d<;>simp[e]
theorem zEw: ∀(a b:List (Nat×Option AObj)) (k:Nat),lk (a++b) k=(lk a k).or (lk b k)
 |[],b,k=>by simp[lk]
 |(x,y)::a,b,k=>by
  simp only[List.cons_append,lk,zEw a b k];by_cases e:k=x<;>simp[e]
theorem zO5(e:Eff)(H:Nat->Option AObj):e.heap H=fun k=>(lk (effU e) k).getD (H k):=by
 funext k;unfold Eff.heap effU
 cases hn:e.new with
 |none=>
  simp only[List.nil_append];rw[zIm,zCC];by_cases h:k∈e.del<;>simp[h]
 |some p=>
  obtain⟨i,o⟩:=p;simp only[zEw,lk,zKW];rw[zIm,zCC];by_cases h:k=i
  ·simp[h]
  ·by_cases h2:k∈e.del<;>simp[h,h2]
theorem zBT(σ:ASt)(dst:Option Tmp)(e:Eff):σ.app dst e=zCW σ dst ⟨e.val,effU e,e.tch⟩:=by
 unfold ASt.app zCW;rw[zO5]<;>rfl
theorem zBw{σ σ2:ASt}{ops:Array Oper}{o:Oper}(h: ∀t,t∈rdT ops o->σ2.env t=σ.env t): ∀x,x∈o.op.operands->σ2.eval x=σ.eval x:=fun x hx=>by
 cases x with
 |tmp t=>exact h t (by
   unfold rdT;rw[List.mem_append,List.mem_filterMap];exact .inl ⟨.tmp t,by simpa using hx,rfl⟩)
 |const v=>rfl
 |global g=>rfl
 |func f=>rfl
theorem zCq{σ σ2:ASt}{ops:Array Oper}{o:Oper}(h: ∀t,t∈rdT ops o->σ2.env t=σ.env t)(hn:σ2.nt=σ.nt):gd ops σ2 o=gd ops σ o:=by
 unfold gd
 cases hg:o.guard with
 |none=>rfl
 |some p=>
  obtain⟨j,want⟩:=p;simp only
  cases hd:(ops[j]?).bind (·.dst)with
  |none=>rfl
  |some d=>
   have:σ2.env d=σ.env d:=h d (by
    unfold rdT;rw[List.mem_append,hg];right;simp[hd])
   simp only[this,hn]
theorem zBG{σ σ2:ASt}{o:Oper}(hn:σ2.nt=σ.nt):zAt σ2 o=zAt σ o:=by unfold zAt;rw[hn]
def zCB(P:Program)(ops:Array Oper)(i:Nat)(o:Oper)(σ:ASt)(K:ASt->List Nat×List Nat->Prop):Prop:=∃l,zTy P ops i o σ l/\K (zCW σ o.dst l) (l.tch++l.ups.map (·.1),l.ups.map (·.1))
def awpOpD(P:Program)(ops:Array Oper)(i:Nat)(o:Oper)(σ:ASt)(K:ASt->List Nat×List Nat->Prop):Prop:=match gd ops σ o with
 |some true=>match aop P i o.op σ.eval σ.heap with
  |some (c,eff)=>c=true/\zAt σ o=true/\K (σ.app o.dst eff) (eff.tch++wrE eff,wrE eff)
  |none=>zCB P ops i o σ K
 |some false=>zAt σ o=true/\K (σ.app o.dst { val:=.tup [] }) ([],[])
 |none=>False
theorem zHR{P:Program}{ops:Array Oper}{i:Nat}{o:Oper}{σ:ASt}{K:ASt->List Nat×List Nat->Prop}(h:awpOpD P ops i o σ K):zCB P ops i o σ K:=by
 unfold awpOpD at h;split at h
 ·rename_i hg;split at h
  ·rename_i c eff he;obtain⟨h1,h2,h3⟩:=h;refine⟨⟨eff.val,effU eff,eff.tch⟩,fun σ2 q1 q2 q3=>?_,?_⟩
   ·have he2:=zHe he (zBw q1) q2;rw[←zBT];intro w0 V S0 gv U a w hR hi K' Q hK;have hR':=hR;obtain⟨ob,m1,m2,m3,m4,m5⟩:=hR';rw[if_pos (zA0 (by rw[zCq q1 q3];exact hg) m2 m4)];exact hR.zUW (by rw[zBG q3];exact h2) (fun ob m1 m2=>zME he2 h1 m1 (hi i (Qy _) (by omega)) (fun x=>VR.eval m1.glE m2 x)) hK
   ·rw[←zBT];show K _ (eff.tch++(effU eff).map (·.1),(effU eff).map (·.1));rw[zHx];exact h3
  ·exact h
 ·rename_i hg;refine⟨⟨.tup [],[],[]⟩,fun σ2 q1 q2 q3=>?_,?_⟩
  ·have e:zCW σ2 o.dst ⟨.tup [],[],[]⟩=σ2.app o.dst { val:=.tup [] }:=by rw[zBT];rfl
   rw[e];intro w0 V S0 gv U a w hR hi K' Q hK;obtain⟨ob,m1,m2,m3,m4,m5⟩:=hR;rw[if_neg (by rw[zA0 (by rw[zCq q1 q3];exact hg) m2 m4];simp)];refine hK _ _ ?_;obtain⟨h5,h6⟩:=m1.used (U':=fun k=>U k\/(i<=k/\k<i+1000000)) (fun k hk=>.inl hk);exact zEN.zRl (σ:=σ2) (o:=o) (v:=undef) (x:=.tup []) h5 (fun t=>(m2 t).ext h6) m3 m4 (m5.ext h6) (by rw[zBG q3];exact h.1) (.tup #[] [] rfl (fun i c h=>by simp at h))
  ·have e:zCW σ o.dst ⟨.tup [],[],[]⟩=σ.app o.dst { val:=.tup [] }:=by rw[zBT];rfl
   rw[e];exact h.2
 ·exact h.elim
def zJt(P:Program)(ops:Array Oper)(N:Nat):List Oper->Nat->ASt->List (List Nat×List Nat)->(ASt->Prop)->Prop
 |[],k,σ,sm,K=>zAY ops sm=true/\K { σ with nxt:=N+k }
 |o::r,k,σ,sm,K=>awpOpD P ops (N+k) o σ (fun σ' s=>zJt P ops N r (k+1000000) σ' (sm++[s]) K)
def leL(les:List LE)(j:Nat):LE:=les.getD j ⟨.tup [],[],[]⟩
theorem zGZ{ops:Array Oper}{le le':Nat->LE}{σ0:ASt}{L:Nat->Bool}: ∀n,(∀j,j<n->le j=le' j)->foldS ops le σ0 L n=foldS ops le' σ0 L n
 |0,_=>rfl
 |n+1,h=>by
  unfold foldS;rw[zGZ n (fun j hj=>h j (by omega)),h n (by omega)]
theorem zC7{les:List LE}{l:LE}{j:Nat}(h:j<les.length):leL (les++[l]) j=leL les j:=by
 unfold leL;rw[Qv,Qw h,Qv]
theorem zC5(les:List LE)(l:LE):leL (les++[l]) les.length=l:=by simp[leL]
theorem zEy{P:Program}{ops:Array Oper}{N:Nat}{σ0:ASt}{K:ASt->Prop}: ∀(l:List Oper) (les:List LE) (sm:List (List Nat×List Nat)) (σ:ASt),zJt P ops N l (1000000*les.length) σ sm K->les.length<=ops.size->(∀j,ops[les.length+j]? =l[j]?)->σ=foldS ops (leL les) σ0 (fun _=>true) les.length→
  (∀j o,j<les.length->ops[j]? =some o->zTy P ops (N+1000000*j) o (foldS ops (leL les) σ0 (fun _=>true) j) (leL les j))->sm.length=les.length->(∀j,j<les.length->sm.getD j ([],[])=((leL les j).tch++(leL les j).ups.map (·.1),(leL les j).ups.map (·.1)))→
  ∃les' sm',les'.length=ops.size/\K { foldS ops (leL les') σ0 (fun _=>true) ops.size with nxt:=N+1000000*ops.size }/\zAY ops sm'=true/\(∀j,j<ops.size->sm'.getD j ([],[])=((leL les' j).tch++(leL les' j).ups.map (·.1),(leL les' j).ups.map (·.1)))/\ ∀j o,ops[j]? =some o->zTy P ops (N+1000000*j) o (foldS ops (leL les') σ0 (fun _=>true) j) (leL les' j)
 |[],les,sm,σ,h,hle,hops,hσ,hloc,hsl,hsm=>by
  have hsz:les.length=ops.size:=by
   have h1:=hops 0;simp at h1;omega
  obtain⟨h1,h2⟩:=h;refine⟨les,sm,hsz,?_,h1,fun j hj=>hsm j (by omega),fun j o ho=>hloc j o (by rw[hsz];exact(Array.getElem?_eq_some_iff.1 ho).1) ho⟩;rw[←hsz,←hσ];exact h2
 |o::r,les,sm,σ,h,hle,hops,hσ,hloc,hsl,hsm=>by
  obtain⟨l,h1,h2⟩:=zHR h;have ho:ops[les.length]? =some o:=by simpa using hops 0
  have hlen:(les++[l]).length=les.length+1:=by simp
  have hfold: ∀n,n<=les.length->foldS ops (leL (les++[l])) σ0 (fun _=>true) n=foldS ops (leL les) σ0 (fun _=>true) n:=fun n hn=>zGZ n (fun j hj=>zC7 (by omega))
  have hlt:=(Array.getElem?_eq_some_iff.1 ho).1;refine zEy r (les++[l]) (sm++[(l.tch++l.ups.map (·.1),l.ups.map (·.1))]) (zCW σ o.dst l) ?_ (by rw[hlen];omega) (fun j=>?_) ?_ (fun j o' hj hoj=>?_) (by simp[hsl]) (fun j hj=>?_)
  ·rw[hlen,show 1000000*(les.length+1)=1000000*les.length+1000000 by omega];exact h2
  ·rw[hlen,show les.length+1+j=les.length+(j+1) by omega,hops (j+1)];simp
  ·rw[hlen];show _=if true=true then _ else _
   rw[if_pos rfl,hfold _ (Qy _),zC5,←hσ];unfold zEA;rw[ho];rfl
  ·rw[hlen]at hj;rw[hfold j (by omega)];by_cases e:j<les.length
   ·rw[zC7 e];exact hloc j o' e hoj
   ·obtain rfl:j=les.length:=by omega
    rw[ho]at hoj;injection hoj with hoj;subst hoj;rw[zC5,←hσ];exact h1
  ·rw[hlen]at hj;by_cases e:j<les.length
   ·rw[zC7 e,Qv,Qw (by omega),←Qv];exact hsm j e
   ·obtain rfl:j=les.length:=by omega
    rw[zC5,Qv,Qa (by omega)];simp[hsl]
theorem zHN{P:Program}{Q:Exit->ASt->Prop}{σ:ASt}{id:Nat}{ops:Array Oper}(hm:P.follows .mixedOrders=true){les:List LE}{sm:List (List Nat×List Nat)}(h2:Q .normal { foldS ops (leL les) σ (fun _=>true) ops.size with nxt:=σ.nxt+1000000*ops.size })(h3:zAY ops sm=true)
  (h4: ∀j,j<ops.size->sm.getD j ([],[])=((leL les j).tch++(leL les j).ups.map (·.1),(leL les j).ups.map (·.1))) {J:ASt->Prop} (hJ: ∀L,J (foldS ops (leL les) σ L ops.size)) (h5: ∀j o,ops[j]? =some o->zRA J P ops (σ.nxt+1000000*j) o (foldS ops (leL les) σ (fun _=>true) j) (leL les j)):awp P (.region id ops true) Q σ:=by
 refine⟨.normal,_,?_,h2⟩;intro w0 V S0 gv a w hR;refine wp_region_any hm ?_;have hR2:zEN w0 V S0 gv (fun k=>k<σ.nxt) σ a w.drew:=by
  obtain⟨ob,m1,m2,m3,m4,m5⟩:=hR;obtain⟨q1,q2⟩:=m1.quiet (Onl.drew _ w);exact⟨ob,q1,fun t=>(m2 t).ext q2,m3,m4,m5.ext q2⟩
 have hlf: ∀j,j<ops.size->(Array.replicate ops.size false).getD j true=false:=fun j hj=>by simp[Array.getD,hj]
 have hz: ∀n,n<=ops.size->cntL (fun j=>(Array.replicate ops.size false).getD j true) n=n:=by
  intro n
  induction n with
  |zero=>intro _;rfl
  |succ n ih=>
   intro hn;unfold cntL;simp only[ih (by omega),hlf n (by omega)];rfl
 have hf: ∀n,n<=ops.size->foldS ops (leL les) σ (fun j=>(Array.replicate ops.size false).getD j true) n=σ:=by
  intro n
  induction n with
  |zero=>intro _;rfl
  |succ n ih=>
   intro hn;unfold foldS;simp only[hlf n (by omega)];exact ih (by omega)
 have hU:UL σ.nxt ops.size (fun j=>(Array.replicate ops.size false).getD j true)=(fun k=>k<σ.nxt):=by
  funext k;apply propext;unfold UL;constructor
  ·rintro(g|⟨j,g1,g2,-⟩)
   ·exact g
   ·have g2:(Array.replicate ops.size false).getD j true=true:=g2;rw[hlf j g1]at g2;cases g2
  ·exact .inl
 refine zRJ (N:=σ.nxt) h3 h4 hJ h5 (fun a' w' hR'=>⟨rfl,hR'⟩) ops.size _ a w.drew (by simp) (fun j hj d hd=>?_) (hz _ (Qy _)) (by rw[hf _ (Qy _),hU];exact hR2);by_cases hjs:j<ops.size
 ·rw[hlf j hjs]at hj;cases hj
 ·unfold zD3 at hd;rw[Array.getElem?_eq_none (by omega)]at hd;simp at hd
theorem zE4{P:Program}{Q:Exit->ASt->Prop}{σ:ASt}{id:Nat}{ops:Array Oper}(hm:P.follows .mixedOrders=true)(h:zJt P ops σ.nxt ops.toList 0 σ [] (Q .normal)):awp P (.region id ops true) Q σ:=by
 obtain⟨les,sm,h1,h2,h3,h4,h5⟩:=zEy (σ0:=σ) ops.toList [] [] σ h (by simp) (fun j=>by simp) rfl (fun j o hj=>by simp at hj) rfl (fun j hj=>by simp at hj);exact zHN hm h2 h3 h4 (J:=fun _=>True) (fun _=>trivial) (fun j o ho=>(h5 j o ho).J)
theorem zg{P:Program}{Q:Exit->ASt->Prop}{σ:ASt}{id:Nat}{ops:Array Oper}{y:Code}(hm:P.follows .mixedOrders=true)(h: ∀K:ASt->Prop,(∀σ',awp P y Q σ'->K σ')->zJt P ops σ.nxt ops.toList 0 σ [] K):awp P (.seq (.region id ops true) y) Q σ:=
 zA (zE4 hm (h _ (fun _ h=>h)))
theorem zAW{P:Program}{Q:Exit->ASt->Prop}{σ:ASt}{id:Nat}{ops:Array Oper}(hm:P.follows .mixedOrders=true)(h: ∀K:ASt->Prop,(∀σ',Q .normal σ'->K σ')->zJt P ops σ.nxt ops.toList 0 σ [] K):awp P (.region id ops true) Q σ:=
 zE4 hm (h _ (fun _ h=>h))
def zGn(H:Nat->Option AObj)(k:Nat):List Nat:=match H k with
 |some (.box _ cs)=>refsVs cs
 |some (.vec _ _ _ cs)=>refsVs cs
 |_=>[]
def cU(pi po:List Nat)(q:Nat)(H':List AObj):List (Nat×Option AObj):=((po.zip (H'.map (outO po q))).map fun p=>(p.1,some p.2))++pi.map fun d=>(d,none)
theorem lk_zip: ∀(po:List Nat) (xs:List AObj) (k:Nat),po.length=xs.length->lk ((po.zip xs).map fun p=>(p.1,some p.2)) k=match idx po k with|some j=>(xs[j]?).map some|none=>none
 |[],[],k,_=>rfl
 |[],_::_,_,h=>by simp at h
 |_::_,[],_,h=>by simp at h
 |a::r,x::xs,k,h=>by
  simp only[List.zip_cons_cons,List.map_cons,lk,idx];by_cases e:k=a
  ·simp[e]
  ·rw[if_neg e,if_neg e,lk_zip r xs k (by simpa using h)]
   cases idx r k with
   |none=>rfl
   |some j=>simp
theorem zS8{po:List Nat}{k j:Nat}(h:idx po k=some j):j<po.length:=(Qq.1 (zDy h)).1
theorem zCp{σ:ASt}{dst:Option Tmp}{pi po:List Nat}{q:Nat}{res:AV}{H':List AObj}(hl:po.length=H'.length)(tc:List Nat):callS σ dst pi po q res H'=zCW σ dst ⟨outV po q res,cU pi po q H',tc⟩:=by
 refine ASt.ext' (fun t=>rfl) (fun k=>?_) rfl rfl rfl;show zBn σ.heap H' pi po q k=(lk (cU pi po q H') k).getD (σ.heap k);rw[zGi hl];unfold cU;rw[zEw,lk_zip _ _ _ (by simpa using hl),zCC]
 cases hq:idx po k with
 |none=>
  simp only[Option.none_or];by_cases e:k∈pi<;>simp[e]
 |some j=>
  have hj:j<H'.length:=by rw[←hl];exact zS8 hq
  simp[hj]
theorem zNI{H H2:Nat->Option AObj}{pi:List Nat}{q:Nat}{k:Nat}{o:AObj}(h:inO H pi q (H k) o)(hk:H2 k=H k)(hr: ∀j,j∈zGn H k->H2 j=H j):inO H2 pi q (H2 k) o:=by
 rw[hk];unfold inO at h ⊢;split at h
 ·exact h
 ·rename_i ty cs ty' ds hH;exact⟨h.1,zBC _ _ h.2 (fun j hj=>hr j (by unfold zGn;rw[hH];exact hj))⟩
 ·exact h
 ·exact h
 ·rename_i e z p cs e' z' p' ds hH;exact⟨h.1,h.2.1,h.2.2.1,zBC _ _ h.2.2.2 (fun j hj=>hr j (by unfold zGn;rw[hH];exact hj))⟩
 ·exact h.elim
theorem zDz{H H2:Nat->Option AObj}{pi:List Nat}{q:Nat}: ∀{ks:List Nat} {os:List AObj},inOs H pi q ks os->(∀k,k∈ks->H2 k=H k)->(∀k,k∈ks-> ∀j,j∈zGn H k->H2 j=H j)->inOs H2 pi q ks os
 |[],[],_,_,_=>trivial
 |k::ks,o::os,h,h1,h2=>⟨zNI h.1 (h1 k (by simp)) (h2 k (by simp)),zDz h.2 (fun j hj=>h1 j (by simp[hj])) (fun j hj=>h2 j (by simp[hj]))⟩
 |[],_::_,h,_,_=>h.elim
 |_::_,[],h,_,_=>h.elim
theorem zM{P:Program}{ops:Array Oper}{i:Nat}{o:Oper}{σ:ASt}{K:ASt->List Nat×List Nat->Prop}{cl:Call}{fo:Operand}{f:FuncId}{caps:List AV}{args:List AV}{H H':List AObj}{res:AV}(hspec:FnS P f args H res H')(pi po:List Nat)(q:Nat)
  (hg:gd ops σ o=some true) (hop:o.op= .call cl) (hc:cl.callee= .value fo) (hfo:σ.eval fo= .fn f caps) (hb:zBy P f=true) (hd:zAt σ o=true)
  (hargs:inPs σ.heap pi q (cl.args.toList.map σ.eval++caps) args) (hobj:inOs σ.heap pi q pi H) (hndi:ndL pi) (hlen:po.length=H'.length) (hndo:ndL po) (hpo:zSL i pi args H H' 0 po) (hok:H'.all okO=true)
  (hK:K (callS σ o.dst pi po q res H') ((pi++po++refsVs (cl.args.toList.map σ.eval++caps)++pi.flatMap (zGn σ.heap))++(po++pi),po++pi)):zCB P ops i o σ K:=by
 have hkeys:(cU pi po q H').map (·.1)=po++pi:=by
  unfold cU;rw[List.map_append,List.map_map,List.map_map];congr 1
  ·have:((·.1)∘fun(p:Nat×AObj)=>(p.1,some p.2))=Prod.fst:=rfl;show List.map ((fun x=>x.1)∘fun(p:Nat×AObj)=>(p.1,some p.2)) _=po;rw[show((fun(x:Nat×Option AObj)=>x.1)∘fun(p:Nat×AObj)=>(p.1,some p.2))=Prod.fst from rfl];exact List.map_fst_zip (by simpa using Nat.le_of_eq hlen)
  ·exact List.map_id _
 refine⟨⟨outV po q res,cU pi po q H',pi++po++refsVs (cl.args.toList.map σ.eval++caps)++pi.flatMap (zGn σ.heap)⟩,fun σ2 q1 q2 q3=>?_,?_⟩
 ·have hev:=zBw q1;rw[←zCp hlen];have hops: ∀x,x∈cl.args.toList->σ2.eval x=σ.eval x:=fun x hx=>hev x (by rw[hop];simp[Op.operands,Call.operands];exact .inr (by simpa using hx))
  have hmap:cl.args.toList.map σ2.eval=cl.args.toList.map σ.eval:=List.map_congr_left hops;have hfo2:σ2.eval fo= .fn f caps:=by rw[hev fo (by rw[hop];simp[Op.operands,Call.operands,hc])];exact hfo
  refine zND pi po q (by rw[zCq q1 q3];exact hg) hop hc hfo2 hb hspec (by rw[zBG q3];exact hd) ?_ ?_ hndi hlen hndo hpo hok
  ·rw[hmap];exact zBC _ _ hargs (fun k hk=>q2 k (by simp only[List.mem_append];exact .inl (.inr hk)))
  ·exact zDz hobj (fun k hk=>q2 k (by simp only[List.mem_append];exact .inl (.inl (.inl hk)))) (fun k hk j hj=>q2 j (by simp only[List.mem_append,List.mem_flatMap];exact .inr ⟨k,hk,hj⟩))
 ·rw[←zCp hlen];show K _ (_++(cU pi po q H').map (·.1),(cU pi po q H').map (·.1));rw[hkeys];exact hK
def KL(P:Program)(ops:Array Oper)(N:Nat)(r:List Oper)(k:Nat)(K:ASt->Prop):ASt->Prop:=fun σ=>awpL P ops N r k σ K
def KD(P:Program)(ops:Array Oper)(N:Nat)(r:List Oper)(k:Nat)(sm:List (List Nat×List Nat))(K:ASt->Prop):ASt->List Nat×List Nat->Prop:=fun σ s=>zJt P ops N r k σ (sm++[s]) K
theorem zP4(P:Program)(ops:Array Oper)(N:Nat)(r:List Oper)(k:Nat)(K:ASt->Prop)(σ:ASt):KL P ops N r k K σ=awpL P ops N r k σ K:=rfl
theorem zVJ(P:Program)(ops:Array Oper)(N:Nat)(r:List Oper)(k:Nat)(sm:List (List Nat×List Nat))(K:ASt->Prop)(σ:ASt)(s:List Nat×List Nat):KD P ops N r k sm K σ s=zJt P ops N r k σ (sm++[s]) K:=rfl
theorem zEU(P:Program)(ops:Array Oper)(N k:Nat)(σ:ASt)(K:ASt->Prop):awpL P ops N [] k σ K=K { σ with nxt:=N+k }:=rfl
theorem zDF(P:Program)(ops:Array Oper)(N k:Nat)(o:Oper)(r:List Oper)(σ:ASt)(K:ASt->Prop):awpL P ops N (o::r) k σ K=awpOp P ops (N+k) o σ (KL P ops N r (k+1000000) K):=rfl
theorem zP7(P:Program)(ops:Array Oper)(N k:Nat)(σ:ASt)(sm:List (List Nat×List Nat))(K:ASt->Prop):zJt P ops N [] k σ sm K=(zAY ops sm=true/\K { σ with nxt:=N+k }):=rfl
theorem zOP(P:Program)(ops:Array Oper)(N k:Nat)(o:Oper)(r:List Oper)(σ:ASt)(sm:List (List Nat×List Nat))(K:ASt->Prop):zJt P ops N (o::r) k σ sm K=awpOpD P ops (N+k) o σ (KD P ops N r (k+1000000) sm K):=rfl
theorem zCK{α:Type}(f:Nat->α)(i:Nat)(x:α)(j:Nat):upd f i x j=bif (j==i)then x else f j:=by
 by_cases h:j=i
 ·subst h;simp[upd]
 ·simp[upd,h,beq_eq_false_iff_ne.2 h]
theorem zAH(t:Nat):envOf [] t= .any:=rfl
theorem zAA(k:Nat)(v:AV)(r:List (Nat×AV))(t:Nat):envOf ((k,v)::r) t=bif (t==k)then v else envOf r t:=by
 by_cases h:t=k
 ·subst h;simp[envOf]
 ·simp[envOf,h,beq_eq_false_iff_ne.2 h]
theorem zAC(t:Nat):heapOf [] t=none:=rfl
theorem zx(k:Nat)(v:AObj)(r:List (Nat×AObj))(t:Nat):heapOf ((k,v)::r) t=bif (t==k)then some v else heapOf r t:=by
 by_cases h:t=k
 ·subst h;simp[heapOf]
 ·simp[heapOf,h,beq_eq_false_iff_ne.2 h]
theorem zAi(t:Nat):mpOf [] t=none:=rfl
theorem zAL(k:Nat)(v:Option Nat)(r:List (Nat×Option Nat))(t:Nat):mpOf ((k,v)::r) t=bif (t==k)then v else mpOf r t:=by
 by_cases h:t=k
 ·subst h;simp[mpOf]
 ·simp[mpOf,h,beq_eq_false_iff_ne.2 h]
/-! ## Many own objects that come back from a call -/
def tab{α:Type}(n:Nat)(F:Nat->α):List α:=(List.range n).map F
@[simp] theorem zAD{α:Type}(n:Nat)(F:Nat->α):(tab n F).length=n:=by simp[tab]
@[simp] theorem zO{α:Type}{n:Nat}(F:Nat->α){k:Nat}(h:k<n):(tab n F)[k]? =some (F k):=by simp[tab,h]
theorem zBd{α:Type}{n:Nat}(F:Nat->α){k:Nat}(h:n<=k):(tab n F)[k]? =none:=by simp[tab,h]
def ovr(b n:Nat)(G:Nat->AObj)(H:Nat->Option AObj)(k:Nat):Option AObj:=if k<b then H k else if k-b<n then some (G (k-b))else H k
theorem zBk(b n:Nat)(G:Nat->AObj)(H:Nat->Option AObj){k:Nat}(h:k<b):ovr b n G H k=H k:=by unfold ovr;rw[if_pos h]
theorem zB3(b n:Nat)(G:Nat->AObj)(H:Nat->Option AObj){j:Nat}(h:j<n):ovr b n G H (b+j)=some (G j):=by
 unfold ovr;rw[if_neg (by omega),if_pos (by omega)];congr 2;omega
theorem zBF(hl:List (Nat×AObj))(base n:Nat)(F:Nat->AObj){k:Nat}(h:k<base):zDx hl base n F k=heapOf hl k:=by unfold zDx;rw[if_pos h]
theorem zAu(hl:List (Nat×AObj))(base n:Nat)(F:Nat->AObj){j:Nat}(h:j<n):zDx hl base n F (base+j)=some (F j):=by
 unfold zDx;rw[if_neg (by omega),if_pos (by omega)];congr 2;omega
theorem zBE(mp:List (Nat×Option Nat))(base n:Nat)(g:Nat->Nat){k:Nat}(h:k<base):zBm mp base n g k=mpOf mp k:=by unfold zBm;rw[if_pos h]
theorem zA5(mp:List (Nat×Option Nat))(base n:Nat)(g:Nat->Nat){j:Nat}(h:j<n):zBm mp base n g (base+j)=some (g j):=by
 unfold zBm;rw[if_neg (by omega),if_pos (by omega)];congr 2;omega
def poF(ph:List Nat)(b n:Nat):List Nat:=ph++tab n fun j=>b+j
theorem zQy{ph:List Nat}{b n j:Nat}(h:j<n):(poF ph b n).getD (ph.length+j) 0=b+j:=by
 unfold poF;rw[Qv,Qa (by omega),show ph.length+j-ph.length=j by omega,zO _ h];rfl
theorem zCV{ph:List Nat}{b n j k:Nat}(h:(poF ph b n)[j]? =some k):(j<ph.length/\ph[j]? =some k)\/(ph.length<=j/\j-ph.length<n/\k=b+(j-ph.length)):=by
 unfold poF at h;by_cases hj:j<ph.length
 ·rw[Qw hj]at h;exact .inl ⟨hj,h⟩
 ·rw[Qa (by omega)]at h;have h2:=(Qq.1 h).1;rw[zAD]at h2;rw[zO _ h2]at h;injection h with h;exact .inr ⟨by omega,h2,h.symm⟩
theorem zKO: ∀{l:List Nat},(∀(i j:Nat) k,l[i]? =some k->l[j]? =some k->i=j)->ndL l
 |[],_=>trivial
 |a::r,h=>by
  refine⟨fun ha=>?_,zKO (fun i j k hi hj=>?_)⟩
  ·obtain⟨i,hi,e⟩:=Qb ha;have:=h 0 (i+1) a rfl (by simp[hi,e]);omega
  ·have:=h (i+1) (j+1) k (by simpa using hi) (by simpa using hj);omega
theorem zNi{i:Nat}{pi:List Nat}{args:List AV}{H H':List AObj}: ∀{po:List Nat} {j0:Nat},(∀(j:Nat) k,po[j]? =some k->(i<=k/\k<i+1000000)\/(pi[j0+j]? =some k/\ ∃(t c ty:Nat) (cs:List AV) (ty':Nat) (cs':List AV),args[t]? =some (AV.ptr (j0+j) 0 c)/\H[j0+j]? =some (AObj.box ty cs)/\cs.length=c/\H'[j0+j]? =some (AObj.box ty' cs')/\cs'.length=c))->zSL i pi args H H' j0 po
 |[],j0,_=>trivial
 |a::r,j0,h=>by
  refine⟨h 0 a rfl,zNi (fun j k hj=>?_)⟩;have:=h (j+1) k (by simpa using hj);rw[show j0+(j+1)=j0+1+j by omega]at this;exact this
def callF(σ:ASt)(dst:Option Tmp)(pi ph:List Nat)(b n q:Nat)(res:AV)(hd:List AObj)(F:Nat->AObj):ASt:={ σ with env:=match dst with|some d=>upd σ.env d (outV (poF ph b n) q res)|none=>σ.env,heap:=ovr b n (fun j=>outO (poF ph b n) q (F j)) (addL (delL σ.heap pi) (ph.zip (hd.map (outO (poF ph b n) q)))) }
theorem zGa{σ:ASt}{dst:Option Tmp}{pi ph:List Nat}{b n q:Nat}{res:AV}{hd:List AObj}{F:Nat->AObj}(hl:ph.length=hd.length)(hb: ∀k,k∈ph->k<b):callS σ dst pi (poF ph b n) q res (hd++tab n F)=callF σ dst pi ph b n q res hd F:=by
 have hnd: ∀(m:Nat) (k:Nat) (f:Nat->Option AObj) (G:Nat->AObj),addL f ((tab m fun j=>b+j).zip (tab m G)) k=if k<b then f k else if k-b<m then some (G (k-b))else f k:=fun m k f G=>by
  have hnd2:ndL (tab m fun j=>b+j):=zKO (fun i j k hi hj=>by
   have a1:=(Qq.1 hi).1;have a2:=(Qq.1 hj).1;rw[zAD]at a1 a2;rw[zO _ a1]at hi;rw[zO _ a2]at hj;injection hi with hi;injection hj with hj;omega)
  rw[addL_zip _ _ _ _ (by simp)]
  cases hq:idx (tab m fun j=>b+j) k with
  |none=>
   by_cases h1:k<b
   ·rw[if_pos h1]
   ·rw[if_neg h1];by_cases h2:k-b<m
    ·have:=zJ5 hnd2 (k:=k) (j:=k-b) (by rw[zO _ h2];congr 1;omega);rw[hq]at this;cases this
    ·rw[if_neg h2]
  |some j=>
   have hj:=zDy hq;have a1:=(Qq.1 hj).1;rw[zAD]at a1;rw[zO _ a1]at hj;injection hj with hj;show(tab m G)[j]? =_;rw[zO _ a1,if_neg (by omega),if_pos (by omega)];congr 2;omega
 have hzip: ∀(po:List Nat) (q':Nat),(poF ph b n).zip ((hd++tab n F).map (outO po q'))=ph.zip (hd.map (outO po q'))++(tab n fun j=>b+j).zip (tab n fun j=>outO po q' (F j)):=fun po q'=>by
  unfold poF;rw[List.map_append,List.zip_append (by simpa using hl)];congr 2;unfold tab;simp[Function.comp_def]
 have hadd: ∀(l1 l2:List (Nat×AObj)) (f:Nat->Option AObj),addL f (l1++l2)=addL (addL f l2) l1:=fun l1=>by
  induction l1 with
  |nil=>intro l2 f;rfl
  |cons x r ih=>intro l2 f;obtain⟨k,y⟩:=x;simp only[List.cons_append,addL,ih]
 refine ASt.ext' (fun t=>rfl) (fun k=>?_) rfl rfl rfl;show zBn σ.heap (hd++tab n F) pi (poF ph b n) q k=ovr b n (fun j=>outO (poF ph b n) q (F j)) (addL (delL σ.heap pi) (ph.zip (hd.map (outO (poF ph b n) q)))) k;unfold zBn;have hP:=addL_zip (delL σ.heap pi) ph (hd.map (outO (poF ph b n) q)) k (by simp[hl]);rw[hzip,hadd,addL_zip _ _ _ _ (by simp[hl])];unfold ovr;rw[hP]
 cases hq:idx ph k with
 |none=>
  rw[hq]at hP;simp only;exact hnd n k _ _
 |some j=>
  have:=hb k (Qc (zDy hq));simp only;rw[if_pos this]
theorem zFX{P:Program}{ops:Array Oper}{i:Nat}{o:Oper}{σ:ASt}{K:ASt->Prop}{cl:Call}{fo:Operand}{f:FuncId}{caps:List AV}{args:List AV}{H hd:List AObj}{n:Nat}{F:Nat->AObj}{res:AV}(hspec:FnS P f args H res (hd++tab n F))(pi ph:List Nat)(b q:Nat)
  (hg:gd ops σ o=some true) (hop:o.op= .call cl) (hc:cl.callee= .value fo) (hfo:σ.eval fo= .fn f caps) (hb:zBy P f=true) (hd':zAt σ o=true)
  (hargs:inPs σ.heap pi q (cl.args.toList.map σ.eval++caps) args) (hobj:inOs σ.heap pi q pi H) (hndi:ndL pi) (hlen:ph.length=hd.length) (hndo:ndL ph) (hpo:zSL i pi args H hd 0 ph) (hbb:i<=b/\b+n<=i+1000000) (hlt: ∀k,k∈ph->k<b) (hok:hd.all okO=true) (hok2: ∀j,j<n->okO (F j)=true)
  (hK:K (callF σ o.dst pi ph b n q res hd F)):zDo P ops i o σ K:=by
 refine zD (K:=K) hspec pi (poF ph b n) q hg hop hc hfo hb hd' hargs hobj hndi (by simp[poF,hlen]) (zKO (fun x y k hx hy=>?_)) (zNi (fun j k hj=>?_)) ?_ (by rw[zGa hlen hlt];exact hK)
 ·rcases zCV hx with⟨a1,a2⟩|⟨a1,a2,a3⟩<;>rcases zCV hy with⟨b1,b2⟩|⟨b1,b2,b3⟩
  ·exact zGP hndo a2 b2
  ·have:=hlt k (Qc a2);omega
  ·have:=hlt k (Qc b2);omega
  ·omega
 ·rcases zCV hj with⟨a1,a2⟩|⟨a1,a2,a3⟩
  ·rcases zGk hpo j k a2 with g|⟨g,t,c,ty,cs,ty',cs',g1,g2,g3,g4,g5⟩
   ·exact .inl g
   ·exact .inr ⟨g,t,c,ty,cs,ty',cs',g1,g2,g3,by rw[Qw (by omega)];exact g4,g5⟩
  ·exact .inl (by omega)
 ·rw[List.all_append,Qz];refine⟨hok,List.all_eq_true.2 fun x hx=>?_⟩;obtain⟨j,hj,rfl⟩:=Qb hx;rw[zAD]at hj;have:=zO F hj;rw[Qj (by simpa using hj)]at this;injection this with this;rw[this];exact hok2 j hj
theorem zH0{P:Program}{rs:List ResultVar}{res:AV}{hd:List AObj}{n:Nat}{F:Nat->AObj}{e:Exit}{σ:ASt}(mp:List (Nat×Option Nat))(g:Nat->Nat)(he:e= .normal\/e= .ret)(hh:wkH σ (zBm mp hd.length n g) (zCI mp n g) (hd.length+n) (idxF 0 hd) mp)(hn:keysNd mp)(hg:wkPs σ.heap (zBm mp hd.length n g) (zCI mp n g) (hd.length+n) σ.gh σ.gh)
  (hF: ∀j,j<n->unm mp (g j)/\wkO σ.heap (zBm mp hd.length n g) (zCI mp n g) (hd.length+n) (some (g j)) (F j)) (hi: ∀i j,i<n->j<n->g i=g j->i=j) (l:List AV)
  (hm:match l,res with
   |[a],r=>wkP σ.heap (zBm mp hd.length n g) (zCI mp n g) (hd.length+n) a r
   |l,.tup bs=>l.length≠1/\wkPs σ.heap (zBm mp hd.length n g) (zCI mp n g) (hd.length+n) l bs
   |_,_=>False) (hl:resV P σ rs=some l): ∃m un,resG P rs res (hd++tab n F) m un e σ:=by
 have hlen:(hd++tab n F).length=hd.length+n:=by simp
 have hheap: ∀id,(hd++tab n F)[id]? =zDx (idxF 0 hd) hd.length n F id:=fun id=>by
  unfold zDx;rw[zCt];by_cases h1:id<hd.length
  ·rw[if_pos h1,Qw h1];simp
  ·rw[if_neg h1,Qa (by omega)];by_cases h2:id-hd.length<n
   ·rw[if_pos h2,zO _ h2]
   ·rw[if_neg h2,zBd _ (by omega)]
 have key:=zH8 (σ:=σ) (hl:=idxF 0 hd) (base:=hd.length) (n:=n) (F:=F) (nx:=hd.length+n) mp g hh hn (fun j hj=>⟨by omega,hF j hj⟩) hi;refine⟨zBm mp hd.length n g,zCI mp n g,he,fun id o ho=>?_,⟨fun h1 h2=>key.2.inj h1 h2,fun h=>key.2.un h,fun {id} h=>?_⟩,by rw[hlen];exact hg,l,hl,by rw[hlen];exact hm⟩
 ·rw[hlen];rw[hheap]at ho;exact(key.1 id o ho).2
 ·have h:(hd++tab n F)[id]? =none:=h;rw[hheap]at h;exact key.2.no h
def FnK(P:Program)(f:FuncId)(args:List AV)(H:List AObj)(res:AV)(H':List AObj)(kp:List Nat):Prop:=∀(w:World) (V:Nat->Prop) (ob:Nat->Option (Value×Nat)) (vs:Array Value),MR w V (OB ob) (fun k=>k<H.length) (fun k=>H[k]?) ob w->vs.size=args.length→
 (∀(i:Nat) c,args[i]? =some c->VR (zV w.heap.size V ob (fun k=>k<H.length) w) (vs.getD i undef) c)→
 Calls P f vs w (fun e w'=>∃v ob',e= .returned v/\MR w V (OB ob) (fun k=>k<H'.length) (fun k=>H'[k]?) ob' w'/\VR (zV w.heap.size V ob' (fun k=>k<H'.length) w') v res/\GhR (zV w.heap.size V ob' (fun k=>k<H'.length) w') (fun i=>vs.getD i undef) (ghA args)/\ ∀j,j∈kp->ob' j=ob j)
def zID(kp:List Nat)(i:Nat)(pi:List Nat)(args:List AV)(H H':List AObj):Nat->List Nat->Prop
 |_,[]=>True
 |j,k::r=>((i<=k/\k<i+1000000)\/(pi[j]? =some k/\ ∃(t c ty:Nat) (cs:List AV) (ty':Nat) (cs':List AV),args[t]? =some (AV.ptr j 0 c)/\H[j]? =some (AObj.box ty cs)/\cs.length=c/\H'[j]? =some (AObj.box ty' cs')/\cs'.length=c)\/(pi[j]? =some k/\j∈kp/\j<H.length))/\zID kp i pi args H H' (j+1) r
theorem zDc{kp:List Nat}{i:Nat}{pi:List Nat}{args:List AV}{H H':List AObj}: ∀{po:List Nat} {j0:Nat},zID kp i pi args H H' j0 po-> ∀(j:Nat) k,po[j]? =some k->(i<=k/\k<i+1000000)\/(pi[j0+j]? =some k/\ ∃(t c ty:Nat) (cs:List AV) (ty':Nat) (cs':List AV),args[t]? =some (AV.ptr (j0+j) 0 c)/\H[j0+j]? =some (AObj.box ty cs)/\cs.length=c/\H'[j0+j]? =some (AObj.box ty' cs')/\cs'.length=c)\/(pi[j0+j]? =some k/\j0+j∈kp/\j0+j<H.length)
 |[],j0,_,j,k,h=>by simp at h
 |a::r,j0,hp,j,k,h=>by
  cases j with
  |zero=>simp at h;subst h;exact hp.1
  |succ j=>
   have:=zDc hp.2 j k (by simpa using h);rw[show j0+(j+1)=j0+1+j by omega];exact this
theorem zKe{P:Program}{ops:Array Oper}{i:Nat}{o:Oper}{σ:ASt}{cl:Call}{fo:Operand}{f:FuncId}{caps:List AV}{args:List AV}{H H':List AObj}{res:AV}{kp:List Nat}(pi po:List Nat)(q:Nat)
  (hg:gd ops σ o=some true) (hop:o.op= .call cl) (hc:cl.callee= .value fo) (hfo:σ.eval fo= .fn f caps) (hb:zBy P f=true) (hspec:FnK P f args H res H' kp) (hd:zAt σ o=true)
  (hargs:inPs σ.heap pi q (cl.args.toList.map σ.eval++caps) args) (hobj:inOs σ.heap pi q pi H) (hndi:ndL pi) (hlen:po.length=H'.length) (hndo:ndL po) (hpo:zID kp i pi args H H' 0 po) (hok:H'.all okO=true):
  OpS P ops i o σ (callS σ o.dst pi po q res H'):=by
 intro w0 V S0 gv U a w hR hnew K Q hK;obtain⟨ob,m1,m2,m3,m4,m5⟩:=hR;have hw:Region.wanted o (yielded ops a.tmps)=true:=zA0 hg m2 m4;rw[if_pos hw];have hfv:=VR.eval m1.glE m2 fo;rw[hfo]at hfv;obtain⟨cvs,hcv,hcn,hcr⟩: ∃cvs:Array Value,a.eval fo= .func (.func f) #[] cvs/\cvs.size=caps.length/\ ∀(j:Nat) c,caps[j]? =some c->VR (zV w0.heap.size V ob U w) (cvs.getD j undef) c:=by
  generalize a.eval fo=v at hfv
  cases hfv with
  |fn f vs cs hn hr=>exact⟨vs,rfl,hn,hr⟩
 have hmi:=m1.in_ hobj hndi;have hpl:=(zBg hobj).1;obtain⟨hal,hag⟩:=zBl hargs;obtain⟨vs,hvs⟩: ∃vs,vs=cl.args.map a.eval++cvs:=⟨_,rfl⟩;have hvn:vs.size=args.length:=by rw[hvs,←hal];simp[hcn]
 have hvv: ∀(j:Nat) c,args[j]? =some c->VR (zV w.heap.size (V1 w0 V ob pi q) (obI ob pi) (fun k=>k<H.length) w) (vs.getD j undef) c:=fun j c hj=>by
  obtain⟨x,hx,hxc⟩:=hag j c hj;refine VR.in_ m1 hpl ?_ c hxc;rw[hvs];by_cases hlt:j<cl.args.size
  ·rw[Qw (by simpa using hlt),Qi]at hx;have e1:cl.args.toList[j]? =some cl.args[j]:=by simp[hlt]
   rw[e1]at hx;simp only[Qg,Qx]at hx;subst hx;have e2:(cl.args.map a.eval++cvs).getD j undef=a.eval cl.args[j]:=by
    have h3:j<(cl.args.map a.eval++cvs).size:=by simp;omega
    simp only[Array.getD,h3,dif_pos];show(cl.args.map a.eval++cvs)[j]=_;rw[Array.getElem_append_left (by simpa using hlt)];simp
   rw[e2];exact VR.eval m1.glE m2 _
  ·rw[Qa (by simp;omega)]at hx;have hx:caps[j-cl.args.size]? =some x:=by simpa using hx
   have hlt2:=(Qq.1 hx).1;have e2:(cl.args.map a.eval++cvs).getD j undef=cvs.getD (j-cl.args.size) undef:=by
    have h3:j<(cl.args.map a.eval++cvs).size:=by simp;omega
    have h4:j-cl.args.size<cvs.size:=by omega
    simp only[Array.getD,h3,h4,dif_pos];show(cl.args.map a.eval++cvs)[j]=cvs[j-cl.args.size];rw[Array.getElem_append_right (by simp;omega)];simp
   rw[e2];exact hcr _ x hx
 have hcall:=hspec w (V1 w0 V ob pi q) (obI ob pi) vs hmi hvn hvv;unfold Oper.wp execOp;simp only[hop,resolve,hc,invoke,Sem.run_bind];rw[hcv];simp only[Deferred.ofValue,Sem.run_pure,Result.andThen_ok,Array.empty_append];rw[←hvs,zJy hb];show Calls P f vs w _;refine hcall.mono ?_;rintro e w' ⟨v,ob1,rfl,hm2,hv2,hgh2,hkp⟩;have hret:Ret w0 w w' V S0 U σ.heap ob ob1 pi po q i H':=by
  refine⟨m1,hm2,hlen,hndo,hnew,fun k hk=>?_,fun j k hj=>?_,fun j o' ho'=>List.all_eq_true.1 hok o' (Qc ho')⟩
  ·obtain⟨j,hj,hjk⟩:=Qb hk;obtain⟨k',e1,e2⟩:=(zBg hobj).2 j (H[j]'(by omega)) (by simp);have hkk:k'=k:=by
    rw[Qj hj,hjk]at e1;injection e1 with e1;exact e1.symm
   subst hkk
   cases hH:σ.heap k' with
   |none=>rw[hH]at e2;exact e2.elim
   |some ob0=>exact(m1.obj k' ob0 hH).1
  ·have:=zDc hpo j k hj;rw[Nat.zero_add]at this;rcases this with g|⟨g,t,c,ty,cs,ty',cs',h1,h2,h3,h4,h5⟩|⟨g,g1,g2⟩
   ·exact .inl g
   ·refine .inr ⟨Qc g,?_⟩;obtain⟨-,u,e1,b,bs,rfl,-,-⟩:=hmi.obj j _ h2;obtain⟨-,u',e2,b',bs',rfl,-,-⟩:=hm2.obj j _ h4;have e1':ob k=some (.pointer (some ⟨b,0,none⟩),cs.length):=by
     have:obI ob pi j=ob k:=by unfold obI;rw[g];rfl
     rw[←this];exact e1
    have q1:=hvv t _ h1;have q2:VR (zV w.heap.size (V1 w0 V ob pi q) ob1 (fun k=>k<H'.length) w') (vs.getD t undef) (.ptr j 0 c):=hgh2 t (.ptr j 0 c) (by simp[ghA,h1,ghA1]);have r1: ∃b0,blk (.pointer (some ⟨b,0,none⟩))=some b0/\vs.getD t undef= .pointer (some ⟨b0,0,none⟩):=by
     generalize vs.getD t undef=x at q1
     cases q1 with
     |ptr v id off c h1 hU hh=>exact(hh _ _ e1).2 (by simp[AObj.cnt,h3])
    have r2: ∃b0,blk (.pointer (some ⟨b',0,none⟩))=some b0/\vs.getD t undef= .pointer (some ⟨b0,0,none⟩):=by
     generalize vs.getD t undef=x at q2
     cases q2 with
     |ptr v id off c h1 hU hh=>exact(hh _ _ e2).2 (by simp[AObj.cnt,h5])
    obtain⟨b0,x1,x2⟩:=r1;obtain⟨b1,x3,x4⟩:=r2;rw[x2]at x4;have:b=b':=by
     simp only[blk,Qx]at x1 x3;simp only[Value.pointer.injEq,Qx,Addr.mk.injEq]at x4;omega
    subst this;refine⟨_,_,e2,?_⟩;rw[e1'];simp[AObj.cnt,h3,h5]
   ·refine .inr ⟨Qc g,?_⟩;obtain⟨-,u,e1,-⟩:=hmi.obj j H[j] (by simp[g2]);have e1':obI ob pi j=ob k:=by unfold obI;rw[g];rfl
    have e2:ob1 j=obI ob pi j:=hkp j g1;exact⟨_,_,e2.trans e1,e1'.symm.trans e1⟩
 refine hK _ _ ?_;have hx:=hret.ext;exact zEN.zRl (σ:=σ) hret.mr (fun t=>(m2 t).ext hx) m3 m4 (m5.ext hx) hd (VR.out hret hv2)
theorem zAk{P:Program}{ops:Array Oper}{i:Nat}{o:Oper}{σ:ASt}{K:ASt->Prop}{cl:Call}{fo:Operand}{f:FuncId}{caps:List AV}{args:List AV}{H H':List AObj}{res:AV}{kp:List Nat}(hspec:FnK P f args H res H' kp)(pi po:List Nat)(q:Nat)
  (hg:gd ops σ o=some true) (hop:o.op= .call cl) (hc:cl.callee= .value fo) (hfo:σ.eval fo= .fn f caps) (hb:zBy P f=true) (hd:zAt σ o=true)
  (hargs:inPs σ.heap pi q (cl.args.toList.map σ.eval++caps) args) (hobj:inOs σ.heap pi q pi H) (hndi:ndL pi) (hlen:po.length=H'.length) (hndo:ndL po) (hpo:zID kp i pi args H H' 0 po) (hok:H'.all okO=true)
  (hK:K (callS σ o.dst pi po q res H')):zDo P ops i o σ K:=
 ⟨_,zKe pi po q hg hop hc hfo hb hspec hd hargs hobj hndi hlen hndo hpo hok,rfl,hK⟩
theorem zIg{P:Program}{ops:Array Oper}{i:Nat}{o:Oper}{σ:ASt}{K:ASt->List Nat×List Nat->Prop}{cl:Call}{fo:Operand}{f:FuncId}{caps:List AV}{args:List AV}{H H':List AObj}{res:AV}{kp:List Nat}(hspec:FnK P f args H res H' kp)(pi po:List Nat)(q:Nat)
  (hg:gd ops σ o=some true) (hop:o.op= .call cl) (hc:cl.callee= .value fo) (hfo:σ.eval fo= .fn f caps) (hb:zBy P f=true) (hd:zAt σ o=true)
  (hargs:inPs σ.heap pi q (cl.args.toList.map σ.eval++caps) args) (hobj:inOs σ.heap pi q pi H) (hndi:ndL pi) (hlen:po.length=H'.length) (hndo:ndL po) (hpo:zID kp i pi args H H' 0 po) (hok:H'.all okO=true)
  (hK:K (callS σ o.dst pi po q res H') ((pi++po++refsVs (cl.args.toList.map σ.eval++caps)++pi.flatMap (zGn σ.heap))++(po++pi),po++pi)):zCB P ops i o σ K:=by
 have hkeys:(cU pi po q H').map (·.1)=po++pi:=by
  unfold cU;rw[List.map_append,List.map_map,List.map_map];congr 1
  ·have:((·.1)∘fun(p:Nat×AObj)=>(p.1,some p.2))=Prod.fst:=rfl;show List.map ((fun x=>x.1)∘fun(p:Nat×AObj)=>(p.1,some p.2)) _=po;rw[show((fun(x:Nat×Option AObj)=>x.1)∘fun(p:Nat×AObj)=>(p.1,some p.2))=Prod.fst from rfl];exact List.map_fst_zip (by simpa using Nat.le_of_eq hlen)
  ·exact List.map_id _
 refine⟨⟨outV po q res,cU pi po q H',pi++po++refsVs (cl.args.toList.map σ.eval++caps)++pi.flatMap (zGn σ.heap)⟩,fun σ2 q1 q2 q3=>?_,?_⟩
 ·have hev:=zBw q1;rw[←zCp hlen];have hops: ∀x,x∈cl.args.toList->σ2.eval x=σ.eval x:=fun x hx=>hev x (by rw[hop];simp[Op.operands,Call.operands];exact .inr (by simpa using hx))
  have hmap:cl.args.toList.map σ2.eval=cl.args.toList.map σ.eval:=List.map_congr_left hops;have hfo2:σ2.eval fo= .fn f caps:=by rw[hev fo (by rw[hop];simp[Op.operands,Call.operands,hc])];exact hfo
  refine zKe pi po q (by rw[zCq q1 q3];exact hg) hop hc hfo2 hb hspec (by rw[zBG q3];exact hd) ?_ ?_ hndi hlen hndo hpo hok
  ·rw[hmap];exact zBC _ _ hargs (fun k hk=>q2 k (by simp only[List.mem_append];exact .inl (.inr hk)))
  ·exact zDz hobj (fun k hk=>q2 k (by simp only[List.mem_append];exact .inl (.inl (.inl hk)))) (fun k hk j hj=>q2 j (by simp only[List.mem_append,List.mem_flatMap];exact .inr ⟨k,hk,hj⟩))
 ·rw[←zCp hlen];show K _ (_++(cU pi po q H').map (·.1),(cU pi po q H').map (·.1));rw[hkeys];exact hK
def zSd(H H':List AObj)(k:Nat)(g:AV):Prop:=
 (∃(c ty:Nat) (cs:List AV) (ty':Nat) (cs':List AV),g= .ptr k 0 c/\H[k]? =some (.box ty cs)/\cs.length=c/\H'[k]? =some (.box ty' cs')/\cs'.length=c)∨
 (∃(n e0 z0 p0:Nat) (cs0:List T) (e1 z1 p1:Nat) (cs1:List T),g= .own k n/\H[k]? =some (.row e0 z0 p0 cs0)/\cs0.length=n/\H'[k]? =some (.row e1 z1 p1 cs1)/\cs1.length=n)
theorem zLk{P:Program}{f:FuncId}{fn:Func}{cd:Code}{args:List AV}{H H':List AObj}{res:AV}(gs:List (Nat×AV))
  (hk: ∀(j:Nat) p,gs[j]? =some p->zSd H H' p.1 p.2)
  (hf:P.funcs[f]? =some fn) (hb:fn.body=some cd) (hle:args.length<=fn.ntmps) (h:awp P cd (fun e σ=>zOr P fn.results.toList res H' e σ/\σ.gh=ghA args++gs.map (·.2)) { zCJ args H fn.ntmps with gh:=ghA args++gs.map (·.2) }):FnK P f args H res H' (gs.map (·.1)):=by
 intro w V ob vs hm hn hv;refine calls_of_wp hf hb ?_;obtain⟨e,σ',h1,hq,hga⟩:=h;obtain⟨mm,un,he,hwh,hmp,hgh,l,hl,hmm⟩:=zA7 hq;have hga0:(ghA args).length=args.length:=by simp[ghA]
 obtain⟨gv,hgv⟩: ∃gv:Nat->Value,gv=fun i=>if i<args.length then vs.getD i undef else(((gs[i-args.length]?).bind fun p=>ob p.1).map Prod.fst).getD undef:=⟨_,rfl⟩
 have hrel:Rel w V (OB ob) gv { zCJ args H fn.ntmps with gh:=ghA args++gs.map (·.2) } { tmps:=vs++Array.replicate (fn.ntmps-vs.size) undef,defers:=[] } w:=by
  refine⟨ob,hm,fun t=>?_,rfl,by simp[zCJ];omega,fun i d hi=>?_⟩
  ·show VR _ _ (args.getD t .any)
   cases hq:args[t]? with
   |none=>simp[hq];exact .any _
   |some c=>
    have hlt:t<vs.size:=by rw[hn];exact(Qq.1 hq).1
    have h1:=hv t c hq;have e:(vs++Array.replicate (fn.ntmps-vs.size) undef).getD t undef=vs.getD t undef:=by
     simp only[Array.getD,Array.size_append,Array.size_replicate,hlt,dif_pos,show t<vs.size+(fn.ntmps-vs.size) by omega];exact Array.getElem_append_left hlt
    rw[e];simp only[hq,Qv,Qd];exact h1
  ·have hi:(ghA args++gs.map (·.2))[i]? =some d:=hi;by_cases hlt:i<args.length
   ·rw[Qw (by omega)]at hi;rw[hgv];simp only[hlt,if_true];unfold ghA at hi;rw[Qi]at hi
    cases hq:args[i]? with
    |none=>rw[hq]at hi;cases hi
    |some a=>
     rw[hq]at hi;simp only[Qg,Qx]at hi;subst hi;have h1:=hv i a hq
     cases a<;>first|exact h1|exact .any _
   ·rw[Qa (by omega),hga0,Qi]at hi
    cases hp:gs[i-args.length]? with
    |none=>rw[hp]at hi;cases hi
    |some p=>
     rw[hp]at hi;simp only[Qg,Qx]at hi;subst hi;rw[hgv];simp only[hlt,if_false,hp,Option.bind_some];rcases hk _ p hp with⟨c,ty,cs,ty',cs',e0,e1,e2,-,-⟩|⟨n,q0,z0,p0,cs0,q1,z1,p1,cs1,e0,e1,e2,-,-⟩
     ·obtain⟨-,u,e3,b,bs,rfl,-,-⟩:=hm.obj p.1 _ e1;have e3:ob p.1=some (.pointer (some ⟨b,0,none⟩),cs.length):=e3;rw[e0,e3];simp only[Qg,Qd];refine .ptr _ _ 0 _ rfl (Qq.1 e1).1 (fun u' n' hu'=>?_);have hu':ob p.1=some (u',n'):=hu';rw[e3]at hu';simp only[Qx,Qk]at hu';obtain⟨rfl,rfl⟩:=hu';exact⟨by omega,fun _=>⟨b,rfl,rfl⟩⟩
     ·obtain⟨-,u,hob,hor⟩:=hm.obj p.1 _ e1;have hu1:u.oneCell'=true:=by
       obtain⟨-,-,m',vs',how,-⟩:=hor;rcases how.2 with⟨rfl,-⟩|⟨g,cap,cur,rfl,-⟩<;>rfl
      have hob:ob p.1=some (u,cs0.length):=hob;rw[e0,hob];simp only[Qg,Qd];refine .own u p.1 n hu1 (Qq.1 e1).1 (fun u' n' hu'=>?_);have hu':ob p.1=some (u',n'):=hu';rw[hob]at hu';simp only[Qx,Qk]at hu';obtain⟨rfl,rfl⟩:=hu';exact⟨by omega,fun _=>rfl⟩
 refine wp_mono (h1 w V _ _ _ w hrel) ?_;rintro e' a w' ⟨rfl,ob2,m1,m2,m3,m4,m5⟩;obtain⟨rs,r1,r2,r3⟩:=zA8 (P:=P) m1 m2 fn.results.toList l hl;have hm2:=m1.wk (nx:=H'.length) (fun id o ho=>⟨(Qq.1 ho).1,hwh id o ho⟩) hmp;have hgall: ∀(i:Nat) d,(ghA args++gs.map (·.2))[i]? =some d->VR (zV w.heap.size V (obW ob2 (fun k=>H'[k]?) mm) (fun k=>k<H'.length) w') (gv i) d:=fun i d hi=>by
  obtain⟨a',ha,hac⟩:=(zAG hgh).2 i d (by rw[hga];exact hi);exact(m5 i a' ha).wk m1 hmp d hac
 have hkeep: ∀(j:Nat) p,gs[j]? =some p->obW ob2 (fun k=>H'[k]?) mm p.1=ob p.1:=fun j p hp=>by
  have q:=hgall (args.length+j) p.2 (by rw[Qa (by omega),hga0,Nat.add_sub_cancel_left,Qi,hp];rfl);have e3:gv (args.length+j)=((ob p.1).map Prod.fst).getD undef:=by
   rw[hgv];simp only[show ¬(args.length+j<args.length) by omega,if_false,Nat.add_sub_cancel_left,hp];rfl
  rw[e3]at q;rcases hk _ p hp with⟨c,ty,cs,ty',cs',e0,e1,e2,e4,e5⟩|⟨n,q0,z0,p0,cs0,q1,z1,p1,cs1,e0,e1,e2,e4,e5⟩
  ·obtain⟨-,u,hb,b,bs,rfl,-,-⟩:=hm.obj p.1 _ e1;have hb:ob p.1=some (.pointer (some ⟨b,0,none⟩),cs.length):=hb;obtain⟨-,u',g1,b',bs',rfl,-,-⟩:=hm2.obj p.1 _ e4;rw[hb,e0]at q;simp only[Qg,Qd]at q;generalize hv0:Value.pointer (some ⟨b,0,none⟩)=v0 at q
   cases q with
   |ptr v id off c' g0 hU hh=>
    obtain⟨b0,x1,x2⟩:=(hh _ _ g1).2 (by simp[AObj.cnt,e5]);rw[←hv0]at x2;simp only[blk,Qx]at x1;simp only[Value.pointer.injEq,Qx,Addr.mk.injEq]at x2;rw[g1,hb];have:b'=b:=by omega
    rw[this];simp[AObj.cnt,e5,e2]
  ·obtain⟨-,u,hob,-⟩:=hm.obj p.1 _ e1;have hob:ob p.1=some (u,cs0.length):=hob;obtain⟨-,u',g1,-⟩:=hm2.obj p.1 _ e4;rw[hob,e0]at q;simp only[Qg,Qd]at q
   cases q with
   |own v id c g2 hU hh=>
    have:=(hh u' _ g1).2 (by simp[AObj.cnt,e5]);rw[g1,hob,this];simp[AObj.cnt,e5,e2]
 have fin:a.defers=[]/\ ∃v,(results fn a.tmps).run P w'= .ok v w'/\ ∃v' ob',Ending.returned v= .returned v'/\MR w V (OB ob) (fun k=>k<H'.length) (fun k=>H'[k]?) ob' w'/\VR (zV w.heap.size V ob' (fun k=>k<H'.length) w') v' res/\GhR (zV w.heap.size V ob' (fun k=>k<H'.length) w') (fun i=>vs.getD i undef) (ghA args)/\ ∀j,j∈gs.map (·.1)->ob' j=ob j:=by
  refine⟨m3,?_⟩;have hrun:(results fn a.tmps).run P w'= .ok (if h:rs.toArray.size=1 then rs.toArray[0]else .tuple rs.toArray) w':=by
   rw[zCl,Array.mapM_eq_mapM_toList];simp[r1]
  refine⟨_,hrun,_,_,rfl,hm2,?_,fun i d hi=>?_,fun j hj=>by
   obtain⟨p,hp,rfl⟩:=List.mem_map.1 hj;obtain⟨t,ht,e⟩:=Qb hp;exact hkeep t p (by rw[Qj ht,e])⟩
  ·split at hmm
   ·rename_i x;have hl1:rs.length=1:=by simpa using r2
    obtain⟨v,rfl⟩: ∃v,rs=[v]:=by
     cases rs with
     |nil=>simp at hl1
     |cons v r=>cases r with
      |nil=>exact⟨v,rfl⟩
      |cons _ _=>simp at hl1
    exact(r3 0 v x rfl rfl).wk m1 hmp res hmm
   ·rename_i l' bs hne;obtain⟨e1,e2⟩:=zAG hmm.2;have hl1: ¬rs.toArray.size=1:=by simp;omega
    rw[dif_neg hl1];refine .tup _ _ (by simp;omega) (fun i b hi=>?_);obtain⟨x,hx,hxb⟩:=e2 i b hi;have hlt:i<rs.length:=by rw[r2];exact(Qq.1 hx).1
    have:=(r3 i rs[i] x (by simp) hx).wk m1 hmp b hxb;have e:rs.toArray.getD i undef=rs[i]:=by simp[Array.getD,hlt]
    rw[e];exact this
   ·exact hmm.elim
  ·have hlt:i<args.length:=by rw[←hga0];exact(Qq.1 hi).1
   have:=hgall i d (by rw[Qw (by omega)];exact hi);rw[hgv]at this;simpa[hlt]using this
 rcases he with rfl|rfl<;>exact fin
theorem zDX{P:Program}{a b:Code}{Q:Exit->ASt->Prop}{σ:ASt}(R:ASt->Prop)(h1: ∀σ',R σ'->awp P b Q σ')(h2:awp P a (fun e σ'=>match e with| .normal=>R σ'|e=>Q e σ') σ):awp P (.seq a b) Q σ:=by
 refine zA (zB5 h2 ?_);intro e σ' h
 cases e<;>first|exact h1 σ' h|exact h
theorem zJG{x:Nat}(hx:x<9223372036854775808):IntKind.i64.wrap (x:Int)=(x:Int):=by
 rw[IntKind.wrap_i64];omega
theorem zTJ{x y:Nat}(hx:x<4611686018427387904)(hy:y<4611686018427387904):orI .i64 (x:Int) (y:Int)=((x|||y:Nat):Int):=by
 unfold orI;have b1:(BitVec.ofInt IntKind.i64.bits (x:Int)).toNat=x:=by
  show(BitVec.ofInt 64 (x:Int)).toNat=x;rw[BitVec.toNat_ofInt];omega
 have b2:(BitVec.ofInt IntKind.i64.bits (y:Int)).toNat=y:=by
  show(BitVec.ofInt 64 (y:Int)).toNat=y;rw[BitVec.toNat_ofInt];omega
 have:=Nat.or_lt_two_pow (n:=62) hx hy;rw[BitVec.toNat_or,b1,b2,zJG (by omega)]
theorem zGw{H:Nat->Option AObj}{pi:List Nat}{q:Nat}: ∀{a b:List Nat} {x y:List AObj},inOs H pi q a x->inOs H pi q b y->inOs H pi q (a++b) (x++y)
 |[],_,[],_,_,h=>h
 |k::a,b,o::x,y,h1,h2=>⟨h1.1,zGw h1.2 h2⟩
 |[],_,_::_,_,h,_=>h.elim
 |_::_,_,[],_,h,_=>h.elim
theorem zNx{H:Nat->Option AObj}{pi:List Nat}{q:Nat}: ∀{ks:List Nat} {os:List AObj},ks.length=os.length->(∀(j:Nat) k o,ks[j]? =some k->os[j]? =some o->inO H pi q (H k) o)->inOs H pi q ks os
 |[],[],_,_=>trivial
 |k::ks,o::os,hl,h=>⟨h 0 k o rfl rfl,zNx (by simpa using hl) (fun j k o hk ho=>h (j+1) k o (by simpa using hk) (by simpa using ho))⟩
 |[],_::_,h,_=>by simp at h
 |_::_,[],h,_=>by simp at h
theorem zJ6{H:Nat->Option AObj}{pi:List Nat}{q b n:Nat}{F:Nat->AObj}(h: ∀j,j<n->inO H pi q (H (b+j)) (F j)):inOs H pi q (tab n fun j=>b+j) (tab n F):=
 zNx (by simp) (fun j k o hk ho=>by
  have hj:=(Qq.1 hk).1;rw[zAD]at hj;rw[zO _ hj]at hk ho;injection hk with hk;injection ho with ho;subst hk ho;exact h j hj)
theorem zON{H:Nat->Option AObj}{pi:List Nat}{q:Nat}: ∀{aS bs:List AV},aS.length=bs.length->(∀(i:Nat) a b,aS[i]? =some a->bs[i]? =some b->inP H pi q a b)->inPs H pi q aS bs
 |[],[],_,_=>by simp[inPs]
 |a::aS,b::bs,h,hr=>by
  simp only[inPs];exact⟨hr 0 a b rfl rfl,zON (by simpa using h) (fun i x y hx hy=>hr (i+1) x y (by simpa using hx) (by simpa using hy))⟩
 |[],_::_,h,_=>by simp at h
 |_::_,[],h,_=>by simp at h
theorem zPZ{H:Nat->Option AObj}{pi:List Nat}{q n:Nat}{A B:Nat->AV}(h: ∀j,j<n->inP H pi q (A j) (B j)):inPs H pi q (tab n A) (tab n B):=
 zON (by simp) (fun j a b ha hb=>by
  have hj:=(Qq.1 ha).1;rw[zAD]at hj;rw[zO _ hj]at ha hb;injection ha with ha;injection hb with hb;subst ha hb;exact h j hj)
theorem zp{H:Nat->Option AObj}{pi:List Nat}{q n:Nat}{A B:Nat->AV}:inPs H pi q (tab n A) (tab n B)= ∀j,j<n->inP H pi q (A j) (B j):=by
 apply propext;constructor
 ·intro h j hj;obtain⟨a,ha,hab⟩:=(zBl h).2 j _ (zO B hj);rw[zO _ hj]at ha;injection ha with ha;rw[ha];exact hab
 ·exact zPZ
theorem zUb{ph:List Nat}{b n j:Nat}(h:j<n):(poF ph b n)[ph.length+j]? =some (b+j):=by
 unfold poF;rw[Qa (by omega),show ph.length+j-ph.length=j by omega,zO _ h]
theorem zKw{ph:List Nat}{b n j:Nat}(h:j<ph.length):(poF ph b n)[j]? =ph[j]?:=by
 unfold poF;rw[Qw h]
theorem zKt{ph:List Nat}{b n:Nat}(h:ndL ph)(hb: ∀k,k∈ph->k<b):ndL (poF ph b n):=zKO (fun x y k hx hy=>by
 rcases zCV hx with⟨a1,a2⟩|⟨a1,a2,a3⟩<;>rcases zCV hy with⟨b1,b2⟩|⟨b1,b2,b3⟩
 ·exact zGP h a2 b2
 ·have:=hb k (Qc a2);omega
 ·have:=hb k (Qc b2);omega
 ·omega)
def zS1(b n:Nat)(f:Nat->Option AObj)(k:Nat):Option AObj:=if k<b then f k else if k-b<n then none else f k
theorem zw(b n:Nat)(f:Nat->Option AObj){k:Nat}(h:k<b):zS1 b n f k=f k:=by unfold zS1;rw[if_pos h]
theorem zKM(f:Nat->Option AObj)(ph:List Nat)(b n:Nat)(hb: ∀k,k∈ph->k<b):delL f (poF ph b n)=zS1 b n (delL f ph):=by
 funext k;rw[zF9];unfold zS1;rw[zF9];have hm:k∈poF ph b n↔k∈ph\/(b<=k/\k-b<n):=by
  constructor
  ·intro h;obtain⟨j,hj,e⟩:=Qb h;rcases zCV (j:=j) (k:=k) (by rw[Qj hj,e])with⟨-,a⟩|⟨a,a2,a3⟩
   ·exact .inl (Qc a)
   ·exact .inr (by omega)
  ·rintro(h|⟨h1,h2⟩)
   ·unfold poF;simp[h]
   ·have:=zUb (ph:=ph) (b:=b) h2;rw[show b+(k-b)=k by omega]at this;exact Qc this
 by_cases h1:k<b
 ·rw[if_pos h1];by_cases h2:k∈ph
  ·rw[if_pos h2,if_pos (hm.2 (.inl h2))]
  ·rw[if_neg h2,if_neg (fun g=>by rcases hm.1 g with g|g<;>first|exact h2 g|omega)]
 ·rw[if_neg h1];by_cases h2:k-b<n
  ·rw[if_pos h2,if_pos (hm.2 (.inr ⟨by omega,h2⟩))]
  ·have h3:k∉ph:=fun g=>by have:=hb k g;omega
   rw[if_neg h2,if_neg h3,if_neg (fun g=>by rcases hm.1 g with g|g<;>first|exact h3 g|omega)]
def callFF(σ:ASt)(dst:Option Tmp)(pih:List Nat)(b0 n0:Nat)(ph:List Nat)(b n q:Nat)(res:AV)(hd:List AObj)(F:Nat->AObj):ASt:={ σ with env:=match dst with|some d=>upd σ.env d (outV (poF ph b n) q res)|none=>σ.env,heap:=ovr b n (fun j=>outO (poF ph b n) q (F j)) (addL (zS1 b0 n0 (delL σ.heap pih)) (ph.zip (hd.map (outO (poF ph b n) q)))) }
def idxE(k:Nat):List AV->List (Nat×AV)
 |[]=>[]
 |a::r=>(k,a)::idxE (k+1) r
theorem zHy: ∀(l:List AV) (k t:Nat),envOf (idxE k l) t=if t<k then .any else l.getD (t-k) .any
 |[],k,t=>by simp[idxE,envOf]
 |a::r,k,t=>by
  unfold idxE envOf;rw[zHy r (k+1) t];by_cases e:t=k
  ·subst e;simp
  ·rw[if_neg e];by_cases h:t<k
   ·rw[if_pos h,if_pos (by omega)]
   ·rw[if_neg h,if_neg (by omega)];have:t-k=(t-(k+1))+1:=by omega
    rw[this,List.getD_cons_succ]
theorem zPx(args:List AV)(hd:List AObj)(n:Nat)(F:Nat->AObj)(nt:Nat):zCJ args (hd++tab n F) nt=mkF (idxE 0 args) (idxF 0 hd) hd.length n F (hd.length+n) nt (ghA args):=by
 refine ASt.ext' (fun t=>?_) (fun id=>?_) (by simp[zCJ,mkF]) rfl rfl
 ·show args.getD t .any=envOf (idxE 0 args) t;rw[zHy];simp
 ·show(hd++tab n F)[id]? =zDx (idxF 0 hd) hd.length n F id;unfold zDx;rw[zCt];by_cases h1:id<hd.length
  ·rw[if_pos h1,Qw h1];simp
  ·rw[if_neg h1,Qa (by omega)];by_cases h2:id-hd.length<n
   ·rw[if_pos h2,zO _ h2]
   ·rw[if_neg h2,zBd _ (by omega)]
theorem zGT{kp:List Nat}{i:Nat}{pi:List Nat}{args:List AV}{H H':List AObj}: ∀{po:List Nat} {j0:Nat},(∀(j:Nat) k,po[j]? =some k->(i<=k/\k<i+1000000)\/(pi[j0+j]? =some k/\ ∃(t c ty:Nat) (cs:List AV) (ty':Nat) (cs':List AV),args[t]? =some (AV.ptr (j0+j) 0 c)/\H[j0+j]? =some (AObj.box ty cs)/\cs.length=c/\H'[j0+j]? =some (AObj.box ty' cs')/\cs'.length=c)\/(pi[j0+j]? =some k/\j0+j∈kp/\j0+j<H.length))->zID kp i pi args H H' j0 po
 |[],j0,_=>trivial
 |a::r,j0,h=>by
  refine⟨h 0 a rfl,zGT (fun j k hj=>?_)⟩;have:=h (j+1) k (by simpa using hj);rw[show j0+(j+1)=j0+1+j by omega]at this;exact this
theorem zIn{P:Program}{f:FuncId}{fn:Func}{cd:Code}{args:List AV}{H H':List AObj}{res:AV}(gs:List (Nat×AV))
  (hk: ∀(j:Nat) p,gs[j]? =some p->zSd H H' p.1 p.2)
  (hf:P.funcs[f]? =some fn) (hb:fn.body=some cd) (hle:args.length<=fn.ntmps) (h:awp P cd (fun e σ=>(∃m un,resG P fn.results.toList res H' m un e σ)/\σ.gh=ghA args++gs.map (·.2)) { zCJ args H fn.ntmps with gh:=ghA args++gs.map (·.2) }):FnK P f args H res H' (gs.map (·.1)):=by
 intro w V ob vs hm hn hv;refine calls_of_wp hf hb ?_;obtain⟨e,σ',h1,hq,hga⟩:=h;obtain⟨mm,un,he,hwh,hmp,hgh,l,hl,hmm⟩:=hq;have hga0:(ghA args).length=args.length:=by simp[ghA]
 obtain⟨gv,hgv⟩: ∃gv:Nat->Value,gv=fun i=>if i<args.length then vs.getD i undef else(((gs[i-args.length]?).bind fun p=>ob p.1).map Prod.fst).getD undef:=⟨_,rfl⟩
 have hrel:Rel w V (OB ob) gv { zCJ args H fn.ntmps with gh:=ghA args++gs.map (·.2) } { tmps:=vs++Array.replicate (fn.ntmps-vs.size) undef,defers:=[] } w:=by
  refine⟨ob,hm,fun t=>?_,rfl,by simp[zCJ];omega,fun i d hi=>?_⟩
  ·show VR _ _ (args.getD t .any)
   cases hq:args[t]? with
   |none=>simp[hq];exact .any _
   |some c=>
    have hlt:t<vs.size:=by rw[hn];exact(Qq.1 hq).1
    have h1:=hv t c hq;have e:(vs++Array.replicate (fn.ntmps-vs.size) undef).getD t undef=vs.getD t undef:=by
     simp only[Array.getD,Array.size_append,Array.size_replicate,hlt,dif_pos,show t<vs.size+(fn.ntmps-vs.size) by omega];exact Array.getElem_append_left hlt
    rw[e];simp only[hq,Qv,Qd];exact h1
  ·have hi:(ghA args++gs.map (·.2))[i]? =some d:=hi;by_cases hlt:i<args.length
   ·rw[Qw (by omega)]at hi;rw[hgv];simp only[hlt,if_true];unfold ghA at hi;rw[Qi]at hi
    cases hq:args[i]? with
    |none=>rw[hq]at hi;cases hi
    |some a=>
     rw[hq]at hi;simp only[Qg,Qx]at hi;subst hi;have h1:=hv i a hq
     cases a<;>first|exact h1|exact .any _
   ·rw[Qa (by omega),hga0,Qi]at hi
    cases hp:gs[i-args.length]? with
    |none=>rw[hp]at hi;cases hi
    |some p=>
     rw[hp]at hi;simp only[Qg,Qx]at hi;subst hi;rw[hgv];simp only[hlt,if_false,hp,Option.bind_some];rcases hk _ p hp with⟨c,ty,cs,ty',cs',e0,e1,e2,-,-⟩|⟨n,q0,z0,p0,cs0,q1,z1,p1,cs1,e0,e1,e2,-,-⟩
     ·obtain⟨-,u,e3,b,bs,rfl,-,-⟩:=hm.obj p.1 _ e1;have e3:ob p.1=some (.pointer (some ⟨b,0,none⟩),cs.length):=e3;rw[e0,e3];simp only[Qg,Qd];refine .ptr _ _ 0 _ rfl (Qq.1 e1).1 (fun u' n' hu'=>?_);have hu':ob p.1=some (u',n'):=hu';rw[e3]at hu';simp only[Qx,Qk]at hu';obtain⟨rfl,rfl⟩:=hu';exact⟨by omega,fun _=>⟨b,rfl,rfl⟩⟩
     ·obtain⟨-,u,hob,hor⟩:=hm.obj p.1 _ e1;have hu1:u.oneCell'=true:=by
       obtain⟨-,-,m',vs',how,-⟩:=hor;rcases how.2 with⟨rfl,-⟩|⟨g,cap,cur,rfl,-⟩<;>rfl
      have hob:ob p.1=some (u,cs0.length):=hob;rw[e0,hob];simp only[Qg,Qd];refine .own u p.1 n hu1 (Qq.1 e1).1 (fun u' n' hu'=>?_);have hu':ob p.1=some (u',n'):=hu';rw[hob]at hu';simp only[Qx,Qk]at hu';obtain⟨rfl,rfl⟩:=hu';exact⟨by omega,fun _=>rfl⟩
 refine wp_mono (h1 w V _ _ _ w hrel) ?_;rintro e' a w' ⟨rfl,ob2,m1,m2,m3,m4,m5⟩;obtain⟨rs,r1,r2,r3⟩:=zA8 (P:=P) m1 m2 fn.results.toList l hl;have hm2:=m1.wk (nx:=H'.length) (fun id o ho=>⟨(Qq.1 ho).1,hwh id o ho⟩) hmp;have hgall: ∀(i:Nat) d,(ghA args++gs.map (·.2))[i]? =some d->VR (zV w.heap.size V (obW ob2 (fun k=>H'[k]?) mm) (fun k=>k<H'.length) w') (gv i) d:=fun i d hi=>by
  obtain⟨a',ha,hac⟩:=(zAG hgh).2 i d (by rw[hga];exact hi);exact(m5 i a' ha).wk m1 hmp d hac
 have hkeep: ∀(j:Nat) p,gs[j]? =some p->obW ob2 (fun k=>H'[k]?) mm p.1=ob p.1:=fun j p hp=>by
  have q:=hgall (args.length+j) p.2 (by rw[Qa (by omega),hga0,Nat.add_sub_cancel_left,Qi,hp];rfl);have e3:gv (args.length+j)=((ob p.1).map Prod.fst).getD undef:=by
   rw[hgv];simp only[show ¬(args.length+j<args.length) by omega,if_false,Nat.add_sub_cancel_left,hp];rfl
  rw[e3]at q;rcases hk _ p hp with⟨c,ty,cs,ty',cs',e0,e1,e2,e4,e5⟩|⟨n,q0,z0,p0,cs0,q1,z1,p1,cs1,e0,e1,e2,e4,e5⟩
  ·obtain⟨-,u,hb,b,bs,rfl,-,-⟩:=hm.obj p.1 _ e1;have hb:ob p.1=some (.pointer (some ⟨b,0,none⟩),cs.length):=hb;obtain⟨-,u',g1,b',bs',rfl,-,-⟩:=hm2.obj p.1 _ e4;rw[hb,e0]at q;simp only[Qg,Qd]at q;generalize hv0:Value.pointer (some ⟨b,0,none⟩)=v0 at q
   cases q with
   |ptr v id off c' g0 hU hh=>
    obtain⟨b0,x1,x2⟩:=(hh _ _ g1).2 (by simp[AObj.cnt,e5]);rw[←hv0]at x2;simp only[blk,Qx]at x1;simp only[Value.pointer.injEq,Qx,Addr.mk.injEq]at x2;rw[g1,hb];have:b'=b:=by omega
    rw[this];simp[AObj.cnt,e5,e2]
  ·obtain⟨-,u,hob,-⟩:=hm.obj p.1 _ e1;have hob:ob p.1=some (u,cs0.length):=hob;obtain⟨-,u',g1,-⟩:=hm2.obj p.1 _ e4;rw[hob,e0]at q;simp only[Qg,Qd]at q
   cases q with
   |own v id c g2 hU hh=>
    have:=(hh u' _ g1).2 (by simp[AObj.cnt,e5]);rw[g1,hob,this];simp[AObj.cnt,e5,e2]
 have fin:a.defers=[]/\ ∃v,(results fn a.tmps).run P w'= .ok v w'/\ ∃v' ob',Ending.returned v= .returned v'/\MR w V (OB ob) (fun k=>k<H'.length) (fun k=>H'[k]?) ob' w'/\VR (zV w.heap.size V ob' (fun k=>k<H'.length) w') v' res/\GhR (zV w.heap.size V ob' (fun k=>k<H'.length) w') (fun i=>vs.getD i undef) (ghA args)/\ ∀j,j∈gs.map (·.1)->ob' j=ob j:=by
  refine⟨m3,?_⟩;have hrun:(results fn a.tmps).run P w'= .ok (if h:rs.toArray.size=1 then rs.toArray[0]else .tuple rs.toArray) w':=by
   rw[zCl,Array.mapM_eq_mapM_toList];simp[r1]
  refine⟨_,hrun,_,_,rfl,hm2,?_,fun i d hi=>?_,fun j hj=>by
   obtain⟨p,hp,rfl⟩:=List.mem_map.1 hj;obtain⟨t,ht,e⟩:=Qb hp;exact hkeep t p (by rw[Qj ht,e])⟩
  ·split at hmm
   ·rename_i x;have hl1:rs.length=1:=by simpa using r2
    obtain⟨v,rfl⟩: ∃v,rs=[v]:=by
     cases rs with
     |nil=>simp at hl1
     |cons v r=>cases r with
      |nil=>exact⟨v,rfl⟩
      |cons _ _=>simp at hl1
    exact(r3 0 v x rfl rfl).wk m1 hmp res hmm
   ·rename_i l' bs hne;obtain⟨e1,e2⟩:=zAG hmm.2;have hl1: ¬rs.toArray.size=1:=by simp;omega
    rw[dif_neg hl1];refine .tup _ _ (by simp;omega) (fun i b hi=>?_);obtain⟨x,hx,hxb⟩:=e2 i b hi;have hlt:i<rs.length:=by rw[r2];exact(Qq.1 hx).1
    have:=(r3 i rs[i] x (by simp) hx).wk m1 hmp b hxb;have e:rs.toArray.getD i undef=rs[i]:=by simp[Array.getD,hlt]
    rw[e];exact this
   ·exact hmm.elim
  ·have hlt:i<args.length:=by rw[←hga0];exact(Qq.1 hi).1
   have:=hgall i d (by rw[Qw (by omega)];exact hi);rw[hgv]at this;simpa[hlt]using this
 rcases he with rfl|rfl<;>exact fin
theorem zCD{P:Program}{f:FuncId}{fn:Func}{cd:Code}{args:List AV}{H:List AObj}{G:AV->List AObj->Prop}(gs:List (Nat×AV))(hf:P.funcs[f]? =some fn)(hb:fn.body=some cd)(hle:args.length<=fn.ntmps)
  (h:awp P cd (fun e σ=>(∃res H',G res H'/\(∀(j:Nat) p,gs[j]? =some p->zSd H H' p.1 p.2)/\ ∃m un,resG P fn.results.toList res H' m un e σ)/\σ.gh=ghA args++gs.map (·.2)) { zCJ args H fn.ntmps with gh:=ghA args++gs.map (·.2) }): ∃res H',G res H'/\FnK P f args H res H' (gs.map (·.1)):=by
 obtain⟨e,σ',h1,⟨res,H',hG,hk,hq⟩,hg⟩:=h;exact⟨res,H',hG,zIn gs hk hf hb hle ⟨e,σ',h1,hq,hg⟩⟩
theorem zy{P:Program}{ops:Array Oper}{i:Nat}{o:Oper}{σ:ASt}{K:ASt->Prop}{cl:Call}{fo:Operand}{f:FuncId}{caps:List AV}{args:List AV}{hd0 hd:List AObj}{n0 n:Nat}{F0 F:Nat->AObj}{res:AV}{kp:List Nat}(hspec:FnK P f args (hd0++tab n0 F0) res (hd++tab n F) kp)(pih:List Nat)(b0:Nat)(ph:List Nat)(b q:Nat)
  (hg:gd ops σ o=some true) (hop:o.op= .call cl) (hc:cl.callee= .value fo) (hfo:σ.eval fo= .fn f caps) (hb:zBy P f=true) (hd':zAt σ o=true)
  (hargs:inPs σ.heap (poF pih b0 n0) q (cl.args.toList.map σ.eval++caps) args) (hobj:inOs σ.heap (poF pih b0 n0) q pih hd0) (hobj2: ∀j,j<n0->inO σ.heap (poF pih b0 n0) q (σ.heap (b0+j)) (F0 j)) (hndi:ndL pih) (hlt0: ∀k,k∈pih->k<b0)
  (hlen:ph.length=hd.length) (hndo:ndL ph) (hpo:zID kp i pih args hd0 hd 0 ph) (hbb:i<=b/\b+n<=i+1000000) (hlt: ∀k,k∈ph->k<b) (hok:hd.all okO=true) (hok2: ∀j,j<n->okO (F j)=true)
  (hK:K (callFF σ o.dst pih b0 n0 ph b n q res hd F)):zDo P ops i o σ K:=by
 have hl0:pih.length=hd0.length:=(zBg hobj).1;have heq:callF σ o.dst (poF pih b0 n0) ph b n q res hd F=callFF σ o.dst pih b0 n0 ph b n q res hd F:=by
  unfold callF callFF;rw[zKM _ _ _ _ hlt0]<;>rfl
 refine zAk (K:=K) hspec (poF pih b0 n0) (poF ph b n) q hg hop hc hfo hb hd' hargs (zGw hobj (zJ6 hobj2)) (zKt hndi hlt0) (by simp[poF,hlen]) (zKt hndo hlt) (zGT (fun j k hj=>?_)) ?_ (by rw[zGa hlen hlt,heq];exact hK)
 ·rcases zCV hj with⟨a1,a2⟩|⟨a1,a2,a3⟩
  ·rcases zDc hpo j k a2 with g|⟨g,t,c,ty,cs,ty',cs',g1,g2,g3,g4,g5⟩|⟨g,g1,g2⟩
   ·exact .inl g
   ·have hjl:0+j<pih.length:=(Qq.1 g).1;exact .inr (.inl ⟨by rw[zKw hjl];exact g,t,c,ty,cs,ty',cs',g1,by rw[Qw (by omega)];exact g2,g3,by rw[Qw (by omega)];exact g4,g5⟩)
   ·have hjl:0+j<pih.length:=(Qq.1 g).1;exact .inr (.inr ⟨by rw[zKw hjl];exact g,g1,by rw[List.length_append];omega⟩)
  ·exact .inl (by omega)
 ·rw[List.all_append,Qz];refine⟨hok,List.all_eq_true.2 fun x hx=>?_⟩;obtain⟨j,hj,rfl⟩:=Qb hx;rw[zAD]at hj;have:=zO F hj;rw[Qj (by simpa using hj)]at this;injection this with this;rw[this];exact hok2 j hj
theorem zAj{P:Program}{ops:Array Oper}{i:Nat}{o:Oper}{σ:ASt}{K:ASt->List Nat×List Nat->Prop}{cl:Call}{fo:Operand}{f:FuncId}{caps:List AV}{args:List AV}{hd0 hd:List AObj}{n0 n:Nat}{F0 F:Nat->AObj}{res:AV}{kp:List Nat}(hspec:FnK P f args (hd0++tab n0 F0) res (hd++tab n F) kp)(pih:List Nat)(b0:Nat)(ph:List Nat)(b q:Nat)
  (hg:gd ops σ o=some true) (hop:o.op= .call cl) (hc:cl.callee= .value fo) (hfo:σ.eval fo= .fn f caps) (hb:zBy P f=true) (hd':zAt σ o=true)
  (hargs:inPs σ.heap (poF pih b0 n0) q (cl.args.toList.map σ.eval++caps) args) (hobj:inOs σ.heap (poF pih b0 n0) q pih hd0) (hobj2: ∀j,j<n0->inO σ.heap (poF pih b0 n0) q (σ.heap (b0+j)) (F0 j)) (hndi:ndL pih) (hlt0: ∀k,k∈pih->k<b0)
  (hlen:ph.length=hd.length) (hndo:ndL ph) (hpo:zID kp i pih args hd0 hd 0 ph) (hbb:i<=b/\b+n<=i+1000000) (hlt: ∀k,k∈ph->k<b) (hok:hd.all okO=true) (hok2: ∀j,j<n->okO (F j)=true)
  (hK:K (callFF σ o.dst pih b0 n0 ph b n q res hd F) ((poF pih b0 n0++poF ph b n++refsVs (cl.args.toList.map σ.eval++caps)++(poF pih b0 n0).flatMap (zGn σ.heap))++(poF ph b n++poF pih b0 n0),poF ph b n++poF pih b0 n0)):zCB P ops i o σ K:=by
 have hl0:pih.length=hd0.length:=(zBg hobj).1;have heq:callF σ o.dst (poF pih b0 n0) ph b n q res hd F=callFF σ o.dst pih b0 n0 ph b n q res hd F:=by
  unfold callF callFF;rw[zKM _ _ _ _ hlt0]<;>rfl
 refine zIg (K:=K) hspec (poF pih b0 n0) (poF ph b n) q hg hop hc hfo hb hd' hargs (zGw hobj (zJ6 hobj2)) (zKt hndi hlt0) (by simp[poF,hlen]) (zKt hndo hlt) (zGT (fun j k hj=>?_)) ?_ (by rw[zGa hlen hlt,heq];exact hK)
 ·rcases zCV hj with⟨a1,a2⟩|⟨a1,a2,a3⟩
  ·rcases zDc hpo j k a2 with g|⟨g,t,c,ty,cs,ty',cs',g1,g2,g3,g4,g5⟩|⟨g,g1,g2⟩
   ·exact .inl g
   ·have hjl:0+j<pih.length:=(Qq.1 g).1;exact .inr (.inl ⟨by rw[zKw hjl];exact g,t,c,ty,cs,ty',cs',g1,by rw[Qw (by omega)];exact g2,g3,by rw[Qw (by omega)];exact g4,g5⟩)
   ·have hjl:0+j<pih.length:=(Qq.1 g).1;exact .inr (.inr ⟨by rw[zKw hjl];exact g,g1,by rw[List.length_append];omega⟩)
  ·exact .inl (by omega)
 ·rw[List.all_append,Qz];refine⟨hok,List.all_eq_true.2 fun x hx=>?_⟩;obtain⟨j,hj,rfl⟩:=Qb hx;rw[zAD]at hj;have:=zO F hj;rw[Qj (by simpa using hj)]at this;injection this with this;rw[this];exact hok2 j hj
theorem zDa(args:List AV)(hd:List AObj)(n:Nat)(F:Nat->AObj)(nt:Nat)(G:List AV):({ zCJ args (hd++tab n F) nt with gh:=G }:ASt)=mkF (idxE 0 args) (idxF 0 hd) hd.length n F (hd.length+n) nt G:=by rw[zPx];rfl
