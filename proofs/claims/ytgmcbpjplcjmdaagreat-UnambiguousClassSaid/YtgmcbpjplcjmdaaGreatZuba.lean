/- Lemmas for the law unambiguousClass. No conditions. -/
import Derived.Test.YtgmcbpjplcjmdaaGreatZuac
set_option linter.all false
namespace Go.Proofs.YtgmcbpjplcjmdaaGreat.M
open Go.RowKit
set_option maxRecDepth 100000
set_option maxHeartbeats 32000000

def ghB(m:Nat)(c:Nat->Nat):List AV:=(List.range m).map fun k=>.ptr k 0 (c k)
theorem zRB{m:Nat}{c:Nat->Nat}{d:Nat}{x:AV}(h:(ghB m c)[d]? =some x):d<m/\x= .ptr d 0 (c d):=by
 unfold ghB at h;rw[Qi]at h;by_cases hd:d<m
 ·rw[List.getElem?_range hd]at h;simp at h;exact⟨hd,h.symm⟩
 ·rw[Qh (by simpa using hd)]at h
  cases h
theorem zSw{m:Nat}{c:Nat->Nat}{d:Nat}(h:d<m):(ghB m c)[d]? =some (.ptr d 0 (c d)):=by
 unfold ghB;rw[Qi,List.getElem?_range h];rfl
theorem zFZ{P:Program}{f:FuncId}{fn:Func}{cd:Code}{args:List AV}{H H':List AObj}{res:AV}(m:Nat)(c:Nat->Nat)
  (hk: ∀k,k<m-> ∃ty cs,H[k]? =some (.box ty cs)/\cs.length=c k) (hk': ∀k,k<m-> ∃ty cs,H'[k]? =some (.box ty cs)/\cs.length=c k)
  (hf:P.funcs[f]? =some fn) (hb:fn.body=some cd) (hle:args.length<=fn.ntmps) (h:awp P cd (fun e σ=>zOr P fn.results.toList res H' e σ/\σ.gh=ghA args++ghB m c) { zCJ args H fn.ntmps with gh:=ghA args++ghB m c }):FnK P f args H res H' (List.range m):=by
 intro w V ob vs hm hn hv;refine calls_of_wp hf hb ?_;obtain⟨e,σ',h1,hq,hga⟩:=h;obtain⟨mm,un,he,hwh,hmp,hgh,l,hl,hmm⟩:=zA7 hq;have hob: ∀k,k<m-> ∃b,ob k=some (.pointer (some ⟨b,0,none⟩),c k):=fun k hkm=>by
  obtain⟨ty,cs,e1,e2⟩:=hk k hkm;obtain⟨-,u,e3,b,bs,rfl,-,-⟩:=hm.obj k _ e1;exact⟨b,by rw[e3];simp[AObj.cnt,e2]⟩
 have hga0:(ghA args).length=args.length:=by simp[ghA]
 obtain⟨gv,hgv⟩: ∃gv:Nat->Value,gv=fun i=>if i<args.length then vs.getD i undef else((ob (i-args.length)).map Prod.fst).getD undef:=⟨_,rfl⟩
 have hrel:Rel w V (OB ob) gv { zCJ args H fn.ntmps with gh:=ghA args++ghB m c } { tmps:=vs++Array.replicate (fn.ntmps-vs.size) undef,defers:=[] } w:=by
  refine⟨ob,hm,fun t=>?_,rfl,by simp[zCJ];omega,fun i d hi=>?_⟩
  ·show VR _ _ (args.getD t .any)
   cases hq:args[t]? with
   |none=>simp[hq];exact .any _
   |some c=>
    have hlt:t<vs.size:=by rw[hn];exact(Qq.1 hq).1
    have h1:=hv t c hq;have e:(vs++Array.replicate (fn.ntmps-vs.size) undef).getD t undef=vs.getD t undef:=by
     simp only[Array.getD,Array.size_append,Array.size_replicate,hlt,dif_pos,show t<vs.size+(fn.ntmps-vs.size) by omega];exact Array.getElem_append_left hlt
    rw[e];simp only[hq,Qv,Qd];exact h1
  ·have hi:(ghA args++ghB m c)[i]? =some d:=hi;by_cases hlt:i<args.length
   ·rw[Qw (by omega)]at hi;rw[hgv];simp only[hlt,if_true];unfold ghA at hi;rw[Qi]at hi
    cases hq:args[i]? with
    |none=>rw[hq]at hi;cases hi
    |some a=>
     rw[hq]at hi;simp only[Qg,Qx]at hi;subst hi;have h1:=hv i a hq
     cases a<;>first|exact h1|exact .any _
   ·rw[Qa (by omega),hga0]at hi;obtain⟨hd,rfl⟩:=zRB hi;obtain⟨b,hb⟩:=hob _ hd;obtain⟨ty,cs,e1,e2⟩:=hk _ hd;rw[hgv];simp only[hlt,if_false,hb,Qg,Qd];refine .ptr _ _ 0 _ rfl (Qq.1 e1).1 (fun u' n' hu'=>?_);have hu':ob (i-args.length)=some (u',n'):=hu';rw[hb]at hu';simp only[Qx,Qk]at hu';obtain⟨rfl,rfl⟩:=hu';exact⟨Qy _,fun _=>⟨b,rfl,rfl⟩⟩
 refine wp_mono (h1 w V _ _ _ w hrel) ?_;rintro e' a w' ⟨rfl,ob2,m1,m2,m3,m4,m5⟩;obtain⟨rs,r1,r2,r3⟩:=zA8 (P:=P) m1 m2 fn.results.toList l hl;have hm2:=m1.wk (nx:=H'.length) (fun id o ho=>⟨(Qq.1 ho).1,hwh id o ho⟩) hmp;have hgall: ∀(i:Nat) d,(ghA args++ghB m c)[i]? =some d->VR (zV w.heap.size V (obW ob2 (fun k=>H'[k]?) mm) (fun k=>k<H'.length) w') (gv i) d:=fun i d hi=>by
  obtain⟨a',ha,hac⟩:=(zAG hgh).2 i d (by rw[hga];exact hi);exact(m5 i a' ha).wk m1 hmp d hac
 have hkeep: ∀k,k<m->obW ob2 (fun k=>H'[k]?) mm k=ob k:=fun k hkm=>by
  have q:=hgall (args.length+k) (.ptr k 0 (c k)) (by rw[Qa (by omega),hga0,Nat.add_sub_cancel_left];exact zSw hkm);obtain⟨ty,cs,e1,e2⟩:=hk' k hkm;obtain⟨-,u',g1,b',bs,rfl,-,-⟩:=hm2.obj k _ e1;obtain⟨b,hb⟩:=hob k hkm;have e3:gv (args.length+k)= .pointer (some ⟨b,0,none⟩):=by
   rw[hgv];simp only[show ¬(args.length+k<args.length) by omega,if_false,Nat.add_sub_cancel_left,hb];rfl
  rw[e3]at q;generalize hv0:Value.pointer (some ⟨b,0,none⟩)=v0 at q
  cases q with
  |ptr v id off c' g0 hU hh=>
   obtain⟨b0,x1,x2⟩:=(hh _ _ g1).2 (by simp[AObj.cnt,e2]);rw[←hv0]at x2;simp only[blk,Qx]at x1;simp only[Value.pointer.injEq,Qx,Addr.mk.injEq]at x2;rw[g1,hb];have:b'=b:=by omega
   rw[this];simp[AObj.cnt,e2]
 have fin:a.defers=[]/\ ∃v,(results fn a.tmps).run P w'= .ok v w'/\ ∃v' ob',Ending.returned v= .returned v'/\MR w V (OB ob) (fun k=>k<H'.length) (fun k=>H'[k]?) ob' w'/\VR (zV w.heap.size V ob' (fun k=>k<H'.length) w') v' res/\GhR (zV w.heap.size V ob' (fun k=>k<H'.length) w') (fun i=>vs.getD i undef) (ghA args)/\ ∀j,j∈List.range m->ob' j=ob j:=by
  refine⟨m3,?_⟩;have hrun:(results fn a.tmps).run P w'= .ok (if h:rs.toArray.size=1 then rs.toArray[0]else .tuple rs.toArray) w':=by
   rw[zCl,Array.mapM_eq_mapM_toList];simp[r1]
  refine⟨_,hrun,_,_,rfl,hm2,?_,fun i d hi=>?_,fun j hj=>hkeep j (List.mem_range.1 hj)⟩
  ·split at hmm
   ·rename_i x;have hl1:rs.length=1:=by simpa using r2
    obtain⟨v,rfl⟩: ∃v,rs=[v]:=by
     cases rs with
     |nil=>simp at hl1
     |cons v r=>cases r with
      |nil=>exact⟨v,rfl⟩
      |cons _ _=>simp at hl1
    exact(r3 0 v x rfl rfl).wk m1 hmp res hmm
   ·rename_i l' bs hne;obtain⟨e1,e2⟩:=zAG hmm.2;have hl1: ¬rs.toArray.size=1:=by simp;omega
    rw[dif_neg hl1];refine .tup _ _ (by simp;omega) (fun i b hi=>?_);obtain⟨x,hx,hxb⟩:=e2 i b hi;have hlt:i<rs.length:=by rw[r2];exact(Qq.1 hx).1
    have:=(r3 i rs[i] x (by simp) hx).wk m1 hmp b hxb;have e:rs.toArray.getD i undef=rs[i]:=by simp[Array.getD,hlt]
    rw[e];exact this
   ·exact hmm.elim
  ·have hlt:i<args.length:=by rw[←hga0];exact(Qq.1 hi).1
   have:=hgall i d (by rw[Qw (by omega)];exact hi);rw[hgv]at this;simpa[hlt]using this
 rcases he with rfl|rfl<;>exact fin
