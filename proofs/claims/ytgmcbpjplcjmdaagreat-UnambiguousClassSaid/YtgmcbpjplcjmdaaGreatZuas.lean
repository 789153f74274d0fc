/- Lemmas for the law unambiguousClass. No conditions. -/
import Derived.Test.YtgmcbpjplcjmdaaGreatZuah
set_option linter.all false
namespace Go.Proofs.YtgmcbpjplcjmdaaGreat.M
open Go.RowKit
set_option maxRecDepth 100000
set_option maxHeartbeats 32000000

def ClE(gs els:List (List Int)):Prop:=∀e∈els,∀g∈gs,zn e g∈els
section
variable{n:Nat}{gs els els':List (List Int)}{pre last pre' last':List Int}{wds wds':List (List Nat)}
theorem EnL.zUH(h:EnL n gs els pre last wds){t p x:Nat}{u:List Nat}(hp:wds[p]? =some u)(hw:wds[t]? =some (u++[x]))(hx:x<gs.length):els[t]? =some (zn (els.getD p []) (gs.getD x [])):=by
 have hle:=h.le;have h1:=(Qq.1 hp).1;have h2:=(Qq.1 hw).1;have e1:=(h.val p u _ hp (Qj (show p<els.length by omega))).1;have e2:=(h.val t _ _ hw (Qj (show t<els.length by omega))).1;rw[Qj (show t<els.length by omega),e2,zCs,←e1,Qv (l:=els),Qj (show p<els.length by omega)];rfl
theorem EnL.agree(h:EnL n gs els pre last wds)(h':EnL n gs els' pre' last' wds'): ∀t,t<els.length->t<els'.length->els[t]? =els'[t]? /\pre[t]? =pre'[t]? /\last[t]? =last'[t]? /\wds[t]? =wds'[t]?:=by
 intro t
 induction t using Nat.strongRecOn with
 |_ t ih=>
  intro h1 h2;by_cases h0:t=0
  ·subst h0;have z: ∀{els:List (List Int)} {pre last:List Int} {wds:List (List Nat)},EnL n gs els pre last wds->pre[0]? =some (-1)/\last[0]? =some (-1):=fun {els pre last wds} h=>by
    obtain⟨p,l,e1,e2,hc⟩:=h.wd.at_ 0 [] h.one.2;rcases hc with⟨rfl,rfl,-⟩|⟨x,-,-,hc|⟨j,v,-,-,-,hc⟩⟩
    ·exact⟨e1,e2⟩
    ·simp at hc
    ·simp at hc
   rw[h.one.1,h'.one.1,h.one.2,h'.one.2,(z h).1,(z h').1,(z h).2,(z h').2];exact⟨rfl,rfl,rfl,rfl⟩
  ·obtain⟨p,x,u,p1,p2,p3,p4,p5,p6,p7⟩:=h.cn t (by omega) h1;obtain⟨q,y,v,q1,q2,q3,q4,q5,q6,q7⟩:=h'.cn t (by omega) h2;have htk:els.take t=els'.take t:=List.ext_getElem? fun i=>by
    rw[List.getElem?_take,List.getElem?_take];by_cases hi:i<t
    ·rw[if_pos hi,if_pos hi];exact(ih i hi (by omega) (by omega)).1
    ·rw[if_neg hi,if_neg hi]
   have key: ∀{els els':List (List Int)} {pre last pre' last':List Int} {wds wds':List (List Nat)} {p x q y:Nat} {u:List Nat},EnL n gs els pre last wds->t<els.length->p<t->x<gs.length->wds[p]? =some u->wds[t]? =some (u++[x])->Bef gs (els.take t) q y-> ¬((p<q/\x<gs.length)\/(p=q/\x<y)):=by
    intro els els' pre last pre' last' wds wds' p x q y u h h1 p1 p2 p5 p6 hb hc;have ht:=h.zUH p5 p6 p2;have hp:els[p]? =some (els.getD p []):=by
     rw[Qv,Qj (by omega)];rfl
    have hg:gs[x]? =some (gs.getD x []):=by
     rw[Qv,Qj p2];rfl
    have hm:=hb p x hc _ _ (by rw[List.getElem?_take,if_pos p1];exact hp) hg;obtain⟨i,hi,e⟩:=Qb hm;have hi':i<t:=by rw[List.length_take]at hi;omega
    have:els[i]? =some (zn (els.getD p []) (gs.getD x [])):=by
     rw[←e,List.getElem_take,Qj]
    have:=h.nd i t _ this ht;omega
   have k1:=key (els':=els) (pre':=pre) (last':=last) (wds':=wds) h h1 p1 p2 p5 p6 (htk▸q7);have k2:=key (els':=els) (pre':=pre) (last':=last) (wds':=wds) h' h2 q1 q2 q5 q6 (htk▸p7);have epq:p=q:=by
    rcases Nat.lt_trichotomy p q with c|c|c
    ·exact absurd (.inl ⟨c,p2⟩) k1
    ·exact c
    ·exact absurd (.inl ⟨c,q2⟩) k2
   subst epq;have exy:x=y:=by
    rcases Nat.lt_trichotomy x y with c|c|c
    ·exact absurd (.inr ⟨rfl,c⟩) k1
    ·exact c
    ·exact absurd (.inr ⟨rfl,c⟩) k2
   subst exy;obtain⟨i1,-,-,i4⟩:=ih p p1 (by omega) (by omega);rw[p5,q5]at i4;injection i4 with i4;subst i4;refine⟨?_,by rw[p3,q3],by rw[p4,q4],by rw[p6,q6]⟩;rw[h.zUH p5 p6 p2,h'.zUH q5 q6 q2,Qv (l:=els),Qv (l:=els'),i1]
theorem EnL.zG0(h:EnL n gs els pre last wds)(h':EnL n gs els' pre' last' wds')(hc:ClE gs els):els'.length<=els.length:=by
 refine Nat.le_of_not_lt fun hlt=>?_
 have h0:=(Qq.1 h.one.1).1;obtain⟨q,y,v,q1,q2,q3,q4,q5,q6,q7⟩:=h'.cn els.length h0 hlt;have ht:=h'.zUH q5 q6 q2;have e1:=(h.agree h' q q1 (by omega)).1;have hm:=hc (els.getD q []) (by rw[Qv,Qj q1];simp) (gs.getD y []) (by rw[Qv,Qj q2];simp);obtain⟨i,hi,e⟩:=Qb hm;have e2:els'[i]? =some (zn (els'.getD q []) (gs.getD y [])):=by
  rw[←(h.agree h' i hi (by omega)).1,Qj hi,e,Qv,e1,←Qv]
 have:=h'.nd i els.length _ e2 ht;omega
theorem EnL.eq(h:EnL n gs els pre last wds)(h':EnL n gs els' pre' last' wds')(hc:ClE gs els)(hc':ClE gs els'):els=els'/\pre=pre'/\last=last'/\wds=wds':=by
 have l1:=h.zG0 h' hc;have l2:=h'.zG0 h hc';have hl:els.length=els'.length:=by omega
 have a1:=h.le;have a2:=h.wd.lp;have a3:=h.wd.ll;have b1:=h'.le;have b2:=h'.wd.lp;have b3:=h'.wd.ll;refine⟨List.ext_getElem? fun i=>?_,List.ext_getElem? fun i=>?_,List.ext_getElem? fun i=>?_,List.ext_getElem? fun i=>?_⟩<;>by_cases hi:i<els.length
 ·exact(h.agree h' i hi (by omega)).1
 ·rw[Qh (by omega),Qh (by omega)]
 ·exact(h.agree h' i hi (by omega)).2.1
 ·rw[Qh (by omega),Qh (by omega)]
 ·exact(h.agree h' i hi (by omega)).2.2.1
 ·rw[Qh (by omega),Qh (by omega)]
 ·exact(h.agree h' i hi (by omega)).2.2.2
 ·rw[Qh (by omega),Qh (by omega)]
end
