/- Lemmas for the law AperiodicMember. No conditions. -/
import Derived.Test.YtjkeafkjjaploaaGreatZqbh
import Derived.Test.YtjkeafkjjaploaaGreatZqbi
set_option linter.all false
namespace Go.Proofs.YtjkeafkjjaploaaGreat.M
open Go.RowKit
set_option maxRecDepth 100000
set_option maxHeartbeats 32000000

def prR:List (List Int)->Nat
 |[]=>1
 |r::R=>r.length*prR R
def rkR:List (List Int)->List Nat->Nat
 |r::R,n::N=>n*prR R+rkR R N
 |_,_=>0
theorem zVJ: ∀{R:List (List Int)} {N:List Nat},NOk R N->rkR R N<prR R
 |[],N,h=>by
  obtain rfl:=h.nil;show 0<1;omega
 |r::R,N,h=>by
  obtain⟨n,N,rfl⟩:=h.ex;obtain⟨h1,h2⟩:=h.cons;have h3:=zVJ h2;have h4:(n+1)*prR R<=r.length*prR R:=Nat.mul_le_mul_right _ h1;rw[Nat.add_mul,Nat.one_mul]at h4;show n*prR R+rkR R N<r.length*prR R;omega
theorem zNk: ∀R:List (List Int),rkR R (List.replicate R.length 0)=0
 |[]=>rfl
 |r::R=>by
  show 0*prR R+rkR R (List.replicate R.length 0)=0;rw[zNk R,Nat.zero_mul]
theorem zMJ: ∀{R:List (List Int)} {N:List Nat},NOk R N->(zFJ R N).2=false->rkR R N+1=prR R
 |[],N,h,_=>by
  obtain rfl:=h.nil;rfl
 |r::R,N,h,ha=>by
  obtain⟨n,N,rfl⟩:=h.ex;obtain⟨h1,h2⟩:=h.cons;rw[zCc]at ha;by_cases ht:(zFJ R N).2=true
  ·rw[if_pos ht]at ha;cases ha
  rw[if_neg ht]at ha;by_cases hn:n+1<r.length
  ·rw[if_pos hn]at ha;cases ha
  have h3:=zMJ h2 (by simpa using ht);show n*prR R+rkR R N+1=r.length*prR R;rw[show r.length=n+1 by omega,Nat.add_mul,Nat.one_mul];omega
theorem zRt: ∀{R:List (List Int)} {N:List Nat},NOk R N->(zFJ R N).2=true->rkR R (zFJ R N).1=rkR R N+1
 |[],N,h,ha=>by
  obtain rfl:=h.nil
  cases ha
 |r::R,N,h,ha=>by
  obtain⟨n,N,rfl⟩:=h.ex;obtain⟨h1,h2⟩:=h.cons;rw[zCc]at ha ⊢;by_cases ht:(zFJ R N).2=true
  ·rw[if_pos ht];show n*prR R+rkR R (zFJ R N).1=n*prR R+rkR R N+1;rw[zRt h2 ht];omega
  rw[if_neg ht]at ha ⊢;by_cases hn:n+1<r.length
  ·rw[if_pos hn];have h3:=zMJ h2 (by simpa using ht);show(n+1)*prR R+rkR R (zFJ R N).1=n*prR R+rkR R N+1;rw[(zDO h2 (by simpa using ht)).1,zNk,Nat.add_mul,Nat.one_mul];omega
  ·rw[if_neg hn]at ha;cases ha
theorem zKl{v1 v2:List Nat->Nat}{R:List (List Int)}: ∀(f s:Nat) (N:List Nat),NOk R N->prR R<=rkR R N+f->(zEB v1 v2 R f s N).2.2.1=true
 |0,s,N,hN,h=>by have:=zVJ hN;omega
 |f+1,s,N,hN,h=>by
  rw[zEB];by_cases hne:v1 N≠v2 N
  ·rw[if_pos hne]
  rw[if_neg hne];have hL:=zO1 (R:=R) (N:=N) hN.len;by_cases h2:(zId R N).2=true
  ·rw[if_pos h2];refine zKl f (s+1) _ (zEh hN) ?_;rw[hL]at h2 ⊢;rw[zRt hN h2];omega
  ·rw[if_neg h2]
theorem zQL{T:Nat->Nat->Nat}{n:Nat}(hT: ∀r c,r<n->c<n->T r c<n):zJ4 T n (idL n):=by
 have hl:(idL n).length=n:=by simp[idL]
 have hat: ∀i (h:i<(idL n).length),(idL n)[i]=(i:Int):=fun i h=>by simp[idL,tab]
 refine⟨fun i h=>?_,fun i h=>?_,fun x hx y hy=>?_⟩
 ·rw[hat];omega
 ·rw[hat,hat];omega
 ·have hx:=(zF6 n).2 x hx;have hy:=(zF6 n).2 y hy;have:=hT x.toNat y.toNat (by omega) (by omega);have h3:=hat (T x.toNat y.toNat) (by omega);rw[←h3];exact List.getElem_mem _
theorem zQW{tb:List (List Int)}{n:Nat}(hn:tb.length=n)(v1:zC1 tb=0){a b:Tm}(hv:a.val=true/\b.val=true)(h6: ¬(idI (zQ tb) n<0/\(a.zCS||b.zCS)=true)){B:Nat}(hB1:1<=B)(hB2:B<=1048576)
  {R:List (List Int)} (hR:R=zEG (zQ tb) (idL n) a b) (hp:prR R<=B) (he:zL7 R=false):
  (zF2 tb (idL n) a b B).2.1<=B/\(((zF2 tb (idL n) a b B).2.2=9/\ ∀X,NOk R X->asV (zQ tb) n R a X=asV (zQ tb) n R b X)∨
   ((zF2 tb (idL n) a b B).2.2=0/\ ∃X,NOk R X/\asV (zQ tb) n R a X≠asV (zQ tb) n R b X)):=by
 subst hn;have h0:zDh tb (idL tb.length) a b=0:=by
  have hc:=zJ5 (zQL (TbL.of v1).lt);unfold zDh;rw[if_neg (by omega),if_neg (by rw[hc];decide),if_neg (by rw[hv.1,hv.2];decide),if_neg h6]
 unfold zF2;rw[←hR,if_neg (by rw[h0];decide),if_neg (by omega),if_neg (by rw[he];decide)];have hz:=zOv he;have hb: ∀X,NOk R X->ltL X (List.replicate R.length 0)->asV (zQ tb) tb.length R a X=asV (zQ tb) tb.length R b X:=fun X _ h=>absurd h (zero_min _ _)
 obtain⟨r1,r2⟩:=zHI (v1:=asV (zQ tb) tb.length R a) (v2:=asV (zQ tb) tb.length R b) B 0 _ hz hb;have hok:=zJz (v1:=asV (zQ tb) tb.length R a) (v2:=asV (zQ tb) tb.length R b) B 0 hz;have hd:=zKl (v1:=asV (zQ tb) tb.length R a) (v2:=asV (zQ tb) tb.length R b) B 0 _ hz (by rw[zNk];omega);unfold zR2;rw[show((B:Nat):Int).toNat=B from Int.toNat_natCast B];generalize zEB (asV (zQ tb) tb.length R a) (asV (zQ tb) tb.length R b) R B 0 (List.replicate R.length 0)=y at r1 r2 hok hd ⊢;obtain⟨k1,k2,k3⟩:=hok;by_cases h1:y.2.1=true
 ·rw[if_pos h1];exact⟨show y.1<=B by omega,.inr ⟨rfl,_,k1,(r1 h1).1⟩⟩
 ·rw[if_neg h1,if_pos hd];exact⟨show y.1<=B by omega,.inl ⟨rfl,r2 (by simpa using h1) hd⟩⟩
def viX:Tm:=.mk 2 0 []
