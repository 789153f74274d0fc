/- Lemmas for the law unambiguousClass. No conditions. -/
import Derived.Test.YtgmcbpjplcjmdaaGreatZubd
import Derived.Test.YtgmcbpjplcjmdaaGreatZube
set_option linter.all false
namespace Go.Proofs.YtgmcbpjplcjmdaaGreat.M
open Go.RowKit
set_option maxRecDepth 100000
set_option maxHeartbeats 32000000

def prR:List (List Int)->Nat
 |[]=>1
 |r::R=>r.length*prR R
def rkR:List (List Int)->List Nat->Nat
 |r::R,n::N=>n*prR R+rkR R N
 |_,_=>0
theorem zTm: ∀{R:List (List Int)} {N:List Nat},NOk R N->rkR R N<prR R
 |[],N,h=>by
  obtain rfl:=h.nil;show 0<1;omega
 |r::R,N,h=>by
  obtain⟨n,N,rfl⟩:=h.ex;obtain⟨h1,h2⟩:=h.cons;have h3:=zTm h2;have h4:(n+1)*prR R<=r.length*prR R:=Nat.mul_le_mul_right _ h1;rw[Nat.add_mul,Nat.one_mul]at h4;show n*prR R+rkR R N<r.length*prR R;omega
theorem zMN: ∀R:List (List Int),rkR R (List.replicate R.length 0)=0
 |[]=>rfl
 |r::R=>by
  show 0*prR R+rkR R (List.replicate R.length 0)=0;rw[zMN R,Nat.zero_mul]
theorem zMA: ∀{R:List (List Int)} {N:List Nat},NOk R N->(zEx R N).2=false->rkR R N+1=prR R
 |[],N,h,_=>by
  obtain rfl:=h.nil;rfl
 |r::R,N,h,ha=>by
  obtain⟨n,N,rfl⟩:=h.ex;obtain⟨h1,h2⟩:=h.cons;rw[zCX]at ha;by_cases ht:(zEx R N).2=true
  ·rw[if_pos ht]at ha;cases ha
  rw[if_neg ht]at ha;by_cases hn:n+1<r.length
  ·rw[if_pos hn]at ha;cases ha
  have h3:=zMA h2 (by simpa using ht);show n*prR R+rkR R N+1=r.length*prR R;rw[show r.length=n+1 by omega,Nat.add_mul,Nat.one_mul];omega
theorem zQo: ∀{R:List (List Int)} {N:List Nat},NOk R N->(zEx R N).2=true->rkR R (zEx R N).1=rkR R N+1
 |[],N,h,ha=>by
  obtain rfl:=h.nil
  cases ha
 |r::R,N,h,ha=>by
  obtain⟨n,N,rfl⟩:=h.ex;obtain⟨h1,h2⟩:=h.cons;rw[zCX]at ha ⊢;by_cases ht:(zEx R N).2=true
  ·rw[if_pos ht];show n*prR R+rkR R (zEx R N).1=n*prR R+rkR R N+1;rw[zQo h2 ht];omega
  rw[if_neg ht]at ha ⊢;by_cases hn:n+1<r.length
  ·rw[if_pos hn];have h3:=zMA h2 (by simpa using ht);show(n+1)*prR R+rkR R (zEx R N).1=n*prR R+rkR R N+1;rw[(zDW h2 (by simpa using ht)).1,zMN,Nat.add_mul,Nat.one_mul];omega
  ·rw[if_neg hn]at ha;cases ha
theorem zKk{v1 v2:List Nat->Nat}{R:List (List Int)}: ∀(f s:Nat) (N:List Nat),NOk R N->prR R<=rkR R N+f->(runH v1 v2 R f s N).2.2.1=true
 |0,s,N,hN,h=>by have:=zTm hN;omega
 |f+1,s,N,hN,h=>by
  rw[runH];by_cases hne:v1 N≠v2 N
  ·rw[if_pos hne]
  rw[if_neg hne];have hL:=zOo (R:=R) (N:=N) hN.len;by_cases h2:(zIO R N).2=true
  ·rw[if_pos h2];refine zKk f (s+1) _ (zFG hN) ?_;rw[hL]at h2 ⊢;rw[zQo hN h2];omega
  ·rw[if_neg h2]
theorem zQO{T:Nat->Nat->Nat}{n:Nat}(hT: ∀r c,r<n->c<n->T r c<n):zI6 T n (idL n):=by
 have hl:(idL n).length=n:=by simp[idL]
 have hat: ∀i (h:i<(idL n).length),(idL n)[i]=(i:Int):=fun i h=>by simp[idL,tab]
 refine⟨fun i h=>?_,fun i h=>?_,fun x hx y hy=>?_⟩
 ·rw[hat];omega
 ·rw[hat,hat];omega
 ·have hx:=(zFh n).2 x hx;have hy:=(zFh n).2 y hy;have:=hT x.toNat y.toNat (by omega) (by omega);have h3:=hat (T x.toNat y.toNat) (by omega);rw[←h3];exact List.getElem_mem _
theorem zQA{tb:List (List Int)}{n:Nat}(hn:tb.length=n)(v1:zCQ tb=0){a b:Tm}(hv:a.val=true/\b.val=true)(h6: ¬(idI (zP tb) n<0/\(a.zCN||b.zCN)=true)){B:Nat}(hB1:1<=B)(hB2:B<=1048576)
  {R:List (List Int)} (hR:R=zD8 (zP tb) (idL n) a b) (hp:prR R<=B) (he:zLs R=false):
  (zFa tb (idL n) a b B).2.1<=B/\(((zFa tb (idL n) a b B).2.2=9/\ ∀X,NOk R X->asV (zP tb) n R a X=asV (zP tb) n R b X)∨
   ((zFa tb (idL n) a b B).2.2=0/\ ∃X,NOk R X/\asV (zP tb) n R a X≠asV (zP tb) n R b X)):=by
 subst hn;have h0:zDL tb (idL tb.length) a b=0:=by
  have hc:=zJS (zQO (TbL.of v1).lt);unfold zDL;rw[if_neg (by omega),if_neg (by rw[hc];decide),if_neg (by rw[hv.1,hv.2];decide),if_neg h6]
 unfold zFa;rw[←hR,if_neg (by rw[h0];decide),if_neg (by omega),if_neg (by rw[he];decide)];have hz:=zMo he;have hb: ∀X,NOk R X->ltL X (List.replicate R.length 0)->asV (zP tb) tb.length R a X=asV (zP tb) tb.length R b X:=fun X _ h=>absurd h (zero_min _ _)
 obtain⟨r1,r2⟩:=zHV (v1:=asV (zP tb) tb.length R a) (v2:=asV (zP tb) tb.length R b) B 0 _ hz hb;have hok:=zJg (v1:=asV (zP tb) tb.length R a) (v2:=asV (zP tb) tb.length R b) B 0 hz;have hd:=zKk (v1:=asV (zP tb) tb.length R a) (v2:=asV (zP tb) tb.length R b) B 0 _ hz (by rw[zMN];omega);unfold zQj;rw[show((B:Nat):Int).toNat=B from Int.toNat_natCast B];generalize runH (asV (zP tb) tb.length R a) (asV (zP tb) tb.length R b) R B 0 (List.replicate R.length 0)=y at r1 r2 hok hd ⊢;obtain⟨k1,k2,k3⟩:=hok;by_cases h1:y.2.1=true
 ·rw[if_pos h1];exact⟨show y.1<=B by omega,.inr ⟨rfl,_,k1,(r1 h1).1⟩⟩
 ·rw[if_neg h1,if_pos hd];exact⟨show y.1<=B by omega,.inl ⟨rfl,r2 (by simpa using h1) hd⟩⟩
theorem zMT{n:Nat}{X:List Nat}:NOk [idL n,idL n] X↔ ∃i j,i<n/\j<n/\X=[i,j]:=by
 have hl:(idL n).length=n:=by simp[idL]
 constructor
 ·intro h;obtain⟨i,Y,rfl⟩:=h.ex;obtain⟨h1,h2⟩:=h.cons;obtain⟨j,Z,rfl⟩:=h2.ex;obtain⟨h3,h4⟩:=h2.cons;obtain rfl:=h4.nil;exact⟨i,j,by omega,by omega,rfl⟩
 ·rintro⟨i,j,hi,hj,rfl⟩;refine⟨rfl,fun k hk=>?_⟩;have hk:k<2:=hk;rcases(by omega:k=0\/k=1)with rfl|rfl
  ·simpa[hl]using hi
  ·simpa[hl]using hj
theorem zRN{n i j:Nat}(hi:i<n)(hj:j<n):(zGG [idL n,idL n] [i,j] 0).toNat=i/\(zGG [idL n,idL n] [i,j] 1).toNat=j:=by
 have h: ∀k,k<n->((idL n).getD k 0).toNat=k:=fun k hk=>by simp[idL,tab,Qv,hk]
 exact⟨h i hi,h j hj⟩
def viX:Tm:=.mk 2 0 []
def viY:Tm:=.mk 2 1 []
def viW:Tm:=.mk 4 0 [.mk 3 0 [viX,viY]]
