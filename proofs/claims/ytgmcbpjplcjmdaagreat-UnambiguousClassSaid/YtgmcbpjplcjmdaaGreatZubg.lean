/- Lemmas for the law unambiguousClass. No conditions. -/
import Derived.Test.YtgmcbpjplcjmdaaGreatZubc
import Derived.Test.YtgmcbpjplcjmdaaGreatZubf
set_option linter.all false
namespace Go.Proofs.YtgmcbpjplcjmdaaGreat.M
open Go.RowKit
set_option maxRecDepth 100000
set_option maxHeartbeats 32000000

def daP(n:Nat)(T:Nat->Nat->Nat):Prop:=∀x y,x<n->y<n->T (T (omT T n (T x y)) x) (omT T n (T x y))=omT T n (T x y)
theorem zQw.daM{L N:Nat}{tb:List (List Int)}{ws:List (List Nat)}{im:List Int}{ac pl:List Bool}(h:zQw L N tb ws im ac pl)(hd:daP N (zP tb)):DaM N (zP tb) (imN im):=by
 refine⟨h.hS.n1,h.ht.lt,h.hA,fun x hx=>(h.one x hx).1,fun x hx=>(h.one x hx).2,hd,fun a=>?_⟩;have hn1:=h.hS.n1;by_cases c:a<im.length
 ·have h0:=h.hS.ir _ (List.getElem_mem c);show(im.getD a 0).toNat<N;rw[Qv,Qj c,Qd];omega
 ·have:imN im a=0:=by simp[imN,Qv,show im.length<=a by omega]
  rw[this];exact hn1
def viD:Tm:=.mk 3 0 [viW,viX,viW]
theorem zTQ(T:Nat->Nat->Nat)(set:List Int):zD8 T set viD viW=[set,set]:=by
 have e: ∀i,i<2->zL4 T set viD viW i=set:=fun i hi=>by
  unfold zL4;rw[List.filter_eq_self];intro x _;have:viD.els i (0,0)=true:=by rcases(by omega:i=0\/i=1)with rfl|rfl<;>kernel_rfl
  rw[this];simp
 have g:max viD.gr viW.gr=2:=by kernel_rfl
 unfold zD8;rw[g];show [zL4 T set viD viW 0,zL4 T set viD viW 1]=_;rw[e 0 (by omega),e 1 (by omega)]
theorem zVC(T:Nat->Nat->Nat)(n one:Nat)(v:Nat->Nat):viW.ev T n one v=omT T n (T (v 0) (v 1))/\viD.ev T n one v=T (T (omT T n (T (v 0) (v 1))) (v 0)) (omT T n (T (v 0) (v 1))):=⟨rfl,rfl⟩
theorem zTf{tb:List (List Int)}{n B:Nat}(hn:tb.length=n)(h1:1<=n)(v1:zCQ tb=0)(hB:n*n<=B)(hB2:B<=1048576):
  (zFa tb (idL n) viD viW (B:Nat)).2.1<=B/\(((zFa tb (idL n) viD viW (B:Nat)).2.2=9/\daP n (zP tb))\/((zFa tb (idL n) viD viW (B:Nat)).2.2=0/\ ¬daP n (zP tb))):=by
 have hl:(idL n).length=n:=by simp[idL]
 have hR:=(zTQ (zP tb) (idL n)).symm;have hv:viD.val=true/\viW.val=true:=⟨by kernel_rfl,by kernel_rfl⟩;have h6:(viD.zCN||viW.zCN)=false:=by kernel_rfl
 have hnn:1*1<=n*n:=Nat.mul_le_mul h1 h1;have hp:prR [idL n,idL n]<=B:=by
  show(idL n).length*((idL n).length*1)<=B;rw[hl,Nat.mul_one];exact hB
 have he:zLs [idL n,idL n]=false:=by
  unfold zLs;rw[List.any_eq_false];intro l hx;simp only[List.mem_cons,List.not_mem_nil,or_false]at hx;obtain rfl:l=idL n:=by rcases hx with h|h<;>exact h
  simp[hl];omega
 have hF:=zQA hn v1 hv (fun h=>by rw[h6]at h;cases h.2) (B:=B) (by omega) (by omega) hR hp he;have hev: ∀x y,x<n->y<n->asV (zP tb) n [idL n,idL n] viD [x,y]=zP tb (zP tb (omT (zP tb) n (zP tb x y)) x) (omT (zP tb) n (zP tb x y))/\asV (zP tb) n [idL n,idL n] viW [x,y]=omT (zP tb) n (zP tb x y):=fun x y hx hy=>by
  obtain⟨e0,e1⟩:=zRN hx hy;unfold asV;obtain⟨f1,f2⟩:=zVC (zP tb) n (idI (zP tb) n).toNat (fun i=>(zGG [idL n,idL n] [x,y] i).toNat);rw[e0,e1]at f1 f2;exact⟨f2,f1⟩
 obtain⟨k1,k2⟩:=hF;refine⟨k1,?_⟩;rcases k2 with⟨k2,k3⟩|⟨k2,X,k3,k4⟩
 ·refine .inl ⟨k2,fun x y hx hy=>?_⟩;have:=k3 [x,y] (zMT.2 ⟨x,y,hx,hy,rfl⟩)
  rwa [(hev x y hx hy).1,(hev x y hx hy).2]at this
 ·obtain⟨x,y,hx,hy,rfl⟩:=zMT.1 k3;refine .inr ⟨k2,fun h=>k4 ?_⟩;rw[(hev x y hx hy).1,(hev x y hx hy).2];exact h x y hx hy
theorem zUu:zL3 (zDT[10]'(by decide)).fst=(viD,viW,-1,0):=by kernel_rfl
theorem zUt:(zDT[10]'(by decide)).fst.size<=1000:=by decide
theorem zCb:FnA Tryz.prog 10 [.t 2 (.str ⟨#[100,97]⟩)] (.t 2 (.int .i64 10)):=zPt _ (k:=10) (by omega) rfl (fun j h hj=>by
 have e: ∀j:Fin 17,j.1<10-> ¬(zDT[j.1]'j.2).nm.toList=(⟨#[100,97]⟩:ByteArray).toList:=by decide +kernel
 exact e ⟨j,h⟩ hj)
noncomputable def daB(n:Nat)(T:Nat->Nat->Nat):Bool:=@decide (daP n T) (Classical.propDecidable _)
theorem zDw{n:Nat}{T:Nat->Nat->Nat}:daB n T=true↔daP n T:=by unfold daB;exact @decide_eq_true_iff _ (Classical.propDecidable _)
theorem zDA{L N B:Nat}{tb:List (List Int)}{ws:List (List Nat)}{im:List Int}{ac pl:List Bool}(h:zQw L N tb ws im ac pl)(v1:zCQ tb=0)(hval:FnA Tryz.prog 32 [syV 0 L tb ws im ac pl] (.t 2 (.int .i64 0)))(hB:N*N<=B)(hB2:B<=1048576):
  ∃(i st:Int) (vl:T),FnA Tryz.prog 9 [syV 1 L tb ws im ac pl,.t 2 (.int .i64 10),.t 2 (.int .i64 B)] (.tup [.t 2 (.bool (daB N (zP tb))),.t 2 (.int .i64 i),.t 1 vl,.t 2 (.int .i64 st),.t 2 (.int .i64 0)]):=by
 have hn1:=h.hS.n1;have hnn:1*1<=N*N:=Nat.mul_le_mul hn1 hn1;obtain⟨s1,k1⟩:=zTf h.ht.len hn1 v1 hB hB2;obtain⟨_,⟨i1,t1,v1,rfl⟩,hm1⟩:=zLM (c:=10) viD viW h.hS.pll h.hS.n2 hval (by omega) rfl zUt zUu rfl (B:=B) (by omega) hB2 (by
  rcases k1 with⟨k,-⟩|⟨k,-⟩
  ·exact .inr k
  ·exact .inl k) (by omega)
 refine⟨i1,t1,v1,?_⟩;rcases k1 with⟨k,k'⟩|⟨k,k'⟩
 ·rw[decide_eq_true k]at hm1;rw[zDw.2 k'];exact hm1
 ·rw[show decide ((zFa tb (idL N) viD viW (B:Nat)).2.2=9)=false by rw[k];rfl]at hm1;have:daB N (zP tb)=false:=by
   cases e:daB N (zP tb)with
   |false=>rfl
   |true=>exact absurd (zDw.1 e) k'
  rw[this];exact hm1
