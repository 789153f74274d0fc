/- Lemmas for the law AperiodicMember. No conditions. -/
import Derived.Test.YtjkeafkjjaploaaGreatZqaw
set_option linter.all false
namespace Go.Proofs.YtjkeafkjjaploaaGreat.M
open Go.RowKit
set_option maxRecDepth 100000
set_option maxHeartbeats 32000000

def kBs:List Bool:=[false,false,true]
def kNx:List (List Int):=[[1,0],[1,2],[2,2]]
theorem zEn:DfL 2 3 0 kBs kNx:=⟨by omega,by omega,rfl,rfl,fun r hr=>by
 simp only[kNx,List.mem_cons,List.not_mem_nil,or_false]at hr;rcases hr with rfl|rfl|rfl<;>refine⟨rfl,fun v hv=>?_⟩<;>simp at hv<;>omega⟩
theorem zPC:MnD 2 3 kBs kNx:=by
 refine⟨zEn,fun t h1 h2=>?_,fun i j hi hj h=>?_⟩
 ·rcases(by omega:t=1\/t=2)with rfl|rfl
  ·exact⟨0,by decide,rfl,fun j hj=>by omega⟩
  ·refine⟨3,by decide,rfl,fun j hj=>?_⟩;rcases(by omega:j=0\/j=1\/j=2)with rfl|rfl|rfl<;>decide
 ·have e1:=h [] (by simp);have e2:=h [1] (by simp);rcases(by omega:i=0\/i=1\/i=2)with rfl|rfl|rfl<;>rcases(by omega:j=0\/j=1\/j=2)with rfl|rfl|rfl<;>first|rfl|(exact absurd e1 (by decide))|(exact absurd e2 (by decide))
theorem zRZ:MiX 2 3 0 kBs kNx 3 kBs kNx:=⟨Qy _,zPC,fun w _=>rfl⟩
def zPZ:List (List Int):=[[0,1,2],[1,1,2],[0,2,2],[2,2,2],[1,2,2]]
theorem zNs: ∀w:List Nat,(∀a∈w,a<2)->act 3 (tab 2 (lets 3 kNx)) w∈zPZ:=fun w=>by
 refine zBC (P:=fun w=>(∀a∈w,a<2)->act 3 (tab 2 (lets 3 kNx)) w∈zPZ) (fun _=>by decide) (fun u a ih hw=>?_) w;have ha:a<2:=hw a (by simp);have h1:=ih fun b hb=>hw b (by simp[hb])
 rw[zCD];generalize act 3 (tab 2 (lets 3 kNx)) u=e at h1 ⊢;have key: ∀e∈zPZ,∀a,a<2->zt e ((tab 2 (lets 3 kNx)).getD a [])∈zPZ:=by decide
 exact key e h1 a ha
theorem zQC{els:List (List Int)}{pre last:List Int}{wds:List (List Nat)}{right:List (List Int)}{r0:List Int}(h:SyX 2 3 kNx els pre last wds right r0):els.length=5:=by
 have hnd:els.Nodup:=by
  rw[List.nodup_iff_pairwise_ne,List.pairwise_iff_getElem];intro i j hi hj hij e;have:=h.pr.en.nd i j els[i] (by simp) (by simp[e]);omega
 have h1:=zBK (l:=els) (k:=zPZ) hnd (fun a ha=>by
  obtain⟨x,hx,rfl⟩:=Qb ha;obtain⟨w,hw,hr⟩:=h.rp hx;unfold Rp at hr;rw[Qj hx]at hr;rw[Option.some.inj hr];exact zNs w hw)
 have hin: ∀w:List Nat,(∀a∈w,a<2)->act 3 (tab 2 (lets 3 kNx)) w∈els:=fun w hw=>h.pr.zMi w (fun a ha=>by rw[zq];exact hw a ha)
 have h2:=zBK (l:=zPZ) (k:=els) (by decide) (fun a ha=>by
  simp only[zPZ,List.mem_cons,List.not_mem_nil,or_false]at ha;rcases ha with rfl|rfl|rfl|rfl|rfl
  ·exact hin [] (by simp)
  ·exact hin [0] (by simp)
  ·exact hin [1] (by simp)
  ·exact hin [0,1] (by simp)
  ·exact hin [1,0] (by simp))
 have h3:zPZ.length=5:=rfl;omega
def prt(w:List Nat)(a b:Nat):List Nat:=(w.drop a).take (b-a)
theorem zIu{w:List Nat}{a b:Nat}(h1:a<=b)(h2:b<=w.length):(prt w a b).length=b-a:=by
 unfold prt;simp;omega
theorem zM9(w:List Nat)(a:Nat):prt w a a=[]:=by
 unfold prt;simp
theorem zNn{w:List Nat}{a:Nat}(h:a<w.length):prt w a (a+1)=[w[a]]:=by
 unfold prt;rw[show a+1-a=1 by omega,List.drop_eq_getElem_cons h];rfl
theorem zJ9{w:List Nat}{a b c:Nat}(h1:a<=c)(h2:c<=b):(prt w a b).take (c-a)=prt w a c:=by
 unfold prt;rw[List.take_take];congr 1;omega
theorem zLK{w:List Nat}{a b c:Nat}(h1:a<=c)(h2:c<=b):(prt w a b).drop (c-a)=prt w c b:=by
 unfold prt;rw[List.drop_take,List.drop_drop];congr 1
 ·omega
 ·congr 1;omega
theorem zSx(w:List Nat):prt w 0 w.length=w:=by
 unfold prt;simp
theorem zNz(f:Nat->List Nat->Bool)(l x y:Nat){w:List Nat}{a b:Nat}(h1:a<=b)(h2:b<=w.length):ndB f (7,l,x,y) (prt w a b)=true↔ ∃c,a<=c/\c<=b/\f x (prt w a c)=true/\f y (prt w c b)=true:=by
 have e:ndB f (7,l,x,y) (prt w a b)=(List.range ((prt w a b).length+1)).any fun c=>f x ((prt w a b).take c)&&f y ((prt w a b).drop c):=rfl
 rw[e,zIu h1 h2,List.any_eq_true];constructor
 ·rintro⟨c,hc,e⟩;have hc:=List.mem_range.1 hc;rw[Qz]at e;have t:=zJ9 (w:=w) (show a<=a+c by omega) (show a+c<=b by omega);have d:=zLK (w:=w) (show a<=a+c by omega) (show a+c<=b by omega);rw[show a+c-a=c by omega]at t d;rw[t,d]at e;exact⟨a+c,by omega,by omega,e.1,e.2⟩
 ·rintro⟨c,g1,g2,e1,e2⟩;refine⟨c-a,List.mem_range.2 (by omega),?_⟩;rw[zJ9 g1 g2,zLK g1 g2,e1,e2];rfl
