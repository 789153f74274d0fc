/- Lemmas for the law unambiguousClass. No conditions. -/
import Derived.Test.YtgmcbpjplcjmdaaGreatZubb
set_option linter.all false
namespace Go.Proofs.YtgmcbpjplcjmdaaGreat.M
open Go.RowKit
set_option maxRecDepth 100000
set_option maxHeartbeats 32000000

def ltL:List Nat->List Nat->Prop
 |[],_=>False
 |_::_,[]=>False
 |a::r,b::s=>a<b\/a=b/\ltL r s
theorem NOk.cons{r:List Int}{R:List (List Int)}{n:Nat}{N:List Nat}(h:NOk (r::R) (n::N)):n<r.length/\NOk R N:=by
 refine⟨by simpa using h.lt 0 (by simp),by simpa using h.len,fun i hi=>?_⟩;have:=h.lt (i+1) (by simpa using hi);simpa using this
theorem NOk.nil{N:List Nat}(h:NOk [] N):N=[]:=List.eq_nil_of_length_eq_zero (by simpa using h.len)
theorem NOk.ex{r:List Int}{R:List (List Int)}{N:List Nat}(h:NOk (r::R) N): ∃n M,N=n::M:=by
 cases N with
 |nil=>have:=h.len;simp at this
 |cons n M=>exact⟨n,M,rfl⟩
def zEx:List (List Int)->List Nat->List Nat×Bool
 |r::R,n::N=>if(zEx R N).2=true then(n::(zEx R N).1,true)else if n+1<r.length then((n+1)::(zEx R N).1,true)else(0::(zEx R N).1,false)
 |_,N=>(N,false)
theorem zCX(r:List Int)(R:List (List Int))(n:Nat)(N:List Nat):zEx (r::R) (n::N)=if(zEx R N).2=true then(n::(zEx R N).1,true)else if n+1<r.length then((n+1)::(zEx R N).1,true)else(0::(zEx R N).1,false):=rfl
theorem zHk(r:List Int)(R:List (List Int))(n:Nat): ∀(i:Nat) (N:List Nat),advG (r::R) (n::N) (i+1)=if(advG R N i).2=true then(n::(advG R N i).1,true)else if n+1<r.length then((n+1)::(advG R N i).1,true)else(0::(advG R N i).1,false)
 |0,N=>by
  rw[advG,advG,advG];simp
 |i+1,N=>by
  have e1:advG (r::R) (n::N) (i+1+1)=if N.getD i 0+1<(R.getD i []).length then(n::N.set i (N.getD i 0+1),true)else advG (r::R) (n::N.set i 0) (i+1):=rfl
  have e2:advG R N (i+1)=if N.getD i 0+1<(R.getD i []).length then(N.set i (N.getD i 0+1),true)else advG R (N.set i 0) i:=rfl
  rw[e1,e2];by_cases h:N.getD i 0+1<(R.getD i []).length
  ·rw[if_pos h,if_pos h];exact(if_pos rfl).symm
  ·rw[if_neg h,if_neg h];exact zHk r R n i (N.set i 0)
theorem zOo: ∀{R:List (List Int)} {N:List Nat},N.length=R.length->zIO R N=zEx R N
 |[],N,h=>by
  obtain rfl:N=[]:=List.eq_nil_of_length_eq_zero (by simpa using h);rfl
 |r::R,[],h=>by simp at h
 |r::R,n::N,h=>by
  have ih:=zOo (R:=R) (N:=N) (by simpa using h);unfold zIO at ih ⊢;rw[List.length_cons,zHk,ih,zCX]
theorem zero_min: ∀(k:Nat) (X:List Nat),¬ltL X (List.replicate k 0)
 |0,X,h=>by cases X<;>exact h
 |k+1,[],h=>h
 |k+1,x::X,h=>by
  rcases h with h|⟨-,h⟩
  ·omega
  ·exact zero_min k X h
theorem zDW: ∀{R:List (List Int)} {N:List Nat},NOk R N->(zEx R N).2=false->(zEx R N).1=List.replicate R.length 0/\ ∀X,NOk R X->ltL X N\/X=N
 |[],N,hN,h=>by
  obtain rfl:=hN.nil;exact⟨rfl,fun X hX=>.inr hX.nil⟩
 |r::R,N,hN,h=>by
  obtain⟨n,N,rfl⟩:=hN.ex;obtain⟨h1,h2⟩:=hN.cons;rw[zCX]at h ⊢;by_cases ht:(zEx R N).2=true
  ·rw[if_pos ht]at h;cases h
  rw[if_neg ht]at h ⊢;by_cases hn:n+1<r.length
  ·rw[if_pos hn]at h;cases h
  rw[if_neg hn];obtain⟨e1,e2⟩:=zDW h2 (by simpa using ht);refine⟨by rw[e1];rfl,fun X hX=>?_⟩;obtain⟨x,X,rfl⟩:=hX.ex;obtain⟨h3,h4⟩:=hX.cons;rcases Nat.lt_or_ge x n with h5|h5
  ·exact .inl (.inl h5)
  ·obtain rfl:x=n:=by omega
   rcases e2 X h4 with h6|rfl
   ·exact .inl (.inr ⟨rfl,h6⟩)
   ·exact .inr rfl
theorem zHI: ∀{R:List (List Int)} {N:List Nat},NOk R N->(zEx R N).2=true-> ∀X,NOk R X->ltL X (zEx R N).1->ltL X N\/X=N
 |[],N,hN,h,X,hX,hl=>by
  obtain rfl:=hN.nil
  cases h
 |r::R,N,hN,h,X,hX,hl=>by
  obtain⟨n,N,rfl⟩:=hN.ex;obtain⟨h1,h2⟩:=hN.cons;obtain⟨x,X,rfl⟩:=hX.ex;obtain⟨h3,h4⟩:=hX.cons;rw[zCX]at h hl;by_cases ht:(zEx R N).2=true
  ·rw[if_pos ht]at hl;rcases hl with hl|⟨rfl,hl⟩
   ·exact .inl (.inl hl)
   ·rcases zHI h2 ht X h4 hl with h5|rfl
    ·exact .inl (.inr ⟨rfl,h5⟩)
    ·exact .inr rfl
  rw[if_neg ht]at h hl;by_cases hn:n+1<r.length
  ·rw[if_pos hn]at hl;obtain⟨e1,e2⟩:=zDW h2 (by simpa using ht);rw[e1]at hl;rcases hl with hl|⟨-,hl⟩
   ·rcases Nat.lt_or_ge x n with h5|h5
    ·exact .inl (.inl h5)
    ·obtain rfl:x=n:=by omega
     rcases e2 X h4 with h6|rfl
     ·exact .inl (.inr ⟨rfl,h6⟩)
     ·exact .inr rfl
   ·exact absurd hl (zero_min _ _)
  ·rw[if_neg hn]at h;cases h
theorem zHV{v1 v2:List Nat->Nat}{R:List (List Int)}: ∀(f s:Nat) (N:List Nat),NOk R N->(∀X,NOk R X->ltL X N->v1 X=v2 X)→
  ((runH v1 v2 R f s N).2.1=true->v1 (runH v1 v2 R f s N).2.2.2≠v2 (runH v1 v2 R f s N).2.2.2/\ ∀X,NOk R X->ltL X (runH v1 v2 R f s N).2.2.2->v1 X=v2 X)∧
  ((runH v1 v2 R f s N).2.1=false->(runH v1 v2 R f s N).2.2.1=true-> ∀X,NOk R X->v1 X=v2 X)
 |0,s,N,hN,hb=>⟨(fun h=>Bool.noConfusion h),(fun _ h=>Bool.noConfusion h)⟩
 |f+1,s,N,hN,hb=>by
  have hrun:runH v1 v2 R (f+1) s N=if v1 N≠v2 N then(s+1,true,true,N)else if(zIO R N).2=true then runH v1 v2 R f (s+1) (zIO R N).1 else(s+1,false,true,(zIO R N).1):=rfl
  rw[hrun];by_cases hne:v1 N≠v2 N
  ·rw[if_pos hne];exact⟨(fun _=>⟨hne,hb⟩),(fun h=>Bool.noConfusion h)⟩
  rw[if_neg hne];have heq:v1 N=v2 N:=Decidable.not_not.1 hne;have hL:=zOo (R:=R) (N:=N) hN.len;have hok:=zFG hN;by_cases h2:(zIO R N).2=true
  ·rw[if_pos h2];refine zHV f (s+1) _ hok fun X hX hlt=>?_
   rw[hL]at hlt h2;rcases zHI hN h2 X hX hlt with h3|rfl
   ·exact hb X hX h3
   ·exact heq
  ·rw[if_neg h2];refine⟨(fun h=>Bool.noConfusion h),fun _ _ X hX=>?_⟩;rw[hL]at h2;rcases(zDW hN (by simpa using h2)).2 X hX with h3|rfl
   ·exact hb X hX h3
   ·exact heq
