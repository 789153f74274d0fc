/- Lemmas for the law unambiguousClass. No conditions. -/
import Derived.Test.YtgmcbpjplcjmdaaGreatZuaz
import Derived.Test.YtgmcbpjplcjmdaaGreatZubb
set_option linter.all false
namespace Go.Proofs.YtgmcbpjplcjmdaaGreat.M
open Go.RowKit
set_option maxRecDepth 100000
set_option maxHeartbeats 32000000

section
variable{L m:Nat}{bs:List Bool}{nx els:List (List Int)}{pre last:List Int}{wds:List (List Nat)}{right:List (List Int)}{r0:List Int}
end
structure zQw(L N:Nat)(tb:List (List Int))(ws:List (List Nat))(im:List Int)(ac pl:List Bool):Prop where
 hS:zSy L N tb ws im ac pl
 ht:TbL tb N (zP tb)
 hA:zBA N (zP tb)
 one: ∀x,x<N->zP tb 0 x=x/\zP tb x 0=x
section
variable{L m:Nat}{bs:List Bool}{nx els:List (List Int)}{pre last:List Int}{wds:List (List Nat)}{right:List (List Int)}{r0:List Int}
theorem SyX.zVh(h:SyX L m nx els pre last wds right r0)(hM:MnD L m bs nx)(hL:L=1\/L=2):zQw L els.length (zBq right wds els.length) wds r0 (els.map (zFM bs)) (psB els.length (right.any fun r=>decide ((0:Int)∈r))):=by
 have hg: ∀g∈tab L (lets m nx),TrN m g:=(hM.df.gn (by omega) (by omega) h.m32).tr;have hv:=h.pr.vE hg h.el;have ht:=TbL.of hv;rw[zBf]at ht;exact⟨h.sh (by omega) (by omega) _ (by simp) _ (by simp[psB]),ht,h.pr.asc hg,h.one hg⟩
end
theorem zHM(xs:List Int)(a:Nat)(ha:a<=xs.length)(hl:xs.length<=80): ∃L b:Nat,(L=1\/L=2)/\b<=xs.length/\FnS Tryz.prog 8 [.ptr 0 0 2] [tpO 1 xs a] (.t 2 (.int .i64 (L:Nat))) [tpO 1 xs b]:=by
 obtain⟨v,b,hv,hb,hN⟩:=zBQ xs a 8 ha hl (by omega);have hv:=hv (by omega);obtain⟨L,hL,hLv⟩: ∃L:Nat,(L=1\/L=2)/\2-(v:Int).tdiv 7=(L:Int):=by
  by_cases h:v=7
  ·subst h;exact⟨1,.inl rfl,by decide⟩
  ·refine⟨2,.inr rfl,?_⟩;rw[Int.tdiv_eq_zero_of_lt (by omega) (by omega)];rfl
 have hd:(v:Int).tdiv 7=2-(L:Int):=by omega
 refine⟨L,b,hL,hb,?_⟩;refine fI 7 #[.tmp 2] Tryz.func8 rfl ?_;refine rg0 ?_;refine zF fun K hK=>?_
 simp(maxSteps:=2000000)(disch:=omega)
 (repeat' apply And.intro)
 all_goals (try omega)
 refine zD (caps:=[]) (hN) [0] [0] 1 rfl rfl rfl rfl (by kernel_rfl) (by simp) ?_ ?_ (by simp) rfl (by simp) ⟨.inr ⟨rfl,0,_,_,_,_,_,rfl,rfl,rfl,rfl,rfl⟩,trivial⟩ (by simp[tpO]) ?_
 ·simp[scal,ints,tpO]
 ·simp[scal,ints,tpO]
 simp(maxSteps:=2000000)(disch:=omega)[ints,scal,zBs,tpO,hd];and_intros<;>try first|apply hK|omega|rfl|simp<;>omega
 refine zC ?_;refine⟨⟨.inr rfl,_,[(0,some 0)],(by first|rfl|(simp[ints,rows,scal,tpO];rfl)),?_,?_,?_,?_⟩,?_⟩
 all_goals try simp[ints,tpO]
 omega
