/- Lemmas for the law unambiguousClass. No conditions. -/
import Derived.Test.YtgmcbpjplcjmdaaGreatZuac
set_option linter.all false
namespace Go.Proofs.YtgmcbpjplcjmdaaGreat.M
open Go.RowKit
set_option maxRecDepth 100000
set_option maxHeartbeats 32000000

def swp(a b k:Nat):Nat:=if k=a then b else if k=b then a else k
theorem zRz{a b x y:Nat}(h:swp a b x=swp a b y):x=y:=by
 unfold swp at h;split at h<;>split at h<;>try split at h
 all_goals (try split at h)
 all_goals omega
def zSi(a b:Nat)(sm:List (List Nat×List Nat)):List (List Nat×List Nat):=sm.map fun p=>(p.1.map (swp a b),p.2.map (swp a b))
theorem zO1(a b:Nat)(l m:List Nat):zIL (l.map (swp a b)) (m.map (swp a b))=zIL l m:=by
 unfold zIL;rw[List.all_map];congr 1;funext x;show(!(m.map (swp a b)).contains (swp a b x))= !m.contains x;congr 1;rw[Bool.eq_iff_iff,List.contains_iff_mem,List.contains_iff_mem,List.mem_map];exact⟨fun⟨y,hy,e⟩=>zRz e▸hy,fun h=>⟨x,h,rfl⟩⟩
theorem zHl(a b:Nat)(sm:List (List Nat×List Nat))(i:Nat):(zSi a b sm).getD i ([],[])=((sm.getD i ([],[])).1.map (swp a b),(sm.getD i ([],[])).2.map (swp a b)):=by
 unfold zSi;rw[Qv,Qv,Qi]
 cases sm[i]? <;>rfl
theorem zMX(ops:Array Oper)(a b:Nat)(sm:List (List Nat×List Nat))(i j:Nat):apart ops (zSi a b sm) i j=apart ops sm i j:=by
 unfold apart;rw[zHl,zHl];simp only[zO1]
theorem zKa(ops:Array Oper)(a b:Nat){sm:List (List Nat×List Nat)}(h:zAY ops (zSi a b sm)=true):zAY ops sm=true:=by
 unfold zAY at h ⊢;simpa only[zMX]using h
theorem zTo(a b:Nat):swp a b b=a:=by unfold swp;split<;>simp_all
theorem zTp{a b k:Nat}(h1:k≠a)(h2:k≠b):swp a b k=k:=by simp[swp,h1,h2]
