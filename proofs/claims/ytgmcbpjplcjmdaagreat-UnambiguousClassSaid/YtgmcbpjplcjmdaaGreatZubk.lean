/- Lemmas for the law unambiguousClass. No conditions. -/
import Derived.Test.YtgmcbpjplcjmdaaGreatZubj
import Derived.Test.YtgmcbpjplcjmdaaGreatZuag
set_option linter.all false
namespace Go.Proofs.YtgmcbpjplcjmdaaGreat
open Go.ChangeShapes Go.WideShapes Go.ChangeAt Go.RowKit
set_option maxRecDepth 100000 in
theorem zNS{W:World}{r:Reach}{base:Nat}{t e:TypeId}{v:Value}(ht:Tryz.prog.underlying t=some (.slice e))(h:Value.okWide Tryz.prog W r base t v):M.zOj v:=by
 simp only[Value.okWide,ht,Cell.okWide]at h
 cases v with
 |slice a l c=>
  cases a with
  |none=>
   left;simp only[Cell.ok,ht]at h;split at h<;>simp_all
  |some a=>
   right;simp only[Cell.ok,ht]at h;obtain⟨b,o,sp⟩:=a;have:=h.2.2.2.1;simp at this;subst this;exact⟨b,o,l,c,rfl⟩
 |_=>simp_all [Cell.ok]
