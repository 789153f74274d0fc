/-
  The words of the logic as rules of simp, so that the walks need not name them.
-/
import Derived.Test.YtnffigeofdagfaaDoorZrah
import Derived.Test.YtnffigeofdagfaaDoorZraj
namespace Go.Proofs.YtnffigeofdagfaaDoor.M
attribute [simp] KL_ap KD_ap awpL_nil awpL_cons awpD_nil awpD_cons Nat.blt_eq List.getElem?_cons_zero awpOp awpOpD wrE gd aop aBuiltin aNil aMin aMin3 ASt.eval AV.ofV dstOk ASt.app Eff.heap dels upd_b aLoad aStore aField aFieldV aIndexAddr aIndex aSlice aSliceO aLen aBin iB sB aUn aConv aAlloc aBox aBuild afill avCells AV.leaf setR aBuildSlice frz frzL isOwn vecOf tsOf aMake srcOf aAppend aMkMap aMapUpd aLookup oint cut putL AObj.cnt mkS envOf_nil envOf_cons heapOf_nil heapOf_cons argS callS outV outVs outO heap2 addL delL
attribute [simp] wkE wkP wkPs wkH wkO keysNd unm mpOf_nil mpOf_cons ghA ghA1 resV idxF inPs inP pf1 pfx inOs inO ndL okO mkF famM_at famM_lt famU famH_at famH_lt ovr_at ovr_lt
attribute [simp] aMapNil awpDS_nil awpDS_cons KDS_ap awpOpDS tchS outS isShO
end Go.Proofs.YtnffigeofdagfaaDoor.M
