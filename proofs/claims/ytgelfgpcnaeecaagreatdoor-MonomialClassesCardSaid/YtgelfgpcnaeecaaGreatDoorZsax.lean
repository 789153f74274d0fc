/-
  From contracts of the logic to a row that lists the table of math/bits: what the row's condition gives, and the arguments of a law as trees.
-/
import Derived.Test.YtgelfgpcnaeecaaGreatDoorZsad
import Derived.Test.YtgelfgpcnaeecaaGreatDoorRows
import Derived.ProofKit
import Derived.OpenShut
import Derived.LaidMore
import Derived.Lib.LaidTab
import Derived.Stop.Joined
namespace Go.Proofs.YtgelfgpcnaeecaaGreatDoor
open Go.ChangeShapes Go.WideShapes Go.ChangeAt Go.RowKit
set_option linter.unusedVariables false

theorem zU1 : ownKnob Tryz.prog.godebug = none:=by kernel_rfl
theorem zNo : laidOutB Tryz.prog = true:=by kernel_rfl
def SlP (v : Value) : Prop:=v = .slice none 0 0 \/ ∃ b o l c,v = .slice (some ⟨b,o,none⟩) l c
set_option maxRecDepth 100000 in
theorem zSS {W : World} {r : Reach} {base : Nat} {t e : TypeId} {v : Value} (ht : Tryz.prog.underlying t = some (.slice e)) (h : Value.okWide Tryz.prog W r base t v) : SlP v:=by
 simp only [Value.okWide,ht,Cell.okWide] at h
 cases v with
 | slice a l c =>
  cases a with
  | none =>
   left
   simp only [Cell.ok,ht] at h
   split at h <;> simp_all
  | some a =>
   right
   simp only [Cell.ok,ht] at h
   obtain ⟨b,o,sp⟩:=a
   have:=h.2.2.2.1
   simp at this
   subst this
   exact ⟨b,o,l,c,rfl⟩
 | _=>simp_all [Cell.ok]
set_option maxRecDepth 100000 in
theorem zKU {H : Type} {enc : TypeId × Value -> H} {W : World} {t e : TypeId} {k : IntKind} {base : Nat} {held : Bool} {v : Value} {d : DataW H} {p : List MemPlace} (ht : Tryz.prog.underlying t = some (.slice e)) (he : Tryz.prog.underlying e = some (.int k)) (hc : Tryz.prog.cellsOf e = 1)
  (hval : Value.okWide Tryz.prog W .any base t v) (h : DataW.Trod enc Tryz.prog W 0 (fun _=>true) held t v d p) :
  ∃ xs : List Int,M.VR (M.za W.heap.size (fun _=>True) (fun _=>none) (fun k=>k < 0) W) v (.t 1 (.sl 1 (xs.map (.int k)))):=by
 have hp:=zSS ht hval
 obtain ⟨a,len,cap,rfl⟩:=Go.WideShapes.okWide_slice ht hval
 obtain ⟨fuel,hf⟩:=h
 rcases Go.ChangeShapes.open_ints ht he hc hf with ⟨hcs,_⟩ | ⟨ad,l,c,zs,hcs,_,hl,hm,hz,_,hcell,hwf⟩
 ·simp [Value.cells] at hcs
  obtain ⟨rfl,rfl,rfl⟩:=hcs
  exact ⟨[],.t _ _ _ (.nil 1)⟩
 ·simp [Value.cells] at hcs
  obtain ⟨rfl,rfl,rfl⟩:=hcs
  simp only [if_true] at hz
  rcases hp with hp | ⟨b,o,l,c,hp⟩
  ·cases hp
  ·injection hp with e1 e2 e3
   injection e1 with e1
   subst e1 e2 e3
   refine ⟨zs.take len,.t _ _ _ (.sl b o len cap 1 _ (fun i=>.int k (zs.getD i 0)) (by omega) (by simp [hz]; omega) hl (by simpa [maxLen] using hm) (fun i x hi=>?_) (fun i x hi=>?_))⟩
   all_goals
    have hi' : i < len:=by have:=(List.getElem?_eq_some_iff.1 hi).1; simp at this; omega
   ·refine M.zc.2 ⟨fun ⟨id,u,n,h1,_⟩=>(by cases h1),.inr (.inr ⟨rfl,trivial⟩),?_⟩
    have:=hcell i (by omega)
    rw [Addr.add_lit] at this
    exact this
   ·have hz' : i < zs.length:=by omega
    simp [hi',hz'] at hi
    subst hi
    rw [List.getD_eq_getElem?_getD,List.getElem?_eq_getElem hz',Option.getD_some]
    exact .int _ _
namespace M
theorem zKL {P : Program} {f : FuncId} {args : List AV} {vs : Array Value} {w : World} (hgl : GlW (fun _=>False) w) (h : FnA P f args (.t 2 (.bool true))) (hn : vs.size = args.length) (hv : ∀ (i : Nat) c,args[i]? = some c -> VR (za w.heap.size (fun _=>True) (fun _=>none) (fun k=>k < 0) w) (vs.getD i undef) c) :
  Calls P f vs w fun e w'=>e = .returned (.bool true) /\ Below w.heap.size w w':=by
 have hob : ∀ k,¬ OB (fun _=>none) k:=fun k ⟨id,u,n,h1,_⟩=>by cases h1
 refine (h w (fun _=>True) (fun _=>none) vs ⟨fun id u n e=>(by cases e),fun id o e=>(by simp at e),fun id id' u u' n n' k _ e=>(by cases e),fun id u n k e=>(by cases e),Onl.refl _ _,fun g cs hg=>⟨(hgl g cs hg).1,hob g,(hgl g cs hg).2.2⟩⟩ hn hv).mono ?_
 rintro e w' ⟨v,ob',rfl,hm,hr,-⟩
 rw [hr.bool]
 exact ⟨rfl,hm.only.below fun k _=>hob k⟩
end M
def zKK : List (String × DataW Unit):=[("math/bits.deBruijn64tab", Rows.laid_math_bits_deBruijn64tab)]
theorem zUV : Tryz.prog.globalNamed "math/bits.deBruijn64tab" = some 1:=by kernel_rfl
theorem zUy : (Tryz.prog.globals[1]?).map (·.type) = some 239:=by kernel_rfl
theorem zPA : zKK = [("math/bits.deBruijn64tab", Lib.tabData .u8 M.deB)]:=rfl
set_option maxRecDepth 100000 in
theorem zKP {W : World} (h : laidMetH Tryz.prog zKK W) : M.GlW (fun _=>False) W:=by
 rw [MakeChecks.laidMetH_plain _ _ _ (by kernel_rfl),zPA] at h
 have hT:=Lib.tabIs_of_head zUV zUy Tryz.underlying239 Tryz.underlying5 (by kernel_rfl) (by kernel_rfl) h
 intro g cs hg
 have hc : ∀ (i : Nat) c,(M.deB.map (M.T.int .u8))[i]? = some c -> ∃ v,W.cell? ⟨1,i,none⟩ = some v /\ ∀ m,M.Rep m v c:=fun i c hi=>by
  have hl:=(List.getElem?_eq_some_iff.1 hi).1
  rw [List.length_map] at hl
  refine ⟨_,hT.cell zUV i hl,fun m=>?_⟩
  rw [List.getElem?_map,List.getElem?_eq_getElem hl] at hi
  simp only [Option.map_some,Option.some.injEq] at hi
  subst hi
  rw [List.getD_eq_getElem?_getD,List.getElem?_eq_getElem hl]
  exact .int _ _
 obtain ⟨v,h1,-⟩:=hc 0 (.int .u8 0) rfl
 have hlt:=World.block_lt_of_cell? W _ h1
 by_cases hgG : g < 1
 ·have e : cs = []:=by
   unfold M.GT at hg
   rw [List.getElem?_append_left (by rw [List.length_replicate]; exact hgG),List.getElem?_replicate,if_pos hgG] at hg
   exact (Option.some.inj hg).symm
  subst e
  exact ⟨Nat.lt_trans hgG hlt,fun h=>h,fun i c hi=>by simp at hi⟩
 ·unfold M.GT at hg
  rw [List.getElem?_append_right (by rw [List.length_replicate]; omega),List.length_replicate] at hg
  have h0 : g - 1 = 0:=by
   have:=(List.getElem?_eq_some_iff.1 hg).1
   simp at this
   omega
  rw [h0] at hg
  obtain rfl : M.deB.map (M.T.int .u8) = cs:=by injection hg
  obtain rfl : g = 1:=by omega
  exact ⟨hlt,fun h=>h,fun i c hi=>(hc i c hi).imp fun v hv=>hv⟩
theorem zNN (os : Os) (args : Array Value) : laidMetH Tryz.prog zKK ((World.doorLaid Tryz.prog 400 os).forCall (fun _ _=>0) ⟨#[],args,[]⟩).memory :=
 laidMetH_of_parts3 (fuel:=8) (laidMet_of_run' 8 (by kernel_rfl) (by kernel_rfl)) (by kernel_rfl) (by kernel_rfl)
end Go.Proofs.YtgelfgpcnaeecaaGreatDoor
