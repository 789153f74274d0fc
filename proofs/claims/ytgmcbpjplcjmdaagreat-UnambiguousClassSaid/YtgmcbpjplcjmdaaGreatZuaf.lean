/- Lemmas for the law unambiguousClass. No conditions. -/
import Derived.Test.YtgmcbpjplcjmdaaGreatProg
import Derived.WalkKit
import Derived.WalkSpells
import Derived.WalkLawsBesides
import Derived.Lib.Hide
import Derived.Deep.QuietTactic
import Derived.BigQuiet
import Derived.Maps.AppendAt
import Derived.Deep.AppendLies
import Derived.OneCell
set_option linter.all false
namespace Go.Proofs.YtgmcbpjplcjmdaaGreat
open Go.RowKit

def lnx{α:Type}(xs:List α):Nat:=xs.length
def zAI{α:Type}[Inhabited α](xs:List α)(i:Nat):α:=xs.getD i default

def Sl{α:Type}[Inhabited α](enc:α->Value)(w:World)(v:Value)(xs:List α):Prop:=
 ∃a cap,v= .slice a (lnx xs) cap/\lnx xs<=cap/\cap<=9223372036854775807/\(0<lnx xs-> ∃b o,a=some ⟨b,o,none⟩/\ ∀i,i<lnx xs->w.cell? ⟨b,o+i,none⟩=some (enc (zAI xs i)))

def Sl2{α:Type}[Inhabited α](enc:α->Value)(w:World)(v:Value)(t:List (List α)):Prop:=
 ∃a cap,v= .slice a (lnx t) cap/\lnx t<=cap/\cap<=9223372036854775807/\(0<lnx t-> ∃b o,a=some ⟨b,o,none⟩/\ ∀i,i<lnx t-> ∃u,w.cell? ⟨b,o+i,none⟩=some u/\Sl enc w u (zAI t i))

abbrev Ints:=Sl (Value.int .i64)
abbrev zPG:=Sl2 (Value.int .i64)

def zIG(w w':World):Prop:=∀p u,w.cell? p=some u->w'.cell? p=some u

theorem zIG.below{w w':World}(h:Below w.heap.size w w'):zIG w w':=fun p u e=>(h.cell (World.block_lt_of_cell? w p e)).trans e
def Tab(w:World)(v:Value)(n:Nat)(T:Nat->Nat->Nat):Prop:=
 ∃b o cap,∃rb ro rc:Nat->Nat,v= .slice (some ⟨b,o,none⟩) n cap/\0<n/\n<=400∧
  (∀r,r<n->w.cell? ⟨b,o+r,none⟩=some (.slice (some ⟨rb r,ro r,none⟩) n (rc r)))∧
  (∀r c,r<n->c<n->w.cell? ⟨rb r,ro r+c,none⟩=some (.int .i64 (T r c)))∧
  (∀r c,r<n->c<n->T r c<n)

theorem Tab.zOs{w w':World}{v:Value}{n:Nat}{T:Nat->Nat->Nat}(h:Tab w v n T)(hk:zIG w w'):Tab w' v n T:=by
 obtain⟨b,o,cap,rb,ro,rc,rfl,h0,h4,h1,h2,h3⟩:=h;exact⟨b,o,cap,rb,ro,rc,rfl,h0,h4,fun r hr=>hk _ _ (h1 r hr),fun r c hr hc=>hk _ _ (h2 r c hr hc),h3⟩

theorem zLr{P:Nat->Nat->Nat->Nat->Prop}{n:Nat}(h: ∀r,r<n-> ∃a b c,P r a b c): ∃A B C:Nat->Nat,∀r,r<n->P r (A r) (B r) (C r):=by
 classical
 refine⟨fun r=>if hr:r<n then(h r hr).choose else 0,fun r=>if hr:r<n then(h r hr).choose_spec.choose else 0,
  fun r=>if hr:r<n then(h r hr).choose_spec.choose_spec.choose else 0,fun r hr=>?_⟩
 simp only[hr,dif_pos];exact(h r hr).choose_spec.choose_spec.choose_spec

theorem zCc{k:IntKind}{a b:Int}(h:a=b):Ending.returned (.int k a)= .returned (.int k b):=by rw[h]
theorem zRy{a b:Int}(h:a≠b):(a !=b)=true:=by rw[bne_iff_ne];exact h
theorem zTI{a b:Int}(h:a=b):(a !=b)=false:=by rw[h];simp
theorem zU3{a b:Int}(h:a=b):(a==b)=true:=by rw[h];simp
theorem zUr{a b:Int}(h:a≠b):(a==b)=false:=by rw[beq_eq_false_iff_ne];exact h

end Go.Proofs.YtgmcbpjplcjmdaaGreat

namespace Go.Proofs.YtgmcbpjplcjmdaaGreat
open Go.RowKit

def zMK(t:List (List Int))(r:Nat):Prop:=lnx (zAI t r)=lnx t/\ ∀i,i<lnx (zAI t r)->0<=zAI (zAI t r) i/\zAI (zAI t r) i<lnx t

open Classical in
noncomputable def zAf(t:List (List Int)):Int:=
 if 400<lnx t then 3 else if lnx t=0 then 4 else if ∀r,r<lnx t->zMK t r then 0 else 4

theorem zIX{t:List (List Int)}(h1:400<lnx t):zAf t=3:=by unfold zAf;rw[if_pos h1]
theorem zJf{t:List (List Int)}(h1: ¬0<lnx t):zAf t=4:=by unfold zAf;rw[if_neg (by omega),if_pos (by omega)]
theorem zHP{t:List (List Int)}(h1: ¬400<lnx t)(r:Nat)(hr:r<lnx t)(h: ¬zMK t r):zAf t=4:=by
 unfold zAf;rw[if_neg h1,if_neg (by omega),if_neg (fun H=>h (H r hr))]
theorem zFx{t:List (List Int)}(h1: ¬400<lnx t)(h0:0<lnx t)(h: ∀r,r<lnx t->zMK t r):zAf t=0:=by
 unfold zAf;rw[if_neg h1,if_neg (by omega),if_pos h]
theorem zBu{t:List (List Int)}(h:zAf t=0):0<lnx t/\lnx t<=400/\ ∀r,r<lnx t->zMK t r:=by
 unfold zAf at h;split at h
 ·cases h
 ·split at h
  ·cases h
  ·split at h
   ·exact⟨by omega,by omega,by assumption⟩
   ·cases h

def zP(t:List (List Int))(r c:Nat):Nat:=(zAI (zAI t r) c).toNat

theorem zQY{t:List (List Int)}(h:zAf t=0){r c:Nat}(hr:r<lnx t)(hc:c<lnx t):zP t r c<lnx t:=by
 obtain⟨_,_,h3⟩:=zBu h;obtain⟨h4,h5⟩:=h3 r hr;have:=h5 c (by omega);unfold zP;omega
theorem zP1{t:List (List Int)}(h:zAf t=0){r c:Nat}(hr:r<lnx t)(hc:c<lnx t):((zP t r c:Nat):Int)=zAI (zAI t r) c:=by
 obtain⟨_,_,h3⟩:=zBu h;obtain⟨h4,h5⟩:=h3 r hr;have:=h5 c (by omega);unfold zP;omega

theorem Tab.zSX{w:World}{v:Value}{t:List (List Int)}(h:zPG w v t)(hs:zAf t=0):Tab w v (lnx t) (zP t):=by
 obtain⟨h0,h4,hok⟩:=zBu hs;obtain⟨a,cap,rfl,h1,h2,h3⟩:=h;obtain⟨b,o,rfl,hc⟩:=h3 h0;have hx: ∀r,r<lnx t-> ∃rb ro rc,w.cell? ⟨b,o+r,none⟩=some (.slice (some ⟨rb,ro,none⟩) (lnx t) rc)/\ ∀c,c<lnx t->w.cell? ⟨rb,ro+c,none⟩=some (.int .i64 (zP t r c)):=by
  intro r hr;obtain⟨u,hu,a',cap',rfl,_,_,h7⟩:=hc r hr;obtain⟨hl,_⟩:=hok r hr;obtain⟨rb,ro,rfl,h8⟩:=h7 (by omega);refine⟨rb,ro,cap',by rw[hu,hl],fun c hcc=>?_⟩;rw[h8 c (by omega),zP1 hs hr hcc]
 obtain⟨rb,ro,rc,hR⟩:=zLr hx;exact⟨b,o,cap,rb,ro,rc,rfl,h0,h4,fun r hr=>(hR r hr).1,fun r c hr hc=>(hR r hr).2 c hc,fun r c hr hc=>zQY hs hr hc⟩

def zBA(n:Nat)(T:Nat->Nat->Nat):Prop:=∀x y z,x<n->y<n->z<n->T (T x y) z=T x (T y z)

open Classical in
noncomputable def zCQ(t:List (List Int)):Int:=if zAf t=0 then(if zBA (lnx t) (zP t)then 0 else 5)else zAf t

theorem zLa{t:List (List Int)}(h:zAf t≠0):zCQ t=zAf t:=by unfold zCQ;rw[if_neg h]
theorem zNN{t:List (List Int)}(h:zAf t=0)(ha:zBA (lnx t) (zP t)):zCQ t=0:=by unfold zCQ;rw[if_pos h,if_pos ha]
theorem zQJ{t:List (List Int)}(h:zAf t=0)(ha: ¬zBA (lnx t) (zP t)):zCQ t=5:=by unfold zCQ;rw[if_pos h,if_neg ha]
theorem zEK{t:List (List Int)}(h:zCQ t=0):zAf t=0/\zBA (lnx t) (zP t):=by
 unfold zCQ at h;split at h
 ·rename_i hs;split at h
  ·rename_i ha;exact⟨hs,ha⟩
  ·cases h
 ·rename_i hs;exact absurd h hs

def Made(T:Nat->Nat->Nat)(gens:List Nat)(x:Nat):Prop:=∀S:Nat->Prop,(∀g,g∈gens->S g)->(∀x y,S x->S y->S (T x y))->S x

theorem Made.gen{T:Nat->Nat->Nat}{gens:List Nat}{g:Nat}(h:g∈gens):Made T gens g:=fun _ hg _=>hg g h
theorem Made.mul{T:Nat->Nat->Nat}{gens:List Nat}{x y:Nat}(hx:Made T gens x)(hy:Made T gens y):Made T gens (T x y):=fun S hg hm=>hm x y (hx S hg hm) (hy S hg hm)
theorem Made.mono{T:Nat->Nat->Nat}{g g':List Nat}(hg: ∀x∈g,x∈g'){x:Nat}(h:Made T g x):Made T g' x:=fun S h1 h2=>h S (fun y hy=>h1 y (hg y hy)) h2

theorem zVE{n:Nat}{T:Nat->Nat->Nat}{gens:List Nat}(hT: ∀r c,r<n->c<n->T r c<n)(hg: ∀g∈gens,g<n)
  (hall: ∀x,x<n->Made T gens x) (hL: ∀g∈gens,∀x y,x<n->y<n->T (T x g) y=T x (T g y)):zBA n T:=by
 have key: ∀g,Made T gens g->g<n/\ ∀x y,x<n->y<n->T (T x g) y=T x (T g y):=by
  intro g h;refine h (fun g=>g<n/\ ∀x y,x<n->y<n->T (T x g) y=T x (T g y)) (fun y hy=>⟨hg y hy,hL y hy⟩) ?_;rintro a b ⟨ha,la⟩ ⟨hb,lb⟩;refine⟨hT a b ha hb,fun x y hx hy=>?_⟩;rw[←la x b hx hb,lb (T x a) y (hT x a hx ha) hy,la x (T b y) hx (hT b y hb hy),lb a y ha hy]
 intro x y z hx hy hz;exact(key y (hall y hy)).2 x z hx hz
end Go.Proofs.YtgmcbpjplcjmdaaGreat

namespace Go.Proofs.YtgmcbpjplcjmdaaGreat
open Go.RowKit

set_option maxHeartbeats 400000 in
theorem zGt(w:World)(v:Value)(t:List (List Int))(ht:zPG w v t):
  Calls Tryz.prog 145 #[v] w fun e w'=>e= .returned (.int .i64 (zAf t))/\w=w':=by
 obtain⟨a,cap,rfl,hcap,hmx,ht⟩:=ht;by_cases h400:400<lnx t
 ·go_enter Tryz.func145,Tryz.ntmps145
  go_wp2
  go_ret
  exact⟨zCc (zIX h400).symm,rfl⟩
 by_cases h0:0<lnx t
 case neg=>
  have h2:((lnx t:Int)==0)=true:=zU3 (by omega)
  go_enter Tryz.func145,Tryz.ntmps145
  go_wp2
  go_ret
  exact⟨zCc (zJf h0).symm,rfl⟩
 have h2:((lnx t:Int)==0)=false:=zUr (by omega);obtain⟨b,o,rfl,hc⟩:=ht h0;have HC:=Lib.hid hc;clear ht hc
 go_enter Tryz.func145,Tryz.ntmps145
 go_wp2
 go_loop [15] (fun i=>∃k:Nat,k<=lnx t/\i= .int .i64 k/\(∀r,r<k->zMK t r)) (fun i=>lnx t-(intOf i).toNat)
 case atStart=>exact⟨0,by omega,rfl,by omega⟩
 case round=>
  obtain⟨k,hk,rfl,hr⟩:=hrel;have HR:=Lib.hid hr;clear hr;by_cases hlt:k<lnx t
  ·obtain⟨u,hcell,A,C,rfl,hC1,hC2,hin⟩:=HC.out k hlt;have HIN:=Lib.hid hin;clear hin;by_cases hlen:lnx (zAI t k)=lnx t
   ·have HL:=Lib.hid hlen;clear hlen;have hb1:((lnx (zAI t k):Int) !=(lnx t:Int))=false:=zTI (by rw[HL.out])
    go_wp2
    go_loop [26] (fun i=>∃j:Nat,j<=lnx (zAI t k)/\i= .int .i64 j/\(∀i,i<j->0<=zAI (zAI t k) i/\zAI (zAI t k) i<lnx t)) (fun i=>lnx (zAI t k)-(intOf i).toNat)
    case atStart=>exact⟨0,by omega,rfl,by omega⟩
    case round=>
     obtain⟨j,hj,rfl,hr⟩:=hrel;have HJ:=Lib.hid hr;clear hr;have hlb:lnx (zAI t k)<=lnx t:=by have:=HL.out;omega
     by_cases hjlt:j<lnx (zAI t k)
     ·obtain⟨b',o',rfl,hcell'⟩:=HIN.out (by omega);have hcj:=hcell' j hjlt;clear hcell';by_cases hin:0<=zAI (zAI t k) j/\zAI (zAI t k) j<lnx t
      ·obtain⟨hi1,hi2⟩:=hin
       go_wp2
       go_round
       case rel=>exact⟨j+1,by omega,by go_num,fun i hi=>by
        by_cases hij:i<j
        ·exact HJ.out i hij
        ·obtain rfl:i=j:=by omega
         exact⟨hi1,hi2⟩⟩
       case measure=>simp[intOf];omega
      ·go_wp2
       all_goals
        go_ret
        exact⟨zCc (zHP h400 k hlt (fun h=>hin (h.2 j hjlt))).symm,rfl⟩
     ·go_wp2
      go_round
      case rel=>exact⟨k+1,by omega,by go_num,fun r hr=>by
        by_cases hrk:r<k
        ·exact HR.out r hrk
        ·obtain rfl:r=k:=by omega
         exact⟨HL.out,fun i hi=>HJ.out i (by omega)⟩⟩
      case measure=>simp[intOf];omega
   ·have hb1:((lnx (zAI t k):Int) !=(lnx t:Int))=true:=zRy (by omega)
    go_wp2
    go_ret
    exact⟨zCc (zHP h400 k hlt (fun h=>hlen h.1)).symm,rfl⟩
  ·go_wp2
   go_ret
   exact⟨zCc (zFx h400 h0 (fun r hr=>HR.out r (by omega))).symm,rfl⟩
end Go.Proofs.YtgmcbpjplcjmdaaGreat

namespace Go.Proofs.YtgmcbpjplcjmdaaGreat
open Go.RowKit

def sameB(xs ys:List Int):Bool:=xs==ys
end Go.Proofs.YtgmcbpjplcjmdaaGreat

namespace Go.Proofs.YtgmcbpjplcjmdaaGreat
open Go.RowKit

structure zDu(S:Nat->Prop)(w w':World):Prop where
 os:w'.os=w.os
 tape:w'.tape=w.tape
 output:w'.output=w.output
 size:w.heap.size<=w'.heap.size
 block: ∀k,k<w.heap.size-> ¬S k->w'.heap[k]? =w.heap[k]?

theorem zDu.refl(S:Nat->Prop)(w:World):zDu S w w:=⟨rfl,rfl,rfl,Nat.le_refl _,fun _ _ _=>rfl⟩
theorem zDu.alloc{S:Nat->Prop}{a w:World}(h:zDu S a w)(o:Obj):zDu S a (w.alloc o):=
 ⟨h.os,h.tape,h.output,by simp;exact Nat.le_succ_of_le h.size,fun k hk hn=>(Below.heap_alloc w o k (Nat.lt_of_lt_of_le hk h.size)).trans (h.block k hk hn)⟩
theorem zDu.setCell{S:Nat->Prop}{a w:World}(h:zDu S a w){p:Addr}(hp:p.block<a.heap.size->S p.block)(u:Value):zDu S a (w.setCell p u):=
 ⟨h.os,h.tape,h.output,by simp[World.setCell];exact h.size,fun k hk hn=>(Below.heap_setCell w p u k (fun e=>hn (by rw[e];exact hp (by omega)))).trans (h.block k hk hn)⟩
theorem zDu.grown{S:Nat->Prop}{a w w':World}{row:Option Nat}(h:zDu S a w)(hg:w.grownBy w' row)(hr: ∀k,k<a.heap.size->row=some k->S k):zDu S a w':=
 ⟨hg.os.trans h.os,hg.tape.trans h.tape,hg.output.trans h.output,Nat.le_trans h.size hg.size,fun k hk hn=>
  (hg.block k (Nat.lt_of_lt_of_le hk h.size) (fun e=>hn (hr k hk e.symm))).trans (h.block k hk hn)⟩
theorem zDu.below{S:Nat->Prop}{B:Nat}{w w':World}(h:zDu S w w')(hS: ∀k,k<B-> ¬S k)(hB:B<=w.heap.size):Below B w w':=
 ⟨h.os,h.tape,h.output,h.size,fun k hk=>h.block k (by omega) (hS k hk)⟩
theorem Below.zOl{B:Nat}{a w:World}(h:Below B a w)(n:Nat):Below B a (w.drewN n):=⟨h.os,h.tape,h.output,h.size,h.block⟩
theorem zMw{a w w':World}(h:Below a.heap.size a w)(k:Below w.heap.size w w'):Below a.heap.size a w':=h.trans (k.mono h.size)
def Arr(E:TypeId)(w:World)(g n:Nat)(f:Nat->Value):Prop:=∃cs:Array Value,w.heap[g]? =some (.cells cs E (0,0))/\cs.size=n/\ ∀i,i<n->cs[i]? =some (f i)

section
variable{E:TypeId}{w w':World}{g n:Nat}{f:Nat->Value}
theorem Arr.lt(h:Arr E w g n f):g<w.heap.size:=by
 obtain⟨cs,h1,_⟩:=h;exact lt_of_block h1
theorem Arr.cell(h:Arr E w g n f){i:Nat}(hi:i<n):w.cell? ⟨g,i,none⟩=some (f i):=by
 obtain⟨cs,h1,_,h3⟩:=h;simp[World.cell?,h1,h3 i hi]
theorem Arr.frozen(h:Arr E w g n f)(i:Nat):w.frozen? ⟨g,i,none⟩=false:=by
 obtain⟨cs,h1,_⟩:=h;simp[World.frozen?,h1]
theorem Arr.same(h:Arr E w g n f)(hb:w'.heap[g]? =w.heap[g]?):Arr E w' g n f:=by
 obtain⟨cs,h1,h2⟩:=h;exact⟨cs,hb.trans h1,h2⟩
theorem Arr.only{S:Nat->Prop}(h:Arr E w g n f)(ho:zDu S w w')(hn: ¬S g):Arr E w' g n f:=h.same (ho.block g h.lt hn)
theorem Arr.alloc(h:Arr E w g n f)(o:Obj):Arr E (w.alloc o) g n f:=h.same (Below.heap_alloc w o g h.lt)
theorem Arr.far(h:Arr E w g n f){p:Addr}(hp:g≠p.block)(u:Value):Arr E (w.setCell p u) g n f:=h.same (Below.heap_setCell w p u g hp)
theorem Arr.grown{row:Option Nat}(h:Arr E w g n f)(hb:w.grownBy w' row)(hg:some g≠row):Arr E w' g n f:=h.same (hb.block g h.lt hg)
theorem Arr.drewN(h:Arr E w g n f)(k:Nat):Arr E (w.drewN k) g n f:=h
theorem Arr.zU1(h:Arr E w g n f)(i:Nat)(u:Value):Arr E (w.setCell ⟨g,i,none⟩ u) g n (fun j=>if j=i then u else f j):=by
 obtain⟨cs,h1,h2,h3⟩:=h;refine⟨cs.setIfInBounds i u,by simp[World.setCell,Array.getElem?_modify,h1],by simpa using h2,fun j hj=>?_⟩;rw[Array.getElem?_setIfInBounds];by_cases hji:j=i
 ·subst hji;simp[h2,hj]
 ·rw[if_neg (fun e=>hji e.symm),h3 j hj];simp[hji]
theorem Arr.congr{f':Nat->Value}(h:Arr E w g n f)(hf: ∀i,i<n->f i=f' i):Arr E w g n f':=by
 obtain⟨cs,h1,h2,h3⟩:=h;exact⟨cs,h1,h2,fun i hi=>by rw[h3 i hi,hf i hi]⟩
end

def zED(z:Value)(n:Nat):Array Value:=madeCells #[z] n
theorem Arr.zED(E:TypeId)(w:World)(z:Value)(n:Nat):Arr E (w.alloc (.cells (zED z n) E)) w.heap.size n (fun _=>z):=by
 refine⟨_,heap_alloc_new w _,size_madeCells _ _,fun i hi=>?_⟩;simp[Proofs.YtgmcbpjplcjmdaaGreat.zED,madeCells,hi,Nat.mod_one]
theorem Arr.one(E:TypeId)(w:World)(z:Value):Arr E (w.alloc (.cells #[z] E)) w.heap.size 1 (fun _=>z):=by
 refine⟨_,heap_alloc_new w _,rfl,fun i hi=>?_⟩;obtain rfl:i=0:=by omega
 rfl

theorem run_mk{P:Program}{t e:TypeId}{z:Value}{bytes:Nat}(ht:P.underlying t=some (.slice e))(hinfo:(P.info? e).map (fun i=>(i.zero,i.size,i.bytes))=some (some z,1,bytes))(hz1:z.cells= #[z])
  (n:Nat) (hb:bytes*n<=281474976710656) (hm:n<=9223372036854775807) (w:World):
  (Instr.makeSlice t (.int .i64 n) (.int .i64 n)).run P w= .ok (.slice (some ⟨w.heap.size,0,none⟩) n n) (w.alloc (.cells (zED z n) e)):=by
 obtain⟨i,hi,h1,h2,h3⟩:=info_parts hinfo;have hb':(i.bytes:Int)*(n:Int)<=281474976710656:=by
  have h:((bytes*n:Nat):Int)<=281474976710656:=by omega
  rw[h3]
  rwa [Int.natCast_mul]at h
 have hr:=run_make (P:=P) w t e i z ht hi h1 .i64 .i64 n n (by omega) (Int.le_refl _) hb' (by omega);simp only[Int.toNat_natCast,h2,hz1,Nat.mul_one]at hr;exact hr

structure App(base:Nat)(e:TypeId)(w w':World)(v v':Value)(n m:Nat)(xs news:List Value):Prop where
 own:w'.ownsRow base e 1 v' (n+m) (xs++news)
 grown:w.grownBy w' v.ownBlock
 loc:v'.ownBlock=v.ownBlock\/v'.ownBlock=some w.heap.size
 kept: ∀g,v.ownBlock=some g-> ∀j u,xs[j]? =some u->w'.cell? ⟨g,j,none⟩=some u

theorem zEv{P:Program}(w:World)(base:Nat)(t ty e:TypeId)(z:Value)(bytes:Nat)(ht:P.underlying t=some (.slice e))(hinfo:(P.info? e).map (fun i=>(i.zero,i.size,i.bytes))=some (some z,1,bytes))(hzs:z.cells.size=1)
  (v:Value) (n:Nat) (xs:List Value) (hown:w.ownsRow base e 1 v n xs)
  (ad:Addr) (m c:Nat) (news:List Value) (hl:news.length=m) (hnews: ∀j u,news[j]? =some u->w.cell? (ad.add j)=some u) (h1: ∀u∈news,u.oneCell'=true)
  (h63:n+m<=maxLen) (hbytes:(n+m)*bytes<=140737488355328) (hbase:base<=w.heap.size):
  ∃v' w',(Builtin.append_ #[t,t] ty #[v,.slice (some ad) m c]).run P w= .ok v' w'/\App base e w w' v v' n m xs news:=by
 obtain⟨i,hi,hz,hsz,hby⟩:=info_parts hinfo;obtain⟨v',w',hrun,r1,r2,_,r4⟩:=run_append_own_at (P:=P) w base t ty e i z 1 bytes ht hi hz hsz hby hzs (by omega) v n xs hown ad m c news (by omega) hnews h1 h63 hbytes hbase;refine⟨v',w',hrun,r1,r2,r4,?_⟩;intro g hg j u hu;rcases hown.2 with⟨rfl,_⟩|⟨g',cap,cur,rfl,hbg,hgg,hnc,hcm,hcs,htake⟩
 ·simp[Value.ownBlock]at hg
 ·obtain rfl:g'=g:=by simpa[Value.ownBlock]using hg
  have hold:w.cell? ⟨g',j,none⟩=some u:=by
   have:=hown.cells (g:=g') rfl j u hu;rw[Addr.add_lit]at this;simpa using this
  have hsmall:n+m<=9223372036854775807:=by simp only[maxLen]at h63;omega
  by_cases hroom:n+m<=cap
  ·have hr:=run_append_room (P:=P) w t ty e i ht hi g' n cap cur hgg ad m c news (by rw[hsz];omega) hnews h1 hroom (by rw[hsz];omega);rw[hrun]at hr;injection hr with hv hw;subst hv;have hlt:j<xs.length:=(List.getElem?_eq_some_iff.1 hu).1;have:=r1.cells (g:=g') rfl j u (by rw[List.getElem?_append_left hlt];exact hu);rw[Addr.add_lit]at this;simpa using this
  ·have hr:=run_append_grow (P:=P) w t ty e i z ht hi hz ⟨g',0,none⟩ n cap xs (by rw[hsz];exact hown.1) (hown.cells (g:=g') rfl) ad m c news (by rw[hsz];omega) hnews (by omega) (by omega) (growslice_fits (by omega) (by rw[hby];exact hbytes));rw[hrun]at hr;injection hr with hv hw;subst hw;rw[World.cell?_alloc_lt _ _ _ (by have:=World.block_lt_of_cell? w _ hold;simpa using this)];exact hold

theorem zEh{P:Program}(w:World){ops:Array Oper}{rest:List Oper}{o:Oper}{a:Act}{Q:Exit->Act->World->Prop}(hgd:o.guard=none)(s x:Operand)(t:TypeId)
  (ho:o.op= .call { callee:=.builtin .append,args:=#[s,x],argTypes:=#[t,t] })
  (base:Nat) (e:TypeId) (z:Value) (bytes:Nat) (ht:P.underlying t=some (.slice e)) (hinfo:(P.info? e).map (fun i=>(i.zero,i.size,i.bytes))=some (some z,1,bytes)) (hzs:z.cells.size=1)
  (v:Value) (n:Nat) (xs:List Value) (hs:a.eval s=v) (g:Nat) (u:Value) (hx:a.eval x= .slice (some ⟨g,0,none⟩) 1 1)
  (hown:w.ownsRow base e 1 v n xs) (hu:w.cell? ⟨g,0,none⟩=some u) (h1:u.oneCell'=true)
  (h63:n+1<=maxLen) (hbytes:(n+1)*bytes<=140737488355328) (hbase:base<=w.heap.size)
  (h: ∀r cap w',App base e w w' v (.slice (some ⟨r,0,none⟩) (n+1) cap) n 1 xs [u]->wpList P ops Q rest (a.put o.dst (.slice (some ⟨r,0,none⟩) (n+1) cap)) w'):
  wpList P ops Q (o::rest) a w:=by
 refine wpList_plain hgd fun K hK=>?_
 have hnews: ∀j y,[u][j]? =some y->w.cell? ((⟨g,0,none⟩:Addr).add j)=some y:=by
  intro j y hy
  cases j with
  |zero=>
   simp at hy;subst hy;simpa[Addr.add]using hu
  |succ j=>simp at hy
 obtain⟨v',w',hrun,r1⟩:=zEv (P:=P) w base t o.type e z bytes ht hinfo hzs v n xs hown ⟨g,0,none⟩ 1 1 [u] rfl hnews (by simpa using h1) h63 hbytes hbase;unfold Oper.wp execOp;simp only[ho,resolve,invoke,builtin,Sem.run_bind,Sem.run_pure,Result.andThen_ok,List.map_toArray,List.map_cons,List.map_nil,hs,hx,hrun];obtain⟨r,cap,rfl,_,_⟩:=r1.own.form (by omega);exact hK _ _ (h r cap w' r1)

section
variable{base:Nat}{e:TypeId}{w w':World}{v v':Value}{n m:Nat}{xs news:List Value}
theorem App.at_(h:App base e w w' v v' n m xs news){k:Nat}(hk:v'.ownBlock=some k):v.ownBlock=some k\/k=w.heap.size:=by
 rcases h.loc with e|e
 ·exact .inl (by rw[←e];exact hk)
 ·exact .inr (by rw[e]at hk;simpa using hk.symm)
end

theorem Sl.own{α:Type}[Inhabited α]{enc:α->Value}{w:World}{base:Nat}{e:TypeId}{v:Value}{xs:List α}(h:w.ownsRow base e 1 v (lnx xs) (xs.map enc)):Sl enc w v xs:=by
 rcases h.2 with⟨rfl,h0⟩|⟨g,cap,cur,rfl,_,hg,hnc,hm,_,htake⟩
 ·exact⟨none,0,by rw[h0],by omega,by omega,fun hh=>by omega⟩
 ·refine⟨_,cap,rfl,hnc,by simpa[maxLen]using hm,fun _=>⟨g,0,rfl,fun i hi=>?_⟩⟩;have:=h.cells (g:=g) rfl i (enc (zAI xs i)) (by simp[zAI,lnx]at hi ⊢;simp[hi]);rw[Addr.add_lit]at this;simpa using this
theorem zCw{α:Type}(xs ys:List α):lnx (xs++ys)=lnx xs+lnx ys:=by simp[lnx]
theorem zGd{α:Type}(x:α):lnx [x]=1:=rfl
theorem zFR{α:Type}[Inhabited α](xs ys:List α){i:Nat}(h:i<lnx xs):zAI (xs++ys) i=zAI xs i:=by
 simp[zAI,lnx]at h ⊢;rw[List.getElem?_append_left h]
theorem zGK{α:Type}[Inhabited α]{xs:List α}{i:Nat}(h:i<lnx xs):zAI xs i∈xs:=by
 simp[zAI,lnx]at h ⊢;simp[h]
theorem zKi{α:Type}[Inhabited α]{xs:List α}{x:α}(h:x∈xs): ∃i,i<lnx xs/\zAI xs i=x:=by
 obtain⟨i,hi,rfl⟩:=List.getElem_of_mem h;exact⟨i,hi,by simp[zAI,hi]⟩
end Go.Proofs.YtgmcbpjplcjmdaaGreat

namespace Go.Proofs.YtgmcbpjplcjmdaaGreat
open Go.RowKit

theorem Tryz.zKb:(Tryz.prog.info? 4).map (fun i=>(i.zero,i.size,i.bytes))=some (some (.bool false),1,1):=by kernel_rfl
theorem Tryz.zMI:(Tryz.prog.info? 3).map (fun i=>(i.zero,i.size,i.bytes))=some (some (.int .i64 0),1,8):=by kernel_rfl

def Passes(n:Nat)(T:Nat->Nat->Nat)(g:Nat):Prop:=∀x y,x<n->y<n->T (T x g) y=T x (T g y)

def zD9(xs:List Nat):List Int:=xs.map (fun x:Nat=>(x:Int))
theorem zFm(xs:List Nat):lnx (zD9 xs)=lnx xs:=by simp[lnx,zD9]
theorem zIv(xs:List Nat){i:Nat}(h:i<lnx xs):zAI (zD9 xs) i=((zAI xs i:Nat):Int):=by
 simp[zAI,zD9,lnx]at h ⊢;simp[h]

set_option maxHeartbeats 1000000 in
theorem zFU(w:World)(v:Value)(n:Nat)(T:Nat->Nat->Nat)(hv:Tab w v n T)(u:Value)(gens:List Nat)(hu:Ints w u (zD9 gens))(hgens: ∀i,i<lnx gens->zAI gens i<n):
  Calls Tryz.prog 146 #[v,u] w fun e w'=>∃r:Bool,e= .returned (.bool r)/\((r=true/\ ∀i,i<lnx gens->Passes n T (zAI gens i))\/(r=false/\ ∃i,i<lnx gens/\ ¬Passes n T (zAI gens i)))/\Below w.heap.size w w':=by
 obtain⟨b,o,cap,rb,ro,rc,rfl,h0,h4,hR,hC,hT⟩:=hv;obtain⟨ua,uc,rfl,hu1,hu2,hu3⟩:=hu;rw[zFm]at*
 have HU:=Lib.hid hu3;have HG:=Lib.hid hgens;clear hu3 hgens;have hmk:=fun W=>run_mk (P:=Tryz.prog) Tryz.underlying27 Tryz.zKb rfl n (by omega) (by omega) W
 have HR:=Lib.hid hR;have HC:=Lib.hid hC;clear hR hC
 go_enter Tryz.func146,Tryz.ntmps146
 go_wp2
 clear hmk
 go_loopw [18] (fun i wr=>∃(k:Nat) (f:Nat->Bool),k<=lnx gens/\i= .int .i64 k/\Arr 4 wr w.heap.size n (fun j=>.bool (f j))/\Below w.heap.size w wr/\(∀j,j<n->f j=true->Passes n T j)/\(∀j,j<k->Passes n T (zAI gens j))) (fun i _=>lnx gens-(intOf i).toNat)
 case atStart=>exact⟨0,fun _=>false,by omega,rfl,Arr.zED _ _ _ _,(Below.refl _ _).alloc (Nat.le_refl _) _,by simp,by omega⟩
 case round=>
  obtain⟨k,f,hk,rfl,hA,hb,hf,hp⟩:=hrel;have HF:=Lib.hid hf;have HP:=Lib.hid hp;clear hf hp;have hsz:=hA.lt;have hkp:=zIG.below hb;by_cases hlt:k<lnx gens
  ·obtain⟨gb,go,rfl,hc⟩:=HU.out (by omega);have hck:=hkp _ _ (hc k hlt);obtain⟨g,hgg⟩: ∃g,zAI gens k=g:=⟨_,rfl⟩;rw[zIv gens hlt,hgg]at hck;have hgk:g<n:=by rw[←hgg];exact HG.out k hlt
   have HGG:=Lib.hid hgg;clear hgg;have hfk:=hA.cell hgk;have hfz:=hA.frozen g;clear hc;by_cases ht:f (g)=true
   ·have HT2:=Lib.hid ht;rw[ht]at hfk;clear ht
    go_wp2
    go_roundw
    case rel=>exact⟨k+1,f,by omega,by go_num,hA,hb,HF.out,fun j hj=>by
     by_cases hjk:j<k
     ·exact HP.out j hjk
     ·obtain rfl:j=k:=by omega
      rw[HGG.out];exact HF.out _ hgk HT2.out⟩
    case measure=>simp[intOf];omega
   ·rw[show f (g)=false by simpa using ht]at hfk;have hA2:=hA.zU1 (g) (.bool true);have hb2:=hb.setCell (p:=⟨w.heap.size,g,none⟩) (Nat.le_refl _) (.bool true);have hx2: ∀j,j≠g->j<n->(if j=g then true else f j)=true->Passes n T j:=fun j hne hj h=>by
     rw[if_neg hne]at h;exact HF.out j hj h
    have HX2:=Lib.hid hx2;clear hx2
    go_wp2
    obtain⟨W,hW⟩: ∃W,W=wr.setCell ⟨w.heap.size,g,none⟩ (.bool true):=⟨_,rfl⟩;rw[←hW]at hA2 hb2 ⊢;clear hW hA hb hkp hfk hfz hck;have hA3:=hA2.congr (f':=fun j=>.bool (if j=g then true else f j)) (fun i hi=>by by_cases h:i=g<;>simp[h]);have hkp:=zIG.below hb2;have hR: ∀r,r<n->W.cell? ⟨b,o+r,none⟩=some (.slice (some ⟨rb r,ro r,none⟩) n (rc r)):=fun r hr=>hkp _ _ (HR.out r hr)
    have hC: ∀r c,r<n->c<n->W.cell? ⟨rb r,ro r+c,none⟩=some (.int .i64 (T r c)):=fun r c hr hc=>hkp _ _ (HC.out r c hr hc)
    have HA3:=Lib.hid hA3;have HB2:=Lib.hid hb2;clear hA2 hA3 hb2 hkp
    go_loopw [31] (fun i wz=>∃x:Nat,x<=n/\i= .int .i64 x/\(∃q,wz=W.drewN q)/\ ∀a y,a<x->y<n->T (T a g) y=T a (T g y)) (fun i _=>n-(intOf i).toNat)
    case atStart=>exact⟨0,by omega,rfl,⟨0,rfl⟩,by omega⟩
    case round=>
     obtain⟨x,hx,rfl,⟨q1,rfl⟩,hX⟩:=hrel;have HX:=Lib.hid hX;clear hX;by_cases hxn:x<n
     ·go_wp2
      go_loopw [47] (fun i wz=>∃y:Nat,y<=n/\i= .int .i64 y/\(∃q,wz=W.drewN q)/\ ∀y',y'<y->T (T x g) y'=T x (T g y')) (fun i _=>n-(intOf i).toNat)
      case atStart=>exact⟨0,by omega,rfl,⟨_,rfl⟩,by omega⟩
      case round=>
       obtain⟨y,hy,rfl,⟨q2,rfl⟩,hY⟩:=hrel;have HY:=Lib.hid hY;clear hY;by_cases hyn:y<n
       ·by_cases heq:T (T x g) y=T x (T g y)
        ·have HE:=Lib.hid heq;clear heq;have hne:(((T (T x g) y:Nat):Int) !=((T x (T g y):Nat):Int))=false:=zTI (by rw[HE.out])
         go_wp2
         go_quiet (fail)
         go_wp2
         go_roundw
         case rel=>exact⟨y+1,by omega,by go_num,⟨_,rfl⟩,fun c hc=>by
          by_cases hcz:c<y
          ·exact HY.out c hcz
          ·obtain rfl:c=y:=by omega
           exact HE.out⟩
         case measure=>simp[intOf];omega
        ·have hne:(((T (T x g) y:Nat):Int) !=((T x (T g y):Nat):Int))=true:=zRy (by omega)
         go_wp2
         go_quiet (fail)
         go_wp2
         go_ret
         exact⟨false,rfl,.inr ⟨rfl,k,hlt,fun h=>heq (by rw[HGG.out]at h;exact h x y hxn hyn)⟩,Below.zOl (Below.zOl HB2.out _) _⟩
       ·go_wp2
        go_roundw
        case rel=>exact⟨x+1,by omega,by go_num,⟨_,rfl⟩,fun a y' ha hy'=>by
         by_cases hax:a<x
         ·exact HX.out a y' hax hy'
         ·obtain rfl:a=x:=by omega
          exact HY.out y' (by omega)⟩
        case measure=>simp[intOf];omega
     ·go_wp2
      go_roundw
      case rel=>exact⟨k+1,(fun j=>if j=g then true else f j),by omega,by go_num,Arr.drewN HA3.out _,Below.zOl HB2.out _,fun j hj h=>by
        by_cases hjg:j=g
        ·subst hjg;exact fun a y ha hy=>HX.out a y (by omega) hy
        ·exact HX2.out j hjg hj h,fun j hj=>by
        by_cases hjk:j<k
        ·exact HP.out j hjk
        ·obtain rfl:j=k:=by omega
         rw[HGG.out];exact fun a y ha hy=>HX.out a y (by omega) hy⟩
      case measure=>simp[intOf];omega
  ·go_wp2
   go_ret
   exact⟨true,rfl,.inl ⟨rfl,fun i hi=>HP.out i (by omega)⟩,hb⟩
end Go.Proofs.YtgmcbpjplcjmdaaGreat

namespace Go.Proofs.YtgmcbpjplcjmdaaGreat
open Go.RowKit

def zEC(w:World)(base:Nat)(v:Value)(xs:List Nat):Prop:=w.ownsRow base 3 1 v (lnx xs) (xs.map fun x:Nat=>Value.int .i64 (x:Int))

theorem zEC.ints{w:World}{base:Nat}{v:Value}{xs:List Nat}(h:zEC w base v xs):Ints w v (zD9 xs):=by
 refine Sl.own (base:=base) (e:=3) ?_;rw[zFm];simpa[zD9,zEC,Function.comp_def]using h
theorem zEC.nil(w:World)(base:Nat):zEC w base (.slice none 0 0) []:=World.ownsRow_nil w base _ _
theorem zEC.only{S:Nat->Prop}{w w':World}{base:Nat}{v:Value}{xs:List Nat}(h:zEC w base v xs)(ho:zDu S w w')(hn: ∀k,v.ownBlock=some k-> ¬S k):zEC w' base v xs:=by
 refine⟨h.1,?_⟩;rcases h.2 with h2|⟨g,cap,cur,rfl,hb,hg,rest⟩
 ·exact .inl h2
 ·exact .inr ⟨g,cap,cur,rfl,hb,(ho.block g (lt_of_block hg) (hn g rfl)).trans hg,rest⟩
theorem zEC.alloc{w:World}{base:Nat}{v:Value}{xs:List Nat}(h:zEC w base v xs)(o:Obj):zEC (w.alloc o) base v xs:=World.ownsRow.alloc h o
theorem zEC.lt{w:World}{base:Nat}{v:Value}{xs:List Nat}(h:zEC w base v xs){k:Nat}(hk:v.ownBlock=some k):base<=k/\k<w.heap.size:=World.ownsRow.lt h k hk
theorem zEC.push{w:World}{base:Nat}{v:Value}{xs:List Nat}{x:Nat}(h:w.ownsRow base 3 1 v (lnx xs+1) ((xs.map fun x:Nat=>Value.int .i64 (x:Int))++[Value.int .i64 (x:Int)])):zEC w base v (xs++[x]):=by
 unfold zEC;rw[zCw,zGd];simpa using h

structure zFl(w:World)(base n gb gi gm:Nat)(f:Nat->Bool)(vm:Value)(made:List Nat):Prop where
 box:Arr 27 w gb 1 (fun _=>.slice (some ⟨gi,0,none⟩) n n)
 arr:Arr 4 w gi n (fun j=>.bool (f j))
 mbox:Arr 22 w gm 1 (fun _=>vm)
 own:zEC w base vm made
 b1:gb<base
 b2:gi<base
 b3:gm<base
 n1:gb≠gi
 n2:gb≠gm
 n3:gi≠gm
 len:lnx made<=400
 hb:base<=w.heap.size

def zKQ(w:World)(base n gb gi gm:Nat)(f:Nat->Bool)(vm:Value)(made:List Nat)(x:Nat)(e:Ending)(w':World):Prop:=
 e= .returned (.tuple #[])/\ ∃vm',zFl w' base n gb gi gm (fun j=>if j=x then true else f j) vm' (made++[x])/\zDu (fun k=>k=gi\/k=gm\/vm.ownBlock=some k) w w'/\(∀k,vm'.ownBlock=some k->vm.ownBlock=some k\/w.heap.size<=k)/\ ∀g,vm.ownBlock=some g-> ∀j,j<lnx made->w'.cell? ⟨g,j,none⟩=some (.int .i64 ((zAI made j:Nat):Int))

set_option maxHeartbeats 1000000 in
theorem zIb(w:World)(base n gb gi gm:Nat)(f:Nat->Bool)(vm:Value)(made:List Nat)(h:zFl w base n gb gi gm f vm made)(x:Nat)(hx:x<n)(hn:n<=400)(hf:f x=true):
  Calls Tryz.prog 177 #[.int .i64 x,.pointer (some ⟨gb,0,none⟩),.pointer (some ⟨gm,0,none⟩)] w fun e w'=>e= .returned (.tuple #[])/\w=w':=by
 have c1:=h.box.cell (i:=0) (by omega);have c2:=h.arr.cell hx;rw[hf]at c2;clear h hf
 go_enter Tryz.func177,Tryz.ntmps177
 go_wp2
 go_end0
 exact⟨rfl,rfl⟩

set_option maxHeartbeats 1000000 in
theorem zI4(w:World)(base n gb gi gm:Nat)(f:Nat->Bool)(vm:Value)(made:List Nat)(h:zFl w base n gb gi gm f vm made)(x:Nat)(hx:x<n)(hn:n<=400)(hf:f x=false)(hlen:lnx made<400):
  Calls Tryz.prog 177 #[.int .i64 x,.pointer (some ⟨gb,0,none⟩),.pointer (some ⟨gm,0,none⟩)] w (zKQ w base n gb gi gm f vm made x):=by
 have c1:=h.box.cell (i:=0) (by omega);have c2:=h.arr.cell hx;have c3:=h.arr.frozen x;rw[hf]at c2;have n1:=h.n1;have n2:=h.n2;have n3:=h.n3;have b1:=h.b1;have b2:=h.b2;have b3:=h.b3;have hb:=h.hb;obtain⟨W,hW⟩: ∃W,W=w.setCell ⟨gi,x,none⟩ (.bool true):=⟨_,rfl⟩;have d1:Arr 27 W gb 1 (fun _=>.slice (some ⟨gi,0,none⟩) n n):=by rw[hW];exact h.box.far n1 _
 have d2:Arr 4 W gi n (fun j=>.bool (if j=x then true else f j)):=by
  rw[hW];exact(h.arr.zU1 x (.bool true)).congr (fun i hi=>by by_cases hh:i=x<;>simp[hh])
 have d3:Arr 22 W gm 1 (fun _=>vm):=by rw[hW];exact h.mbox.far (Ne.symm n3) _
 have d4:zEC W base vm made:=by rw[hW];exact ownsRow_setCell_below h.own b2 _
 have d5:zDu (fun k=>k=gi\/k=gm\/vm.ownBlock=some k) w W:=by rw[hW];exact(zDu.refl _ _).setCell (fun _=>.inl rfl) _
 have hsz:W.heap.size=w.heap.size:=by rw[hW];simp[World.setCell]
 have HSZ:=Lib.hid hsz;have hbW:base<=W.heap.size:=by omega
 clear hsz h;have hW':=hW.symm;have c4:=d3.cell (i:=0) (by omega);clear hW hf;have e1:Arr 22 (W.alloc (.cells #[.int .i64 x] 3)) gm 1 (fun _=>vm):=d3.alloc _;have e2:=World.cell?_alloc_new W #[.int .i64 (x:Int)] 3 0;have e4:=d4.alloc (.cells #[.int .i64 x] 3);have D1:=Lib.hid d1;have D2:=Lib.hid d2;have D3:=Lib.hid d3;have D5:=Lib.hid d5;have E1:=Lib.hid e1;clear d1 d2 d3 d4 d5 e1
 go_enter Tryz.func177,Tryz.ntmps177
 go_wp2_with (at_builtin;refine zEh _ rfl _ _ 22 rfl base 3 (.int .i64 0) 8 Tryz.underlying22 Tryz.zMI rfl vm (lnx made) _ rfl W.heap.size (.int .i64 x) rfl e4 e2 rfl ?_ ?_ ?_ ?_)
 ·simp only[maxLen];omega
 ·omega
 ·simp;omega
 intro r cap' w2 hap;have hown:=hap.own;have hgrow:=hap.grown;have hlt: ∀k,vm.ownBlock=some k->base<=k/\k<W.heap.size+1:=fun k hk=>by simpa using e4.lt hk
 have hnm:some gm≠vm.ownBlock:=fun e=>by have:=(hlt gm e.symm).1;omega
 have hni:some gi≠vm.ownBlock:=fun e=>by have:=(hlt gi e.symm).1;omega
 have hnb:some gb≠vm.ownBlock:=fun e=>by have:=(hlt gb e.symm).1;omega
 have hsz2:=hgrow.size;simp only[World.size_alloc]at hsz2;have f1:=E1.out.grown hgrow hnm;have c5:=f1.cell (i:=0) (by omega);have c6:=f1.frozen 0;have hr1:gm≠r:=fun e=>by
  have:=hown.lt r rfl;omega
 have P1:zKQ w base n gb gi gm f vm made x (.returned (.tuple #[])) (w2.setCell ⟨gm,0,none⟩ (.slice (some ⟨r,0,none⟩) (lnx made+1) cap')):=by
  refine⟨rfl,.slice (some ⟨r,0,none⟩) (lnx made+1) cap',⟨((D1.out.alloc _).grown hgrow hnb).far n2 _,((D2.out.alloc _).grown hgrow hni).far n3 _,(f1.zU1 0 _).congr (fun i hi=>by simp;omega),?_,b1,b2,b3,n1,n2,n3,?_,?_⟩,?_,?_,?_⟩
  ·exact zEC.push (ownsRow_setCell_below hown b3 _)
  ·rw[zCw,zGd];omega
  ·simp[World.setCell];omega
  ·refine zDu.setCell (zDu.grown (D5.out.alloc _) hgrow ?_) (fun _=>.inr (.inl rfl)) _;exact fun k hk e=>.inr (.inr e)
  ·intro k hk;rcases hap.at_ hk with e|e
   ·exact .inl e
   ·exact .inr (by rw[e];have:=HSZ.out;simp;omega)
  ·intro g hg j hj;have hne:gm≠g:=fun e=>hnm (by rw[e,hg])
   rw[World.cell?_setCell_other _ _ _ _ (fun e=>hne (congrArg Addr.block e))];exact hap.kept g hg j _ (by simp[zAI,lnx]at hj ⊢;simp[hj])
 have HP:=Lib.hid P1;clear P1 f1 hap hown hgrow hlt hnm hni hnb e4
 go_wp2
 go_end0
 exact HP.out

def zDC(made:List Nat)(x:Nat):List Nat:=if x∈made then made else made++[x]
def zLO(made:List Nat)(x:Nat):Bool:=decide (x∈made)

theorem zJ3{n:Nat}: ∀{l:List Nat},l.Nodup->(∀x∈l,x<n)->l.length<=n:=by
 induction n with
 |zero=>
  intro l _ h
  cases l with
  |nil=>simp
  |cons a l=>have:=h a (by simp);omega
 |succ n ih=>
  intro l hd h;have h1:(l.filter (fun x=>x≠n)).length<=n:=ih (hd.filter _) (by
   intro x hx;simp at hx;have:=h x hx.1;omega)
  have h2:l.length<=(l.filter (fun x=>x≠n)).length+1:=by
   clear ih h h1
   induction l with
   |nil=>simp
   |cons a l ih=>
    rw[List.nodup_cons]at hd;by_cases ha:a=n
    ·subst ha;have:l.filter (fun x=>x≠a)=l:=by
      rw[List.filter_eq_self];intro x hx;simp;intro e;exact hd.1 (e▸hx)
     rw[List.filter_cons_of_neg (by simp),this];simp
    ·have:=ih hd.2;rw[List.filter_cons_of_pos (by simpa using ha)];simp only[List.length_cons];omega
  omega

theorem zCu(made:List Nat)(x y:Nat):y∈zDC made x↔y∈made\/y=x:=by
 unfold zDC;by_cases h:x∈made
 ·rw[if_pos h];exact⟨.inl,fun hh=>hh.elim id (fun e=>e▸h)⟩
 ·rw[if_neg h];simp
theorem zFp{made:List Nat}(h:made.Nodup)(x:Nat):(zDC made x).Nodup:=by
 unfold zDC;by_cases hx:x∈made
 ·rw[if_pos hx];exact h
 ·rw[if_neg hx];rw[List.nodup_append];exact⟨h,by simp,fun a ha b hb e=>by simp at hb;subst hb;subst e;exact hx ha⟩
theorem zJq(made:List Nat)(x:Nat){j:Nat}(h:j<lnx made):zAI (zDC made x) j=zAI made j:=by
 unfold zDC;split
 ·rfl
 ·exact zFR made [x] h
theorem zGQ(made:List Nat)(x:Nat):lnx made<=lnx (zDC made x):=by
 unfold zDC;split
 ·exact Nat.le_refl _
 ·rw[zCw,zGd];omega

structure zCy(n:Nat)(T:Nat->Nat->Nat)(gens made:List Nat):Prop where
 nd:made.Nodup
 lt: ∀x∈made,x<n
 prod: ∀x∈made,Made T gens x
 glt: ∀x∈gens,x<n

theorem zCy.len{n:Nat}{T:Nat->Nat->Nat}{gens made:List Nat}(h:zCy n T gens made):lnx made<=n:=zJ3 h.nd h.lt
theorem zCy.add{n:Nat}{T:Nat->Nat->Nat}{gens made:List Nat}(h:zCy n T gens made){x:Nat}(hx:x<n)(hm:Made T gens x):zCy n T gens (zDC made x):=
 ⟨zFp h.nd x,fun y hy=>((zCu _ _ _).1 hy).elim (h.lt y) (fun e=>e▸hx),fun y hy=>((zCu _ _ _).1 hy).elim (h.prod y) (fun e=>e▸hm),h.glt⟩

def zLE(w:World)(base n gb gi gm:Nat)(vm:Value)(made:List Nat)(x:Nat)(e:Ending)(w':World):Prop:=
 e= .returned (.tuple #[])/\ ∃vm',zFl w' base n gb gi gm (zLO (zDC made x)) vm' (zDC made x)/\zDu (fun k=>k=gi\/k=gm\/vm.ownBlock=some k) w w'/\(∀k,vm'.ownBlock=some k->vm.ownBlock=some k\/w.heap.size<=k)/\ ∀g,vm.ownBlock=some g-> ∀j,j<lnx made->w'.cell? ⟨g,j,none⟩=some (.int .i64 ((zAI made j:Nat):Int))

theorem zJh(w:World)(base n gb gi gm:Nat)(vm:Value)(made:List Nat)(h:zFl w base n gb gi gm (zLO made) vm made)(x:Nat)(hx:x<n)(hn:n<=400)(hnd:made.Nodup)(hlt: ∀y∈made,y<n):
  Calls Tryz.prog 177 #[.int .i64 x,.pointer (some ⟨gb,0,none⟩),.pointer (some ⟨gm,0,none⟩)] w (zLE w base n gb gi gm vm made x):=by
 by_cases hm:x∈made
 ·refine(zIb w base n gb gi gm _ vm made h x hx hn (by simp[zLO,hm])).mono ?_;rintro e w' ⟨rfl,rfl⟩;have ha:zDC made x=made:=by simp[zDC,hm]
  refine⟨rfl,vm,by rw[ha];exact h,zDu.refl _ _,fun k hk=>.inl hk,fun g hg j hj=>?_⟩;have:=World.ownsRow.cells h.own hg j (.int .i64 ((zAI made j:Nat):Int)) (by simp[zAI,lnx]at hj ⊢;simp[hj]);rw[Addr.add_lit]at this;simpa using this
 ·have ha:zDC made x=made++[x]:=by simp[zDC,hm]
  have hlen:lnx made<400:=by
   have:=zJ3 (zFp hnd x) (fun y hy=>((zCu _ _ _).1 hy).elim (hlt y) (fun e=>e▸hx));rw[ha]at this;simp[lnx]at this ⊢;omega
  refine(zI4 w base n gb gi gm _ vm made h x hx hn (by simp[zLO,hm]) hlen).mono ?_;rintro e w' ⟨rfl,vm',h1,h2,h3⟩;refine⟨rfl,vm',?_,h2,h3⟩;rw[ha];have hf:(fun j=>if j=x then true else zLO made j)=zLO (made++[x]):=by
   funext j;by_cases hj:j=x<;>simp[zLO,hj]
  rw[hf]at h1;exact h1
end Go.Proofs.YtgmcbpjplcjmdaaGreat

namespace Go.Proofs.YtgmcbpjplcjmdaaGreat
open Go.RowKit

structure zA2(w wr:World)(n:Nat)(T:Nat->Nat->Nat)(vg vm:Value)(gens made:List Nat):Prop where
 sp:zFl wr (w.heap.size+3) n (w.heap.size+1+1) (w.heap.size+1) w.heap.size (zLO made) vm made
 own:zEC wr (w.heap.size+3) vg gens
 ap: ∀k,vg.ownBlock=some k->vm.ownBlock≠some k
 below:Below w.heap.size w wr
 nums:zCy n T gens made

theorem zA2.add{w wr w':World}{n:Nat}{T:Nat->Nat->Nat}{vg vm:Value}{gens made:List Nat}(h:zA2 w wr n T vg vm gens made){x:Nat}(hx:x<n)(hm:Made T gens x){e:Ending}
  (hp:zLE wr (w.heap.size+3) n (w.heap.size+1+1) (w.heap.size+1) w.heap.size vm made x e w'):
  e= .returned (.tuple #[])/\ ∃vm',zA2 w w' n T vg vm' gens (zDC made x)/\(∀g,vm.ownBlock=some g-> ∀j,j<lnx made->w'.cell? ⟨g,j,none⟩=some (.int .i64 ((zAI made j:Nat):Int)))/\(∀k,vm'.ownBlock=some k->vm.ownBlock=some k\/wr.heap.size<=k)∧
   zDu (fun k=>k=w.heap.size+1\/k=w.heap.size\/vm.ownBlock=some k) wr w':=by
 obtain⟨rfl,vm',h1,h2,h3,h4⟩:=hp;refine⟨rfl,vm',⟨h1,?_,?_,?_,h.nums.add hx hm⟩,h4,h3,h2⟩
 ·refine h.own.only h2 (fun k hk=>?_);have:=(h.own.lt hk).1;have:=h.ap k hk;rintro(e|e|e)
  ·omega
  ·omega
  ·exact this e
 ·intro k hk e;have:=(h.own.lt hk).2;rcases h3 k e with e|e
  ·exact h.ap k hk e
  ·omega
 ·have hs:=h.sp.hb;refine h.below.trans (h2.below ?_ (by omega));intro k hk;rintro(e|e|e)
  ·omega
  ·omega
  ·have:=(h.sp.own.lt e).1;omega
theorem zA2.push{w wr w':World}{n:Nat}{T:Nat->Nat->Nat}{vg vm:Value}{gens made:List Nat}(h:zA2 w wr n T vg vm gens made){x r cap:Nat}(hx:x<n){o:Obj}
  (hp:App (w.heap.size+3) 3 (wr.alloc o) w' vg (.slice (some ⟨r,0,none⟩) (lnx gens+1) cap) (lnx gens) 1 (gens.map fun x:Nat=>Value.int .i64 (x:Int)) [Value.int .i64 (x:Int)]):
  zA2 w w' n T (.slice (some ⟨r,0,none⟩) (lnx gens+1) cap) vm (gens++[x]) made:=by
 have hal:=h.own.alloc o;have ho:zDu (fun k=>vg.ownBlock=some k) wr w':=(zDu.grown ((zDu.refl _ wr).alloc o) hp.grown (fun k _ e=>e));have hs:=h.sp.hb;have hsz:=ho.size;have b1:=h.sp.b1;have b2:=h.sp.b2;have b3:=h.sp.b3;have hfar: ∀k,k<w.heap.size+3-> ¬vg.ownBlock=some k:=fun k hk e=>by
  have:=(h.own.lt e).1;omega
 refine⟨⟨h.sp.box.only ho (hfar _ b1),h.sp.arr.only ho (hfar _ b2),h.sp.mbox.only ho (hfar _ b3),?_,b1,b2,b3,h.sp.n1,h.sp.n2,h.sp.n3,h.sp.len,by omega⟩,zEC.push hp.own,?_,?_,?_⟩
 ·exact h.sp.own.only ho (fun k hk e=>h.ap k e hk)
 ·intro k hk e;have hlt:=(h.sp.own.lt e).2;rcases hp.at_ hk with e2|e2
  ·exact h.ap k e2 e
  ·simp at e2;omega
 ·exact h.below.trans (ho.below (fun k hk=>hfar k (by omega)) (by omega))
 ·exact⟨h.nums.nd,h.nums.lt,fun y hy=>(h.nums.prod y hy).mono (fun z hz=>by simp[hz]),fun y hy=>by
   simp at hy;rcases hy with hy|rfl
   ·exact h.nums.glt y hy
   ·exact hx⟩

theorem zA2.start(w:World)(n:Nat)(T:Nat->Nat->Nat):
  zA2 w (((w.alloc (.cells #[.slice none 0 0] 22)).alloc (.cells (zED (.bool false) n) 4)).alloc (.cells #[.slice (some ⟨w.heap.size+1,0,none⟩) n n] 27)) n T (.slice none 0 0) (.slice none 0 0) [] []:=by
 refine⟨⟨?_,?_,?_,zEC.nil _ _,by omega,by omega,by omega,by omega,by omega,by omega,by simp[lnx],by simp⟩,zEC.nil _ _,by simp[Value.ownBlock],?_,⟨by simp,by simp,by simp,by simp⟩⟩
 ·have:=Arr.one 27 ((w.alloc (.cells #[.slice none 0 0] 22)).alloc (.cells (zED (.bool false) n) 4)) (.slice (some ⟨w.heap.size+1,0,none⟩) n n);simpa using this
 ·have:=(Arr.zED 4 (w.alloc (.cells #[.slice none 0 0] 22)) (.bool false) n).alloc (.cells #[.slice (some ⟨w.heap.size+1,0,none⟩) n n] 27);simpa[zLO]using this
 ·exact((Arr.one 22 w (.slice none 0 0)).alloc _).alloc _
 ·exact((((Below.refl _ _).alloc (Nat.le_refl _) _).alloc (by simp) _).alloc (by simp;omega) _)

def zSC(w:World)(n:Nat)(T:Nat->Nat->Nat)(e:Ending)(w':World):Prop:=
 ∃v gens,e= .returned v/\Ints w' v (zD9 gens)/\(∀i,i<lnx gens->zAI gens i<n)/\(∀x,x<n->Made T gens x)/\Below w.heap.size w w'

theorem zEC.shape{w:World}{base:Nat}{v:Value}{xs:List Nat}(h:zEC w base v xs): ∃a c,v= .slice a (lnx xs) c/\lnx xs<=c/\c<=9223372036854775807/\(0<lnx xs-> ∃g,a=some ⟨g,0,none⟩/\base<=g/\ ∀j,j<lnx xs->w.cell? ⟨g,j,none⟩=some (.int .i64 ((zAI xs j:Nat):Int))):=by
 rcases h.2 with⟨rfl,h0⟩|⟨g,cap,cur,rfl,hb,hg,hnc,hm,_,htake⟩
 ·exact⟨none,0,by rw[h0],by omega,by omega,fun hh=>by omega⟩
 ·refine⟨_,cap,rfl,hnc,by simpa[maxLen]using hm,fun _=>⟨g,rfl,hb,fun j hj=>?_⟩⟩;have:=World.ownsRow.cells h (g:=g) rfl j (.int .i64 ((zAI xs j:Nat):Int)) (by simp[zAI,lnx]at hj ⊢;simp[hj]);rw[Addr.add_lit]at this;simpa using this

theorem zA2.old{w wr w':World}{n:Nat}{T:Nat->Nat->Nat}{vg vm:Value}{gens made':List Nat}(h:zA2 w wr n T vg vm gens made')
  (hk: ∀g,vm.ownBlock=some g-> ∀j,j<lnx made'->w'.cell? ⟨g,j,none⟩=some (.int .i64 ((zAI made' j:Nat):Int)))
  (ho:zDu (fun k=>k=w.heap.size+1\/k=w.heap.size\/vm.ownBlock=some k) wr w') {g0 q:Nat} (hg0:w.heap.size+3<=g0) (made:List Nat) (hpre: ∀i,i<q->zAI made' i=zAI made i) (hq:q<=lnx made')
  (hc: ∀i,i<q->wr.cell? ⟨g0,i,none⟩=some (.int .i64 ((zAI made i:Nat):Int))): ∀i,i<q->w'.cell? ⟨g0,i,none⟩=some (.int .i64 ((zAI made i:Nat):Int)):=by
 intro i hi;by_cases hb:vm.ownBlock=some g0
 ·rw[hk g0 hb i (by omega),hpre i hi]
 ·have hlt:=World.block_lt_of_cell? wr _ (hc i hi);have:=ho.block g0 hlt (by rintro(e|e|e);omega;omega;exact hb e);rw[World.cell?_of_block (w:=wr) (w':=w') this];exact hc i hi

theorem zA2.zQ3{w wr:World}{n:Nat}{T:Nat->Nat->Nat}{vg vm:Value}{gens made:List Nat}(h:zA2 w wr n T vg vm gens made){i:Nat}(hi:i<lnx made):zAI made i<n:=h.nums.lt _ (zGK hi)
theorem zA2.zKL{w wr:World}{n:Nat}{T:Nat->Nat->Nat}{vg vm:Value}{gens made:List Nat}(h:zA2 w wr n T vg vm gens made){i:Nat}(hi:i<lnx made):Made T gens (zAI made i):=h.nums.prod _ (zGK hi)

set_option maxHeartbeats 2000000 in
theorem zHH(w:World)(v:Value)(n:Nat)(T:Nat->Nat->Nat)(hv:Tab w v n T):
  Calls Tryz.prog 147 #[v] w (zSC w n T):=by
 obtain⟨b,o,cap,rb,ro,rc,rfl,h0,h4,hR,hC,hT⟩:=hv;have HR:=Lib.hid hR;have HC:=Lib.hid hC;have HT:=Lib.hid hT;clear hR hC hT;have hmk:=fun W=>run_mk (P:=Tryz.prog) Tryz.underlying27 Tryz.zKb rfl n (by omega) (by omega) W
 have hmf: ∀(fn:Fn) (first cap:Array Value) (w:World),(Instr.makeFunc fn first cap).run Tryz.prog w= .ok (.func fn first cap) w:=fun _ _ _ _=>rfl
 go_enter Tryz.func147,Tryz.ntmps147
 go_wp2
 clear hmk hmf
 go_loopw [3,7,18] (fun vg mu i wr=>∃(k m:Nat) (vm:Value) (gens made:List Nat),k<=n/\i= .int .i64 k/\mu= .int .i64 m/\m<=lnx made/\lnx gens<=k/\zA2 w wr n T vg vm gens made/\(∀x,x<k->Made T gens x)) (fun _ _ i _=>n-(intOf i).toNat)
 case atStart=>exact⟨0,0,.slice none 0 0,[],[],by omega,rfl,rfl,by simp[lnx],by simp[lnx],zA2.start w n T,by omega⟩
 case round=>
  obtain⟨k,m,vm,gens,made,hk,rfl,rfl,hm,hgk,hst,hmd⟩:=hrel;have HMD:=Lib.hid hmd;clear hmd;by_cases hlt:k<n
  ·have c1:=hst.sp.box.cell (i:=0) (by omega);have c2:=hst.sp.arr.cell hlt;by_cases hmem:k∈made
   ·have hb:zLO made k=true:=by simp[zLO,hmem]
    rw[hb]at c2;have HST:=Lib.hid hst;clear hst hb
    go_wp2
    go_roundw
    case rel=>exact⟨k+1,m,vm,gens,made,by omega,by go_num,rfl,hm,by omega,HST.out,fun x hx=>by
     by_cases hxk:x<k
     ·exact HMD.out x hxk
     ·obtain rfl:x=k:=by omega
      exact HST.out.nums.prod x hmem⟩
    case measure=>simp[intOf];omega
   ·have hb:zLO made k=false:=by simp[zLO,hmem]
    rw[hb]at c2;have e4:=hst.own.alloc (.cells #[.int .i64 k] 3);have e2:=World.cell?_alloc_new wr #[.int .i64 (k:Int)] 3 0;have hsz:=hst.sp.hb;have HST:=Lib.hid hst;clear hst hb
    go_wp2_with (at_builtin;refine zEh _ rfl _ _ 22 rfl (w.heap.size+3) 3 (.int .i64 0) 8 Tryz.underlying22 Tryz.zMI rfl _ (lnx gens) _ rfl wr.heap.size (.int .i64 k) rfl e4 e2 rfl ?_ ?_ ?_ ?_)
    ·simp only[maxLen];omega
    ·omega
    ·simp;omega
    intro r cap' w2 hap;have hst2:=HST.out.push hlt hap;clear hap HST e4 e2 c1 c2 hsz;have hmk:Made T (gens++[k]) k:=Made.gen (by simp);have HAdd:=Lib.hid (zJh w2 _ n _ _ _ vm made hst2.sp k hlt h4 hst2.nums.nd hst2.nums.lt);have HST:=Lib.hid hst2;clear hst2
    go_wp2_with fail
    refine HAdd.out.mono ?_;intro e w3 hp;obtain⟨rfl,vm3,hst3,-,-,-⟩:=HST.out.add hlt hmk hp;clear hp HAdd HST;have hm3:m<=lnx (zDC made k):=Nat.le_trans hm (zGQ _ _);have hk3:k∈zDC made k:=(zCu _ _ _).2 (.inr rfl);have HM:Hid (∀x,x<k->Made T (gens++[k]) x):=fun x hx=>(HMD.out x hx).mono (fun z hz=>by simp[hz])
    have hgk3:lnx (gens++[k])<=k+1:=by rw[zCw,zGd];omega
    obtain⟨made3,hmade3⟩: ∃made3,made3=zDC made k:=⟨_,rfl⟩;rw[←hmade3]at hst3 hm3 hk3;obtain⟨gens3,hgens3⟩: ∃gens3,gens3=gens++[k]:=⟨_,rfl⟩;rw[←hgens3]at hst3 hgk3 HM;clear hmade3 hgens3 HMD hm hmem hmk hgk;have HST3:=Lib.hid hst3;clear hst3
    go_wp2
    go_loopw [7] (fun mu wr=>∃(m:Nat) (vm:Value) (made:List Nat),mu= .int .i64 m/\m<=lnx made/\k∈made/\zA2 w wr n T (.slice (some ⟨r,0,none⟩) (lnx gens+1) cap') vm gens3 made) (fun mu _=>n-(intOf mu).toNat)
    case atStart=>exact⟨m,vm3,made3,rfl,hm3,hk3,HST3.out⟩
    case round=>
     clear HST3 hm3 hk3;obtain⟨mm,vm,md,rfl,hmm,hkm,hst⟩:=hrel;have hlen:lnx md<=n:=hst.nums.len;obtain⟨ma,mc,rfl,hmc1,hmc2,hmc3⟩:=hst.sp.own.shape;have c1:=hst.sp.mbox.cell (i:=0) (by omega);by_cases hmlt:mm<lnx md
     ·obtain⟨g0,rfl,hg0,hcs⟩:=hmc3 (by omega);have c2:=hcs mm hmlt;have HCS:=Lib.hid hcs;clear hmc3 hcs;obtain⟨x,hx⟩: ∃x,zAI md mm=x:=⟨_,rfl⟩;rw[hx]at c2;have hxn:x<n:=by rw[←hx];exact hst.zQ3 hmlt
      have hxm:Made T gens3 x:=by rw[←hx];exact hst.zKL hmlt
      clear hx;have HST:=Lib.hid hst;clear hst
      go_wp2
      have hml1:mm+1<=lnx md:=by omega
      go_loopw [47] (fun j wz=>∃(jj:Nat) (vm':Value) (md':List Nat),j= .int .i64 jj/\jj<=mm+1/\k∈md'/\lnx md<=lnx md'/\zA2 w wz n T (.slice (some ⟨r,0,none⟩) (lnx gens+1) cap') vm' gens3 md'/\(∀i,i<mm+1->zAI md' i=zAI md i)/\(∀i,i<mm+1->wz.cell? ⟨g0,i,none⟩=some (.int .i64 ((zAI md i:Nat):Int)))) (fun j _=>mm+1-(intOf j).toNat)
      case atStart=>exact⟨0,_,md,rfl,by omega,hkm,Nat.le_refl _,HST.out,fun _ _=>rfl,fun i hi=>HCS.out i (by omega)⟩
      case round=>
       obtain⟨jj,vm',md',rfl,hjj,hkm',hlen',hst',hpre,hold⟩:=hrel;by_cases hjlt:jj<mm+1
       ·have d1:=hold jj hjlt;obtain⟨y,hy⟩: ∃y,zAI md jj=y:=⟨_,rfl⟩;rw[hy]at d1;have hyn:y<n:=by rw[←hy];exact HST.out.zQ3 (by omega)
        have hym:Made T gens3 y:=by rw[←hy];exact HST.out.zKL (by omega)
        clear hy;have hTxy:=HT.out x y hxn hyn;have hTyx:=HT.out y x hyn hxn;have hkp:=zIG.below hst'.below;have r1:=hkp _ _ (HR.out x hxn);have r2:=hkp _ _ (HC.out x y hxn hyn);have HAdd:=Lib.hid (zJh wr _ n _ _ _ vm' md' hst'.sp (T x y) hTxy h4 hst'.nums.nd hst'.nums.lt);have HST':=Lib.hid hst';have HPre:=Lib.hid hpre;have HOld:=Lib.hid hold;clear hst' hpre hold hkp
        go_wp2_with fail
        refine HAdd.out.mono ?_;intro e w4 hp;obtain⟨rfl,vm4,hst4,hk4,hl4,ho4⟩:=HST'.out.add hTxy (Made.mul hxm hym) hp;have hold4:=HST'.out.old hk4 ho4 hg0 md HPre.out (by omega) HOld.out;have hpre4: ∀i,i<mm+1->zAI (zDC md' (T x y)) i=zAI md i:=fun i hi=>(zJq _ _ (by omega)).trans (HPre.out i hi)
        have hlen4:=zGQ md' (T x y);have hkm4:k∈zDC md' (T x y):=(zCu _ _ _).2 (.inl hkm');clear hp HAdd HST' HPre HOld hk4 hl4 ho4 r1 r2 d1;have hkp:=zIG.below hst4.below;have r1:=hkp _ _ (HR.out y hyn);have r2:=hkp _ _ (HC.out y x hyn hxn);have HAdd:=Lib.hid (zJh w4 _ n _ _ _ vm4 _ hst4.sp (T y x) hTyx h4 hst4.nums.nd hst4.nums.lt);have HST4:=Lib.hid hst4;have HPre:=Lib.hid hpre4;have HOld:=Lib.hid hold4;clear hst4 hpre4 hold4 hkp
        go_wp2_with fail
        refine HAdd.out.mono ?_;intro e w5 hp;obtain⟨rfl,vm5,hst5,hk5,hl5,ho5⟩:=HST4.out.add hTyx (Made.mul hym hxm) hp;have hold5:=HST4.out.old hk5 ho5 hg0 md HPre.out (by omega) HOld.out;have hpre5: ∀i,i<mm+1->zAI (zDC (zDC md' (T x y)) (T y x)) i=zAI md i:=fun i hi=>(zJq _ _ (by omega)).trans (HPre.out i hi)
        have hlen5:=zGQ (zDC md' (T x y)) (T y x);have hkm5:k∈zDC (zDC md' (T x y)) (T y x):=(zCu _ _ _).2 (.inl hkm4);have HREL:Hid (zA2 w w5 n T (.slice (some ⟨r,0,none⟩) (lnx gens+1) cap') vm5 gens3 (zDC (zDC md' (T x y)) (T y x))/\(∀i,i<mm+1->zAI (zDC (zDC md' (T x y)) (T y x)) i=zAI md i)/\(∀i,i<mm+1->w5.cell? ⟨g0,i,none⟩=some (.int .i64 ((zAI md i:Nat):Int)))):=⟨hst5,hpre5,hold5⟩;clear hp HAdd HST4 HPre HOld hk5 hl5 ho5 r1 r2 hst5 hpre5 hold5
        go_wp2
        go_roundw
        case rel=>exact⟨jj+1,vm5,_,by go_num,by omega,hkm5,by omega,HREL.out⟩
        case measure=>simp[intOf];omega
       ·have HST':=Lib.hid hst';have h1:mm+1<=lnx md':=by omega
        clear hst' hpre hold
        go_wp2
        go_roundw
        case rel=>exact⟨mm+1,vm',md',by go_num,h1,hkm',HST'.out⟩
        case measure=>simp[intOf];omega
     ·have HST:=Lib.hid hst;clear hst
      go_wp2
      go_roundw
      case rel=>exact⟨k+1,mm,_,gens3,md,by omega,by go_num,rfl,hmm,hgk3,HST.out,fun x hx=>by
       by_cases hxk:x<k
       ·exact HM.out x hxk
       ·obtain rfl:x=k:=by omega
        exact HST.out.nums.prod x hkm⟩
      case measure=>simp[intOf];omega
  ·go_wp2
   go_ret
   exact⟨_,gens,rfl,hst.own.ints,fun i hi=>hst.nums.glt _ (zGK hi),fun x hx=>HMD.out x (by omega),hst.below⟩
end Go.Proofs.YtgmcbpjplcjmdaaGreat

namespace Go.Proofs.YtgmcbpjplcjmdaaGreat
open Go.RowKit

theorem zIA(w:World)(v:Value)(t:List (List Int))(ht:zPG w v t):
  Calls Tryz.prog 93 #[v] w fun e w'=>e= .returned (.int .i64 (zCQ t))/\Below w.heap.size w w':=by
 have HS:=Lib.hid (zGt w v t ht);by_cases h0:zAf t=0
 ·have hT:=Tab.zSX ht h0;have HT:=Lib.hid hT;have H1:=Lib.hid (zHH w v _ _ hT);rw[h0]at HS;obtain⟨a,cap,rfl,_⟩:=ht;clear hT;have H0:=Lib.hid h0;clear h0
  go_enter Tryz.func93,Tryz.ntmps93
  go_wp2_with fail
  refine HS.out.mono ?_;rintro e w' ⟨rfl,rfl⟩;clear HS
  go_wp2_with fail
  refine H1.out.mono ?_;rintro e w1 ⟨u,gens,rfl,hu,hg,hmk,hb⟩;have H2:=Lib.hid (zFU w1 _ _ _ (HT.out.zOs (zIG.below hb)) u gens hu hg);have HG:=Lib.hid hg;have HMK:=Lib.hid hmk;have HB:=Lib.hid hb;clear hu hg hmk hb H1
  go_wp2_with fail
  refine H2.out.mono ?_;rintro e w2 ⟨r,rfl,hr,hb2⟩;have HB2:=Lib.hid (zMw HB.out hb2);clear H2 hb2 HB;rcases hr with⟨rfl,hp⟩|⟨rfl,i,hi,hp⟩
  ·have hv:zCQ t=0:=by
    refine zNN H0.out (zVE (fun r c hr hc=>zQY H0.out hr hc) (gens:=gens) ?_ HMK.out ?_)
    ·intro g hg;obtain⟨i,hi,rfl⟩:=zKi hg;exact HG.out i hi
    ·intro g hg;obtain⟨i,hi,rfl⟩:=zKi hg;exact hp i hi
   have HV:=Lib.hid hv;clear hv hp
   go_wp2
   go_ret
   exact⟨zCc HV.out.symm,HB2.out⟩
  ·have hv:zCQ t=5:=by
    refine zQJ H0.out (fun h=>hp ?_);intro x y hx hy;exact h x _ y hx (HG.out i hi) hy
   have HV:=Lib.hid hv;clear hv hp
   go_wp2
   go_ret
   exact⟨zCc HV.out.symm,HB2.out⟩
 ·have hne:(zAf t !=0)=true:=zRy h0;have HV:=Lib.hid (zLa h0);obtain⟨a,cap,rfl,_⟩:=ht
  go_enter Tryz.func93,Tryz.ntmps93
  go_wp2_with fail
  refine HS.out.mono ?_;rintro e w' ⟨rfl,rfl⟩;clear HS
  go_wp2
  go_ret
  exact⟨zCc HV.out.symm,Below.refl _ _⟩

end Go.Proofs.YtgmcbpjplcjmdaaGreat
