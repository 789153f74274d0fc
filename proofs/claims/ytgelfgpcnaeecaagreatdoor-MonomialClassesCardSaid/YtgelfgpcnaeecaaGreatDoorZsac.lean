/-
  My own logic, part 21: the same walks with the continuation kept closed, so that the simplifier looks at one operation at a time.
  Contracts that say which own rows are the same as before.
  Calls by contracts that keep rows: a kept row keeps its number.
  Calls that hand over a list of objects and a family of objects, and get such back.
-/
import Derived.Test.YtgelfgpcnaeecaaGreatDoorZsab
namespace Go.Proofs.YtgelfgpcnaeecaaGreatDoor.M
open Go.RowKit
set_option linter.unusedVariables false
set_option linter.unusedSimpArgs false
set_option maxRecDepth 100000
set_option maxHeartbeats 32000000

def KL (P : Program) (ops : Array Oper) (N : Nat) (r : List Oper) (k : Nat) (K : ASt -> Prop) : ASt -> Prop:=fun σ=>awpL P ops N r k σ K
def KD (P : Program) (ops : Array Oper) (N : Nat) (r : List Oper) (k : Nat) (sm : List (List Nat × List Nat)) (K : ASt -> Prop) : ASt -> List Nat × List Nat -> Prop:=fun σ s=>zJc P ops N r k σ (sm ++ [s]) K
theorem zRB (P : Program) (ops : Array Oper) (N : Nat) (r : List Oper) (k : Nat) (K : ASt -> Prop) (σ : ASt) : KL P ops N r k K σ = awpL P ops N r k σ K:=rfl
theorem zRG (P : Program) (ops : Array Oper) (N : Nat) (r : List Oper) (k : Nat) (sm : List (List Nat × List Nat)) (K : ASt -> Prop) (σ : ASt) (s : List Nat × List Nat) : KD P ops N r k sm K σ s = zJc P ops N r k σ (sm ++ [s]) K:=rfl
theorem zFN (P : Program) (ops : Array Oper) (N k : Nat) (σ : ASt) (K : ASt -> Prop) : awpL P ops N [] k σ K = K { σ with nxt:=N + k }:=rfl
theorem zEB (P : Program) (ops : Array Oper) (N k : Nat) (o : Oper) (r : List Oper) (σ : ASt) (K : ASt -> Prop) : awpL P ops N (o :: r) k σ K = awpOp P ops (N + k) o σ (KL P ops N r (k + 1000000) K):=rfl
theorem zFV (P : Program) (ops : Array Oper) (N k : Nat) (σ : ASt) (sm : List (List Nat × List Nat)) (K : ASt -> Prop) : zJc P ops N [] k σ sm K = (zA8 ops sm = true /\ K { σ with nxt:=N + k }):=rfl
theorem zDs (P : Program) (ops : Array Oper) (N k : Nat) (o : Oper) (r : List Oper) (σ : ASt) (sm : List (List Nat × List Nat)) (K : ASt -> Prop) : zJc P ops N (o :: r) k σ sm K = awpOpD P ops (N + k) o σ (KD P ops N r (k + 1000000) sm K):=rfl
theorem zBa {α : Type} (f : Nat -> α) (i : Nat) (x : α) (j : Nat) : upd f i x j = bif (j == i) then x else f j:=by
 by_cases h : j = i
 ·subst h; simp [upd]
 ·simp [upd,h,beq_eq_false_iff_ne.2 h]
theorem zl (t : Nat) : envOf [] t = .any:=rfl
theorem zi (k : Nat) (v : AV) (r : List (Nat × AV)) (t : Nat) : envOf ((k,v) :: r) t = bif (t == k) then v else envOf r t:=by
 by_cases h : t = k
 ·subst h; simp [envOf]
 ·simp [envOf,h,beq_eq_false_iff_ne.2 h]
theorem zj (t : Nat) : heapOf [] t = none:=rfl
theorem zf (k : Nat) (v : AObj) (r : List (Nat × AObj)) (t : Nat) : heapOf ((k,v) :: r) t = bif (t == k) then some v else heapOf r t:=by
 by_cases h : t = k
 ·subst h; simp [heapOf]
 ·simp [heapOf,h,beq_eq_false_iff_ne.2 h]
theorem zAB (t : Nat) : mpOf [] t = none:=rfl
theorem zr (k : Nat) (v : Option Nat) (r : List (Nat × Option Nat)) (t : Nat) : mpOf ((k,v) :: r) t = bif (t == k) then v else mpOf r t:=by
 by_cases h : t = k
 ·subst h; simp [mpOf]
 ·simp [mpOf,h,beq_eq_false_iff_ne.2 h]
/-! ## Many own objects that come back from a call -/
def tab {α : Type} (n : Nat) (F : Nat -> α) : List α:=(List.range n).map F
@[simp] theorem zu {α : Type} (n : Nat) (F : Nat -> α) : (tab n F).length = n:=by simp [tab]
@[simp] theorem zP {α : Type} {n : Nat} (F : Nat -> α) {k : Nat} (h : k < n) : (tab n F)[k]? = some (F k):=by simp [tab,h]
theorem zA1 {α : Type} {n : Nat} (F : Nat -> α) {k : Nat} (h : n <= k) : (tab n F)[k]? = none:=by simp [tab,h]
def ovr (b n : Nat) (G : Nat -> AObj) (H : Nat -> Option AObj) (k : Nat) : Option AObj:=if k < b then H k else if k - b < n then some (G (k - b)) else H k
theorem zAs (b n : Nat) (G : Nat -> AObj) (H : Nat -> Option AObj) {k : Nat} (h : k < b) : ovr b n G H k = H k:=by unfold ovr; rw [if_pos h]
theorem zA3 (b n : Nat) (G : Nat -> AObj) (H : Nat -> Option AObj) {j : Nat} (h : j < n) : ovr b n G H (b + j) = some (G j):=by
 unfold ovr
 rw [if_neg (by omega),if_pos (by omega)]
 congr 2
 omega
theorem zAW (hl : List (Nat × AObj)) (base n : Nat) (F : Nat -> AObj) {k : Nat} (h : k < base) : zCj hl base n F k = heapOf hl k:=by unfold zCj; rw [if_pos h]
theorem zAM (hl : List (Nat × AObj)) (base n : Nat) (F : Nat -> AObj) {j : Nat} (h : j < n) : zCj hl base n F (base + j) = some (F j):=by
 unfold zCj
 rw [if_neg (by omega),if_pos (by omega)]
 congr 2
 omega
theorem zAV (mp : List (Nat × Option Nat)) (base n : Nat) (g : Nat -> Nat) {k : Nat} (h : k < base) : zBY mp base n g k = mpOf mp k:=by unfold zBY; rw [if_pos h]
theorem zAN (mp : List (Nat × Option Nat)) (base n : Nat) (g : Nat -> Nat) {j : Nat} (h : j < n) : zBY mp base n g (base + j) = some (g j):=by
 unfold zBY
 rw [if_neg (by omega),if_pos (by omega)]
 congr 2
 omega
def poF (ph : List Nat) (b n : Nat) : List Nat:=ph ++ tab n fun j=>b + j
theorem zSU {ph : List Nat} {b n k : Nat} (h : k < ph.length) : (poF ph b n).getD k 0 = ph.getD k 0:=by
 unfold poF
 rw [List.getD_eq_getElem?_getD,List.getElem?_append_left h,← List.getD_eq_getElem?_getD]
theorem zPU {ph : List Nat} {b n j : Nat} (h : j < n) : (poF ph b n).getD (ph.length + j) 0 = b + j:=by
 unfold poF
 rw [List.getD_eq_getElem?_getD,List.getElem?_append_right (by omega),show ph.length + j - ph.length = j by omega,zP _ h]
 rfl
theorem zB3 {ph : List Nat} {b n j k : Nat} (h : (poF ph b n)[j]? = some k) : (j < ph.length /\ ph[j]? = some k) \/ (ph.length <= j /\ j - ph.length < n /\ k = b + (j - ph.length)):=by
 unfold poF at h
 by_cases hj : j < ph.length
 ·rw [List.getElem?_append_left hj] at h; exact .inl ⟨hj,h⟩
 ·rw [List.getElem?_append_right (by omega)] at h
  have h2:=(List.getElem?_eq_some_iff.1 h).1
  rw [zu] at h2
  rw [zP _ h2] at h
  injection h with h
  exact .inr ⟨by omega,h2,h.symm⟩
theorem zIo : ∀ {l : List Nat},(∀ (i j : Nat) k,l[i]? = some k -> l[j]? = some k -> i = j) -> ndL l
 | [],_=>trivial
 | a :: r,h=>by
  refine ⟨fun ha=>?_,zIo (fun i j k hi hj=>?_)⟩
  ·obtain ⟨i,hi,e⟩:=List.getElem_of_mem ha
   have:=h 0 (i + 1) a rfl (by simp [hi,e])
   omega
  ·have:=h (i + 1) (j + 1) k (by simpa using hi) (by simpa using hj)
   omega
theorem zFi {i : Nat} {pi : List Nat} {args : List AV} {H H' : List AObj} : ∀ {po : List Nat} {j0 : Nat},(∀ (j : Nat) k,po[j]? = some k -> (i <= k /\ k < i + 1000000) \/ (pi[j0 + j]? = some k /\ ∃ (t c ty : Nat) (cs : List AV) (ty' : Nat) (cs' : List AV),args[t]? = some (AV.ptr (j0 + j) 0 c) /\ H[j0 + j]? = some (AObj.box ty cs) /\ cs.length = c /\ H'[j0 + j]? = some (AObj.box ty' cs') /\ cs'.length = c)) -> zOj i pi args H H' j0 po
 | [],j0,_=>trivial
 | a :: r,j0,h=>by
  refine ⟨h 0 a rfl,zFi (fun j k hj=>?_)⟩
  have:=h (j + 1) k (by simpa using hj)
  rw [show j0 + (j + 1) = j0 + 1 + j by omega] at this
  exact this
def callF (σ : ASt) (dst : Option Tmp) (pi ph : List Nat) (b n q : Nat) (res : AV) (hd : List AObj) (F : Nat -> AObj) : ASt:={ σ with env:=match dst with | some d=>upd σ.env d (outV (poF ph b n) q res) | none=>σ.env,heap:=ovr b n (fun j=>outO (poF ph b n) q (F j)) (addL (delL σ.heap pi) (ph.zip (hd.map (outO (poF ph b n) q)))) }
theorem zFy {σ : ASt} {dst : Option Tmp} {pi ph : List Nat} {b n q : Nat} {res : AV} {hd : List AObj} {F : Nat -> AObj} (hl : ph.length = hd.length) (hb : ∀ k,k ∈ ph -> k < b) : callS σ dst pi (poF ph b n) q res (hd ++ tab n F) = callF σ dst pi ph b n q res hd F:=by
 have hnd : ∀ (m : Nat) (k : Nat) (f : Nat -> Option AObj) (G : Nat -> AObj),addL f ((tab m fun j=>b + j).zip (tab m G)) k = if k < b then f k else if k - b < m then some (G (k - b)) else f k:=fun m k f G=>by
  have hnd2 : ndL (tab m fun j=>b + j):=zIo (fun i j k hi hj=>by
   have a1:=(List.getElem?_eq_some_iff.1 hi).1
   have a2:=(List.getElem?_eq_some_iff.1 hj).1
   rw [zu] at a1 a2
   rw [zP _ a1] at hi
   rw [zP _ a2] at hj
   injection hi with hi
   injection hj with hj
   omega)
  rw [addL_zip _ _ _ _ (by simp)]
  cases hq : idx (tab m fun j=>b + j) k with
  | none =>
   by_cases h1 : k < b
   ·rw [if_pos h1]
   ·rw [if_neg h1]
    by_cases h2 : k - b < m
    ·have:=zJH hnd2 (k:=k) (j:=k - b) (by rw [zP _ h2]; congr 1; omega)
     rw [hq] at this; cases this
    ·rw [if_neg h2]
  | some j =>
   have hj:=zDR hq
   have a1:=(List.getElem?_eq_some_iff.1 hj).1
   rw [zu] at a1
   rw [zP _ a1] at hj
   injection hj with hj
   show (tab m G)[j]? = _
   rw [zP _ a1,if_neg (by omega),if_pos (by omega)]
   congr 2
   omega
 have hzip : ∀ (po : List Nat) (q' : Nat),(poF ph b n).zip ((hd ++ tab n F).map (outO po q')) = ph.zip (hd.map (outO po q')) ++ (tab n fun j=>b + j).zip (tab n fun j=>outO po q' (F j)):=fun po q'=>by
  unfold poF
  rw [List.map_append,List.zip_append (by simpa using hl)]
  congr 2
  unfold tab
  simp [Function.comp_def]
 have hadd : ∀ (l1 l2 : List (Nat × AObj)) (f : Nat -> Option AObj),addL f (l1 ++ l2) = addL (addL f l2) l1:=fun l1=>by
  induction l1 with
  | nil=>intro l2 f; rfl
  | cons x r ih=>intro l2 f; obtain ⟨k,y⟩:=x; simp only [List.cons_append,addL,ih]
 refine ASt.ext' (fun t=>rfl) (fun k=>?_) rfl rfl rfl
 show zA0 σ.heap (hd ++ tab n F) pi (poF ph b n) q k = ovr b n (fun j=>outO (poF ph b n) q (F j)) (addL (delL σ.heap pi) (ph.zip (hd.map (outO (poF ph b n) q)))) k
 unfold zA0
 have hP:=addL_zip (delL σ.heap pi) ph (hd.map (outO (poF ph b n) q)) k (by simp [hl])
 rw [hzip,hadd,addL_zip _ _ _ _ (by simp [hl])]
 unfold ovr
 rw [hP]
 cases hq : idx ph k with
 | none =>
  rw [hq] at hP
  simp only
  exact hnd n k _ _
 | some j =>
  have:=hb k (List.mem_of_getElem? (zDR hq))
  simp only
  rw [if_pos this]
theorem zC7 {P : Program} {ops : Array Oper} {i : Nat} {o : Oper} {σ : ASt} {K : ASt -> Prop} {cl : Call} {fo : Operand} {f : FuncId} {caps : List AV} {args : List AV} {H hd : List AObj} {n : Nat} {F : Nat -> AObj} {res : AV} (hspec : FnS P f args H res (hd ++ tab n F)) (pi ph : List Nat) (b q : Nat)
  (hg : gd ops σ o = some true) (hop : o.op = .call cl) (hc : cl.callee = .value fo) (hfo : σ.eval fo = .fn f caps) (hb : zBy P f = true) (hd' : zAu σ o = true)
  (hargs : inPs σ.heap pi q (cl.args.toList.map σ.eval ++ caps) args) (hobj : inOs σ.heap pi q pi H) (hndi : ndL pi) (hlen : ph.length = hd.length) (hndo : ndL ph) (hpo : zOj i pi args H hd 0 ph) (hbb : i <= b /\ b + n <= i + 1000000) (hlt : ∀ k,k ∈ ph -> k < b) (hok : hd.all okO = true) (hok2 : ∀ j,j < n -> okO (F j) = true)
  (hK : K (callF σ o.dst pi ph b n q res hd F)) : zC9 P ops i o σ K:=by
 refine zD (K:=K) hspec pi (poF ph b n) q hg hop hc hfo hb hd' hargs hobj hndi (by simp [poF,hlen]) (zIo (fun x y k hx hy=>?_)) (zFi (fun j k hj=>?_)) ?_ (by rw [zFy hlen hlt]; exact hK)
 ·rcases zB3 hx with ⟨a1,a2⟩ | ⟨a1,a2,a3⟩ <;> rcases zB3 hy with ⟨b1,b2⟩ | ⟨b1,b2,b3⟩
  ·exact zFH hndo a2 b2
  ·have:=hlt k (List.mem_of_getElem? a2); omega
  ·have:=hlt k (List.mem_of_getElem? b2); omega
  ·omega
 ·rcases zB3 hj with ⟨a1,a2⟩ | ⟨a1,a2,a3⟩
  ·rcases zC0 hpo j k a2 with g | ⟨g,t,c,ty,cs,ty',cs',g1,g2,g3,g4,g5⟩
   ·exact .inl g
   ·exact .inr ⟨g,t,c,ty,cs,ty',cs',g1,g2,g3,by rw [List.getElem?_append_left (by omega)]; exact g4,g5⟩
  ·exact .inl (by omega)
 ·rw [List.all_append,Bool.and_eq_true]
  refine ⟨hok,List.all_eq_true.2 fun x hx=>?_⟩
  obtain ⟨j,hj,rfl⟩:=List.getElem_of_mem hx
  rw [zu] at hj
  have:=zP F hj
  rw [List.getElem?_eq_getElem (by simpa using hj)] at this
  injection this with this
  rw [this]
  exact hok2 j hj
theorem zRZ {P : Program} {rs : List ResultVar} {res : AV} {hd : List AObj} {n : Nat} {F : Nat -> AObj} {e : Exit} {σ : ASt} (mp : List (Nat × Option Nat)) (g : Nat -> Nat) (he : e = .normal \/ e = .ret) (hh : wkH σ (zBY mp hd.length n g) (zBd mp n g) (hd.length + n) (idxF 0 hd) mp) (hn : keysNd mp) (hg : wkPs σ.heap (zBY mp hd.length n g) (zBd mp n g) (hd.length + n) σ.gh σ.gh)
  (hF : ∀ j,j < n -> unm mp (g j) /\ wkO σ.heap (zBY mp hd.length n g) (zBd mp n g) (hd.length + n) (some (g j)) (F j)) (hi : ∀ i j,i < n -> j < n -> g i = g j -> i = j) (l : List AV)
  (hm : match l,res with
   | [a],r=>wkP σ.heap (zBY mp hd.length n g) (zBd mp n g) (hd.length + n) a r
   | l,.tup bs=>l.length ≠ 1 /\ wkPs σ.heap (zBY mp hd.length n g) (zBd mp n g) (hd.length + n) l bs
   | _,_=>False) (hl : resV P σ rs = some l) : ∃ m un,resG P rs res (hd ++ tab n F) m un e σ:=by
 have hlen : (hd ++ tab n F).length = hd.length + n:=by simp
 have hheap : ∀ id,(hd ++ tab n F)[id]? = zCj (idxF 0 hd) hd.length n F id:=fun id=>by
  unfold zCj
  rw [zCJ]
  by_cases h1 : id < hd.length
  ·rw [if_pos h1,List.getElem?_append_left h1]; simp
  ·rw [if_neg h1,List.getElem?_append_right (by omega)]
   by_cases h2 : id - hd.length < n
   ·rw [if_pos h2,zP _ h2]
   ·rw [if_neg h2,zA1 _ (by omega)]
 have key:=zGD (σ:=σ) (hl:=idxF 0 hd) (base:=hd.length) (n:=n) (F:=F) (nx:=hd.length + n) mp g hh hn (fun j hj=>⟨by omega,hF j hj⟩) hi
 refine ⟨zBY mp hd.length n g,zBd mp n g,he,fun id o ho=>?_,⟨fun h1 h2=>key.2.inj h1 h2,fun h=>key.2.un h,fun {id} h=>?_⟩,by rw [hlen]; exact hg,l,hl,by rw [hlen]; exact hm⟩
 ·rw [hlen]
  rw [hheap] at ho
  exact (key.1 id o ho).2
 ·have h : (hd ++ tab n F)[id]? = none:=h
  rw [hheap] at h
  exact key.2.no h
def FnK (P : Program) (f : FuncId) (args : List AV) (H : List AObj) (res : AV) (H' : List AObj) (kp : List Nat) : Prop:=∀ (w : World) (V : Nat -> Prop) (ob : Nat -> Option (Value × Nat)) (vs : Array Value),MR w V (OB ob) (fun k=>k < H.length) (fun k=>H[k]?) ob w -> vs.size = args.length →
 (∀ (i : Nat) c,args[i]? = some c -> VR (za w.heap.size V ob (fun k=>k < H.length) w) (vs.getD i undef) c) →
 Calls P f vs w (fun e w'=>∃ v ob',e = .returned v /\ MR w V (OB ob) (fun k=>k < H'.length) (fun k=>H'[k]?) ob' w' /\ VR (za w.heap.size V ob' (fun k=>k < H'.length) w') v res /\ GhR (za w.heap.size V ob' (fun k=>k < H'.length) w') (fun i=>vs.getD i undef) (ghA args) /\ ∀ j,j ∈ kp -> ob' j = ob j)
theorem zMK {P : Program} {f : FuncId} {fn : Func} {c : Code} {args : List AV} {H H' : List AObj} {res : AV} (k n : Nat) {e0 z0 p0 e1 z1 p1 : Nat} {cs0 cs1 : List T} (hk : H[k]? = some (.row e0 z0 p0 cs0)) (hk' : H'[k]? = some (.row e1 z1 p1 cs1)) (hn0 : cs0.length = n) (hn1 : cs1.length = n)
  (hf : P.funcs[f]? = some fn) (hb : fn.body = some c) (hle : args.length <= fn.ntmps) (h : awp P c (fun e σ=>zRP P fn.results.toList res H' e σ /\ σ.gh = ghA args ++ [.own k n]) { zBz args H fn.ntmps with gh:=ghA args ++ [.own k n] }) : FnK P f args H res H' [k]:=by
 intro w V ob vs hm hn hv
 refine calls_of_wp hf hb ?_
 obtain ⟨e,σ',h1,hq,hga⟩:=h
 obtain ⟨m,un,he,hwh,hmp,hgh,l,hl,hmm⟩:=zBN hq
 obtain ⟨-,u,hob,hor⟩:=hm.obj k _ hk
 have hu1 : u.oneCell' = true:=by
  obtain ⟨-,-,m',vs',how,-⟩:=hor
  rcases how.2 with ⟨rfl,-⟩ | ⟨g,cap,cur,rfl,-⟩ <;> rfl
 have hga0 : (ghA args).length = args.length:=by simp [ghA]
 obtain ⟨gv,hgv⟩ : ∃ gv : Nat -> Value,gv = fun i=>if i < args.length then vs.getD i undef else u:=⟨_,rfl⟩
 have hrel : Rel w V (OB ob) gv { zBz args H fn.ntmps with gh:=ghA args ++ [.own k n] } { tmps:=vs ++ Array.replicate (fn.ntmps - vs.size) undef,defers:=[] } w:=by
  refine ⟨ob,hm,fun t=>?_,rfl,by simp [zBz]; omega,fun i c hi=>?_⟩
  ·show VR _ _ (args.getD t .any)
   cases hq : args[t]? with
   | none=>simp [hq]; exact .any _
   | some c =>
    have hlt : t < vs.size:=by rw [hn]; exact (List.getElem?_eq_some_iff.1 hq).1
    have h1:=hv t c hq
    have e : (vs ++ Array.replicate (fn.ntmps - vs.size) undef).getD t undef = vs.getD t undef:=by
     simp only [Array.getD,Array.size_append,Array.size_replicate,hlt,dif_pos,show t < vs.size + (fn.ntmps - vs.size) by omega]
     exact Array.getElem_append_left hlt
    rw [e]
    simp only [hq,List.getD_eq_getElem?_getD,Option.getD_some]
    exact h1
  ·have hi : (ghA args ++ [AV.own k n])[i]? = some c:=hi
   by_cases hlt : i < args.length
   ·rw [List.getElem?_append_left (by omega)] at hi
    rw [hgv]
    simp only [hlt,if_true]
    unfold ghA at hi
    rw [List.getElem?_map] at hi
    cases hq : args[i]? with
    | none=>rw [hq] at hi; cases hi
    | some a =>
     rw [hq] at hi
     simp only [Option.map_some,Option.some.injEq] at hi
     subst hi
     have h1:=hv i a hq
     cases a <;> first | exact h1 | exact .any _
   ·rw [List.getElem?_append_right (by omega)] at hi
    obtain ⟨d,hd⟩ : ∃ d,d = i - (ghA args).length:=⟨_,rfl⟩
    rw [← hd] at hi
    rcases d with _ | d
    ·simp at hi
     subst hi
     rw [hgv]
     simp only [hlt,if_false]
     refine .own u k n hu1 (List.getElem?_eq_some_iff.1 hk).1 (fun u' n' hu'=>?_)
     have hu' : ob k = some (u',n'):=hu'
     rw [hob] at hu'
     simp only [Option.some.injEq,Prod.mk.injEq,AObj.cnt] at hu'
     obtain ⟨rfl,rfl⟩:=hu'
     exact ⟨by omega,fun _=>rfl⟩
    ·simp at hi
 refine wp_mono (h1 w V _ _ _ w hrel) ?_
 rintro e' a w' ⟨rfl,ob2,m1,m2,m3,m4,m5⟩
 obtain ⟨rs,r1,r2,r3⟩:=zBH (P:=P) m1 m2 fn.results.toList l hl
 have hm2:=m1.wk (nx:=H'.length) (fun id o ho=>⟨(List.getElem?_eq_some_iff.1 ho).1,hwh id o ho⟩) hmp
 have hgall : ∀ (i : Nat) c,(ghA args ++ [AV.own k n])[i]? = some c -> VR (za w.heap.size V (obW ob2 (fun k=>H'[k]?) m) (fun k=>k < H'.length) w') (gv i) c:=fun i c hi=>by
  obtain ⟨a',ha,hac⟩:=(zAA hgh).2 i c (by rw [hga]; exact hi)
  exact (m5 i a' ha).wk m1 hmp c hac
 have hkeep : obW ob2 (fun k=>H'[k]?) m k = ob k:=by
  have q:=hgall args.length (.own k n) (by rw [List.getElem?_append_right (by omega)]; simp [hga0])
  obtain ⟨-,u',g1,-⟩:=hm2.obj k _ hk'
  have e1 : gv args.length = u:=by rw [hgv]; simp
  rw [e1] at q
  cases q with
  | own v id c g2 hU hh =>
   have:=(hh u' _ g1).2 (by simp [AObj.cnt,hn1])
   rw [g1,hob,this]
   simp [AObj.cnt,hn0,hn1]
 have fin : a.defers = [] /\ ∃ v,(results fn a.tmps).run P w' = .ok v w' /\ ∃ v' ob',Ending.returned v = .returned v' /\ MR w V (OB ob) (fun k=>k < H'.length) (fun k=>H'[k]?) ob' w' /\ VR (za w.heap.size V ob' (fun k=>k < H'.length) w') v' res /\ GhR (za w.heap.size V ob' (fun k=>k < H'.length) w') (fun i=>vs.getD i undef) (ghA args) /\ ∀ j,j ∈ [k] -> ob' j = ob j:=by
  refine ⟨m3,?_⟩
  have hrun : (results fn a.tmps).run P w' = .ok (if h : rs.toArray.size = 1 then rs.toArray[0] else .tuple rs.toArray) w':=by
   rw [zDE,Array.mapM_eq_mapM_toList]
   simp [r1]
  refine ⟨_,hrun,_,_,rfl,hm2,?_,fun i c hi=>?_,fun j hj=>?_⟩
  ·split at hmm
   ·rename_i x
    have hl1 : rs.length = 1:=by simpa using r2
    obtain ⟨v,rfl⟩ : ∃ v,rs = [v]:=by
     cases rs with
     | nil=>simp at hl1
     | cons v r=>cases r with
      | nil=>exact ⟨v,rfl⟩
      | cons _ _=>simp at hl1
    exact (r3 0 v x rfl rfl).wk m1 hmp res hmm
   ·rename_i l' bs hne
    obtain ⟨e1,e2⟩:=zAA hmm.2
    have hl1 : ¬ rs.toArray.size = 1:=by simp; omega
    rw [dif_neg hl1]
    refine .tup _ _ (by simp; omega) (fun i b hi=>?_)
    obtain ⟨x,hx,hxb⟩:=e2 i b hi
    have hlt : i < rs.length:=by rw [r2]; exact (List.getElem?_eq_some_iff.1 hx).1
    have:=(r3 i rs[i] x (by simp) hx).wk m1 hmp b hxb
    have e : rs.toArray.getD i undef = rs[i]:=by simp [Array.getD,hlt]
    rw [e]
    exact this
   ·exact hmm.elim
  ·have hlt : i < args.length:=by rw [← hga0]; exact (List.getElem?_eq_some_iff.1 hi).1
   have:=hgall i c (by rw [List.getElem?_append_left (by omega)]; exact hi)
   rw [hgv] at this
   simpa [hlt] using this
  ·obtain rfl : j = k:=by simpa using hj
   exact hkeep
 rcases he with rfl | rfl <;> exact fin
def zN8 (kp : List Nat) (i : Nat) (pi : List Nat) (args : List AV) (H H' : List AObj) : Nat -> List Nat -> Prop
 | _,[]=>True
 | j,k :: r=>((i <= k /\ k < i + 1000000) \/ (pi[j]? = some k /\ ∃ (t c ty : Nat) (cs : List AV) (ty' : Nat) (cs' : List AV),args[t]? = some (AV.ptr j 0 c) /\ H[j]? = some (AObj.box ty cs) /\ cs.length = c /\ H'[j]? = some (AObj.box ty' cs') /\ cs'.length = c) \/ (pi[j]? = some k /\ j ∈ kp /\ j < H.length)) /\ zN8 kp i pi args H H' (j + 1) r
theorem zGS {kp : List Nat} {i : Nat} {pi : List Nat} {args : List AV} {H H' : List AObj} : ∀ {po : List Nat} {j0 : Nat},zN8 kp i pi args H H' j0 po -> ∀ (j : Nat) k,po[j]? = some k -> (i <= k /\ k < i + 1000000) \/ (pi[j0 + j]? = some k /\ ∃ (t c ty : Nat) (cs : List AV) (ty' : Nat) (cs' : List AV),args[t]? = some (AV.ptr (j0 + j) 0 c) /\ H[j0 + j]? = some (AObj.box ty cs) /\ cs.length = c /\ H'[j0 + j]? = some (AObj.box ty' cs') /\ cs'.length = c) \/ (pi[j0 + j]? = some k /\ j0 + j ∈ kp /\ j0 + j < H.length)
 | [],j0,_,j,k,h=>by simp at h
 | a :: r,j0,hp,j,k,h=>by
  cases j with
  | zero=>simp at h; subst h; exact hp.1
  | succ j =>
   have:=zGS hp.2 j k (by simpa using h)
   rw [show j0 + (j + 1) = j0 + 1 + j by omega]
   exact this
theorem zO3 {P : Program} {ops : Array Oper} {i : Nat} {o : Oper} {σ : ASt} {cl : Call} {fo : Operand} {f : FuncId} {caps : List AV} {args : List AV} {H H' : List AObj} {res : AV} {kp : List Nat} (pi po : List Nat) (q : Nat)
  (hg : gd ops σ o = some true) (hop : o.op = .call cl) (hc : cl.callee = .value fo) (hfo : σ.eval fo = .fn f caps) (hb : zBy P f = true) (hspec : FnK P f args H res H' kp) (hd : zAu σ o = true)
  (hargs : inPs σ.heap pi q (cl.args.toList.map σ.eval ++ caps) args) (hobj : inOs σ.heap pi q pi H) (hndi : ndL pi) (hlen : po.length = H'.length) (hndo : ndL po) (hpo : zN8 kp i pi args H H' 0 po) (hok : H'.all okO = true) :
  OpS P ops i o σ (callS σ o.dst pi po q res H'):=by
 intro w0 V S0 gv U a w hR hnew K Q hK
 obtain ⟨ob,m1,m2,m3,m4,m5⟩:=hR
 have hw : Region.wanted o (yielded ops a.tmps) = true:=zBO hg m2 m4
 rw [if_pos hw]
 have hfv:=VR.eval m1.glE m2 fo
 rw [hfo] at hfv
 obtain ⟨cvs,hcv,hcn,hcr⟩ : ∃ cvs : Array Value,a.eval fo = .func (.func f) #[] cvs /\ cvs.size = caps.length /\ ∀ (j : Nat) c,caps[j]? = some c -> VR (za w0.heap.size V ob U w) (cvs.getD j undef) c:=by
  generalize a.eval fo = v at hfv
  cases hfv with
  | fn f vs cs hn hr=>exact ⟨vs,rfl,hn,hr⟩
 have hmi:=m1.in_ hobj hndi
 have hpl:=(zBt hobj).1
 obtain ⟨hal,hag⟩:=zBS hargs
 obtain ⟨vs,hvs⟩ : ∃ vs,vs = cl.args.map a.eval ++ cvs:=⟨_,rfl⟩
 have hvn : vs.size = args.length:=by rw [hvs,← hal]; simp [hcn]
 have hvv : ∀ (j : Nat) c,args[j]? = some c -> VR (za w.heap.size (V1 w0 V ob pi q) (obI ob pi) (fun k=>k < H.length) w) (vs.getD j undef) c:=fun j c hj=>by
  obtain ⟨x,hx,hxc⟩:=hag j c hj
  refine VR.in_ m1 hpl ?_ c hxc
  rw [hvs]
  by_cases hlt : j < cl.args.size
  ·rw [List.getElem?_append_left (by simpa using hlt),List.getElem?_map] at hx
   have e1 : cl.args.toList[j]? = some cl.args[j]:=by simp [hlt]
   rw [e1] at hx
   simp only [Option.map_some,Option.some.injEq] at hx
   subst hx
   have e2 : (cl.args.map a.eval ++ cvs).getD j undef = a.eval cl.args[j]:=by
    have h3 : j < (cl.args.map a.eval ++ cvs).size:=by simp; omega
    simp only [Array.getD,h3,dif_pos]
    show (cl.args.map a.eval ++ cvs)[j] = _
    rw [Array.getElem_append_left (by simpa using hlt)]
    simp
   rw [e2]
   exact VR.eval m1.glE m2 _
  ·rw [List.getElem?_append_right (by simp; omega)] at hx
   have hx : caps[j - cl.args.size]? = some x:=by simpa using hx
   have hlt2:=(List.getElem?_eq_some_iff.1 hx).1
   have e2 : (cl.args.map a.eval ++ cvs).getD j undef = cvs.getD (j - cl.args.size) undef:=by
    have h3 : j < (cl.args.map a.eval ++ cvs).size:=by simp; omega
    have h4 : j - cl.args.size < cvs.size:=by omega
    simp only [Array.getD,h3,h4,dif_pos]
    show (cl.args.map a.eval ++ cvs)[j] = cvs[j - cl.args.size]
    rw [Array.getElem_append_right (by simp; omega)]
    simp
   rw [e2]
   exact hcr _ x hx
 have hcall:=hspec w (V1 w0 V ob pi q) (obI ob pi) vs hmi hvn hvv
 unfold Oper.wp execOp
 simp only [hop,resolve,hc,invoke,Sem.run_bind]
 rw [hcv]
 simp only [Deferred.ofValue,Sem.run_pure,Result.andThen_ok,Array.empty_append]
 rw [← hvs,zJC hb]
 show Calls P f vs w _
 refine hcall.mono ?_
 rintro e w' ⟨v,ob1,rfl,hm2,hv2,hgh2,hkp⟩
 have hret : Ret w0 w w' V S0 U σ.heap ob ob1 pi po q i H':=by
  refine ⟨m1,hm2,hlen,hndo,hnew,fun k hk=>?_,fun j k hj=>?_,fun j o' ho'=>List.all_eq_true.1 hok o' (List.mem_of_getElem? ho')⟩
  ·obtain ⟨j,hj,hjk⟩:=List.getElem_of_mem hk
   obtain ⟨k',e1,e2⟩:=(zBt hobj).2 j (H[j]'(by omega)) (by simp)
   have hkk : k' = k:=by
    rw [List.getElem?_eq_getElem hj,hjk] at e1
    injection e1 with e1
    exact e1.symm
   subst hkk
   cases hH : σ.heap k' with
   | none=>rw [hH] at e2; exact e2.elim
   | some ob0=>exact (m1.obj k' ob0 hH).1
  ·have:=zGS hpo j k hj
   rw [Nat.zero_add] at this
   rcases this with g | ⟨g,t,c,ty,cs,ty',cs',h1,h2,h3,h4,h5⟩ | ⟨g,g1,g2⟩
   ·exact .inl g
   ·refine .inr ⟨List.mem_of_getElem? g,?_⟩
    obtain ⟨-,u,e1,b,bs,rfl,-,-⟩:=hmi.obj j _ h2
    obtain ⟨-,u',e2,b',bs',rfl,-,-⟩:=hm2.obj j _ h4
    have e1' : ob k = some (.pointer (some ⟨b,0,none⟩),cs.length):=by
     have : obI ob pi j = ob k:=by unfold obI; rw [g]; rfl
     rw [← this]; exact e1
    have q1:=hvv t _ h1
    have q2 : VR (za w.heap.size (V1 w0 V ob pi q) ob1 (fun k=>k < H'.length) w') (vs.getD t undef) (.ptr j 0 c):=hgh2 t (.ptr j 0 c) (by simp [ghA,h1,ghA1])
    have r1 : ∃ b0,blk (.pointer (some ⟨b,0,none⟩)) = some b0 /\ vs.getD t undef = .pointer (some ⟨b0,0,none⟩):=by
     generalize vs.getD t undef = x at q1
     cases q1 with
     | ptr v id off c h1 hU hh=>exact (hh _ _ e1).2 (by simp [AObj.cnt,h3])
    have r2 : ∃ b0,blk (.pointer (some ⟨b',0,none⟩)) = some b0 /\ vs.getD t undef = .pointer (some ⟨b0,0,none⟩):=by
     generalize vs.getD t undef = x at q2
     cases q2 with
     | ptr v id off c h1 hU hh=>exact (hh _ _ e2).2 (by simp [AObj.cnt,h5])
    obtain ⟨b0,x1,x2⟩:=r1
    obtain ⟨b1,x3,x4⟩:=r2
    rw [x2] at x4
    have : b = b':=by
     simp only [blk,Option.some.injEq] at x1 x3
     simp only [Value.pointer.injEq,Option.some.injEq,Addr.mk.injEq] at x4
     omega
    subst this
    refine ⟨_,_,e2,?_⟩
    rw [e1']
    simp [AObj.cnt,h3,h5]
   ·refine .inr ⟨List.mem_of_getElem? g,?_⟩
    obtain ⟨-,u,e1,-⟩:=hmi.obj j H[j] (by simp [g2])
    have e1' : obI ob pi j = ob k:=by unfold obI; rw [g]; rfl
    have e2 : ob1 j = obI ob pi j:=hkp j g1
    exact ⟨_,_,e2.trans e1,e1'.symm.trans e1⟩
 refine hK _ _ ?_
 have hx:=hret.ext
 exact zD1.zRh (σ:=σ) hret.mr (fun t=>(m2 t).ext hx) m3 m4 (m5.ext hx) hd (VR.out hret hv2)
theorem zAc {P : Program} {ops : Array Oper} {i : Nat} {o : Oper} {σ : ASt} {K : ASt -> Prop} {cl : Call} {fo : Operand} {f : FuncId} {caps : List AV} {args : List AV} {H H' : List AObj} {res : AV} {kp : List Nat} (hspec : FnK P f args H res H' kp) (pi po : List Nat) (q : Nat)
  (hg : gd ops σ o = some true) (hop : o.op = .call cl) (hc : cl.callee = .value fo) (hfo : σ.eval fo = .fn f caps) (hb : zBy P f = true) (hd : zAu σ o = true)
  (hargs : inPs σ.heap pi q (cl.args.toList.map σ.eval ++ caps) args) (hobj : inOs σ.heap pi q pi H) (hndi : ndL pi) (hlen : po.length = H'.length) (hndo : ndL po) (hpo : zN8 kp i pi args H H' 0 po) (hok : H'.all okO = true)
  (hK : K (callS σ o.dst pi po q res H')) : zC9 P ops i o σ K :=
 ⟨_,zO3 pi po q hg hop hc hfo hb hspec hd hargs hobj hndi hlen hndo hpo hok,rfl,hK⟩
theorem zCv {P : Program} {a b : Code} {Q : Exit -> ASt -> Prop} {σ : ASt} (R : ASt -> Prop) (h1 : ∀ σ',R σ' -> awp P b Q σ') (h2 : awp P a (fun e σ'=>match e with | .normal=>R σ' | e=>Q e σ') σ) : awp P (.seq a b) Q σ:=by
 refine zA (zBp h2 ?_)
 intro e σ' h
 cases e <;> first | exact h1 σ' h | exact h
theorem zSy {x : Nat} (hx : x < 9223372036854775808) : IntKind.i64.wrap (x : Int) = (x : Int):=by
 rw [IntKind.wrap_i64]; omega
theorem zTr {x y : Nat} (hx : x < 4611686018427387904) (hy : y < 4611686018427387904) : orI .i64 (x : Int) (y : Int) = ((x ||| y : Nat) : Int):=by
 unfold orI
 have b1 : (BitVec.ofInt IntKind.i64.bits (x : Int)).toNat = x:=by
  show (BitVec.ofInt 64 (x : Int)).toNat = x
  rw [BitVec.toNat_ofInt]; omega
 have b2 : (BitVec.ofInt IntKind.i64.bits (y : Int)).toNat = y:=by
  show (BitVec.ofInt 64 (y : Int)).toNat = y
  rw [BitVec.toNat_ofInt]; omega
 have:=Nat.or_lt_two_pow (n:=62) hx hy
 rw [BitVec.toNat_or,b1,b2,zSy (by omega)]
theorem zQ7 {k : Nat} (hk : k <= 60) : zOm .i64 1 (k : Int) = ((1 <<< k : Nat) : Int):=by
 unfold zOm
 have e : min (k : Int).toNat IntKind.i64.bits = k:=by
  show min (k : Int).toNat 64 = k
  omega
 have h2 : 2 ^ k <= 2 ^ 60:=Nat.pow_le_pow_right (by omega) hk
 rw [e,show ((1 : Int) * 2 ^ k) = ((1 * 2 ^ k : Nat) : Int) by push_cast; rfl,zSy (by omega),Nat.one_shiftLeft,Nat.one_mul]
theorem zI5 {H : Nat -> Option AObj} {pi : List Nat} {q : Nat} : ∀ {a b : List Nat} {x y : List AObj},inOs H pi q a x -> inOs H pi q b y -> inOs H pi q (a ++ b) (x ++ y)
 | [],_,[],_,_,h=>h
 | k :: a,b,o :: x,y,h1,h2=>⟨h1.1,zI5 h1.2 h2⟩
 | [],_,_ :: _,_,h,_=>h.elim
 | _ :: _,_,[],_,h,_=>h.elim
theorem zLN {H : Nat -> Option AObj} {pi : List Nat} {q : Nat} : ∀ {ks : List Nat} {os : List AObj},ks.length = os.length -> (∀ (j : Nat) k o,ks[j]? = some k -> os[j]? = some o -> inO H pi q (H k) o) -> inOs H pi q ks os
 | [],[],_,_=>trivial
 | k :: ks,o :: os,hl,h=>⟨h 0 k o rfl rfl,zLN (by simpa using hl) (fun j k o hk ho=>h (j + 1) k o (by simpa using hk) (by simpa using ho))⟩
 | [],_ :: _,h,_=>by simp at h
 | _ :: _,[],h,_=>by simp at h
theorem zOb {H : Nat -> Option AObj} {pi : List Nat} {q b n : Nat} {F : Nat -> AObj} (h : ∀ j,j < n -> inO H pi q (H (b + j)) (F j)) : inOs H pi q (tab n fun j=>b + j) (tab n F) :=
 zLN (by simp) (fun j k o hk ho=>by
  have hj:=(List.getElem?_eq_some_iff.1 hk).1
  rw [zu] at hj
  rw [zP _ hj] at hk ho
  injection hk with hk
  injection ho with ho
  subst hk ho
  exact h j hj)
theorem zLP {H : Nat -> Option AObj} {pi : List Nat} {q : Nat} : ∀ {aS bs : List AV},aS.length = bs.length -> (∀ (i : Nat) a b,aS[i]? = some a -> bs[i]? = some b -> inP H pi q a b) -> inPs H pi q aS bs
 | [],[],_,_=>by simp [inPs]
 | a :: aS,b :: bs,h,hr=>by
  simp only [inPs]
  exact ⟨hr 0 a b rfl rfl,zLP (by simpa using h) (fun i x y hx hy=>hr (i + 1) x y (by simpa using hx) (by simpa using hy))⟩
 | [],_ :: _,h,_=>by simp at h
 | _ :: _,[],h,_=>by simp at h
theorem zOX {H : Nat -> Option AObj} {pi : List Nat} {q n : Nat} {A B : Nat -> AV} (h : ∀ j,j < n -> inP H pi q (A j) (B j)) : inPs H pi q (tab n A) (tab n B) :=
 zLP (by simp) (fun j a b ha hb=>by
  have hj:=(List.getElem?_eq_some_iff.1 ha).1
  rw [zu] at hj
  rw [zP _ hj] at ha hb
  injection ha with ha
  injection hb with hb
  subst ha hb
  exact h j hj)
theorem zBe {H : Nat -> Option AObj} {pi : List Nat} {q n : Nat} {A B : Nat -> AV} : inPs H pi q (tab n A) (tab n B) = ∀ j,j < n -> inP H pi q (A j) (B j):=by
 apply propext
 constructor
 ·intro h j hj
  obtain ⟨a,ha,hab⟩:=(zBS h).2 j _ (zP B hj)
  rw [zP _ hj] at ha
  injection ha with ha
  rw [ha]; exact hab
 ·exact zOX
theorem zTS {ph : List Nat} {b n j : Nat} (h : j < n) : (poF ph b n)[ph.length + j]? = some (b + j):=by
 unfold poF
 rw [List.getElem?_append_right (by omega),show ph.length + j - ph.length = j by omega,zP _ h]
theorem zSc {ph : List Nat} {b n j : Nat} (h : j < ph.length) : (poF ph b n)[j]? = ph[j]?:=by
 unfold poF
 rw [List.getElem?_append_left h]
theorem zND {ph : List Nat} {b n : Nat} (h : ndL ph) (hb : ∀ k,k ∈ ph -> k < b) : ndL (poF ph b n):=zIo (fun x y k hx hy=>by
 rcases zB3 hx with ⟨a1,a2⟩ | ⟨a1,a2,a3⟩ <;> rcases zB3 hy with ⟨b1,b2⟩ | ⟨b1,b2,b3⟩
 ·exact zFH h a2 b2
 ·have:=hb k (List.mem_of_getElem? a2); omega
 ·have:=hb k (List.mem_of_getElem? b2); omega
 ·omega)
theorem zHe {P : Program} {ops : Array Oper} {i : Nat} {o : Oper} {σ : ASt} {K : ASt -> List Nat × List Nat -> Prop} {cl : Call} {fo : Operand} {f : FuncId} {caps : List AV} {args : List AV} {H hd : List AObj} {n : Nat} {F : Nat -> AObj} {res : AV} (hspec : FnS P f args H res (hd ++ tab n F)) (pi ph : List Nat) (b q : Nat)
  (hg : gd ops σ o = some true) (hop : o.op = .call cl) (hc : cl.callee = .value fo) (hfo : σ.eval fo = .fn f caps) (hb : zBy P f = true) (hd' : zAu σ o = true)
  (hargs : inPs σ.heap pi q (cl.args.toList.map σ.eval ++ caps) args) (hobj : inOs σ.heap pi q pi H) (hndi : ndL pi) (hlen : ph.length = hd.length) (hndo : ndL ph) (hpo : zOj i pi args H hd 0 ph) (hbb : i <= b /\ b + n <= i + 1000000) (hlt : ∀ k,k ∈ ph -> k < b) (hok : hd.all okO = true) (hok2 : ∀ j,j < n -> okO (F j) = true)
  (hK : K (callF σ o.dst pi ph b n q res hd F) ((pi ++ poF ph b n ++ refsVs (cl.args.toList.map σ.eval ++ caps) ++ pi.flatMap (zH0 σ.heap)) ++ (poF ph b n ++ pi),poF ph b n ++ pi)) : zCt P ops i o σ K:=by
 refine zS (K:=K) hspec pi (poF ph b n) q hg hop hc hfo hb hd' hargs hobj hndi (by simp [poF,hlen]) (zND hndo hlt) (zFi (fun j k hj=>?_)) ?_ (by rw [zFy hlen hlt]; exact hK)
 ·rcases zB3 hj with ⟨a1,a2⟩ | ⟨a1,a2,a3⟩
  ·rcases zC0 hpo j k a2 with g | ⟨g,t,c,ty,cs,ty',cs',g1,g2,g3,g4,g5⟩
   ·exact .inl g
   ·exact .inr ⟨g,t,c,ty,cs,ty',cs',g1,g2,g3,by rw [List.getElem?_append_left (by omega)]; exact g4,g5⟩
  ·exact .inl (by omega)
 ·rw [List.all_append,Bool.and_eq_true]
  refine ⟨hok,List.all_eq_true.2 fun x hx=>?_⟩
  obtain ⟨j,hj,rfl⟩:=List.getElem_of_mem hx
  rw [zu] at hj
  have:=zP F hj
  rw [List.getElem?_eq_getElem (by simpa using hj)] at this
  injection this with this
  rw [this]
  exact hok2 j hj
def zSN (b n : Nat) (f : Nat -> Option AObj) (k : Nat) : Option AObj:=if k < b then f k else if k - b < n then none else f k
theorem zLU (b n : Nat) (f : Nat -> Option AObj) {k : Nat} (h : k < b) : zSN b n f k = f k:=by unfold zSN; rw [if_pos h]
theorem zPB (f : Nat -> Option AObj) (ph : List Nat) (b n : Nat) (hb : ∀ k,k ∈ ph -> k < b) : delL f (poF ph b n) = zSN b n (delL f ph):=by
 funext k
 rw [zF7]
 unfold zSN
 rw [zF7]
 have hm : k ∈ poF ph b n ↔ k ∈ ph \/ (b <= k /\ k - b < n):=by
  constructor
  ·intro h
   obtain ⟨j,hj,e⟩:=List.getElem_of_mem h
   rcases zB3 (j:=j) (k:=k) (by rw [List.getElem?_eq_getElem hj,e]) with ⟨-,a⟩ | ⟨a,a2,a3⟩
   ·exact .inl (List.mem_of_getElem? a)
   ·exact .inr (by omega)
  ·rintro (h | ⟨h1,h2⟩)
   ·unfold poF; simp [h]
   ·have:=zTS (ph:=ph) (b:=b) h2
    rw [show b + (k - b) = k by omega] at this
    exact List.mem_of_getElem? this
 by_cases h1 : k < b
 ·rw [if_pos h1]
  by_cases h2 : k ∈ ph
  ·rw [if_pos h2,if_pos (hm.2 (.inl h2))]
  ·rw [if_neg h2,if_neg (fun g=>by rcases hm.1 g with g | g <;> first | exact h2 g | omega)]
 ·rw [if_neg h1]
  by_cases h2 : k - b < n
  ·rw [if_pos h2,if_pos (hm.2 (.inr ⟨by omega,h2⟩))]
  ·have h3 : k ∉ ph:=fun g=>by have:=hb k g; omega
   rw [if_neg h2,if_neg h3,if_neg (fun g=>by rcases hm.1 g with g | g <;> first | exact h3 g | omega)]
def callFF (σ : ASt) (dst : Option Tmp) (pih : List Nat) (b0 n0 : Nat) (ph : List Nat) (b n q : Nat) (res : AV) (hd : List AObj) (F : Nat -> AObj) : ASt:={ σ with env:=match dst with | some d=>upd σ.env d (outV (poF ph b n) q res) | none=>σ.env,heap:=ovr b n (fun j=>outO (poF ph b n) q (F j)) (addL (zSN b0 n0 (delL σ.heap pih)) (ph.zip (hd.map (outO (poF ph b n) q)))) }
theorem zH3 {P : Program} {ops : Array Oper} {i : Nat} {o : Oper} {σ : ASt} {K : ASt -> Prop} {cl : Call} {fo : Operand} {f : FuncId} {caps : List AV} {args : List AV} {hd0 hd : List AObj} {n0 n : Nat} {F0 F : Nat -> AObj} {res : AV} (hspec : FnS P f args (hd0 ++ tab n0 F0) res (hd ++ tab n F)) (pih : List Nat) (b0 : Nat) (ph : List Nat) (b q : Nat)
  (hg : gd ops σ o = some true) (hop : o.op = .call cl) (hc : cl.callee = .value fo) (hfo : σ.eval fo = .fn f caps) (hb : zBy P f = true) (hd' : zAu σ o = true)
  (hargs : inPs σ.heap (poF pih b0 n0) q (cl.args.toList.map σ.eval ++ caps) args) (hobj : inOs σ.heap (poF pih b0 n0) q pih hd0) (hobj2 : ∀ j,j < n0 -> inO σ.heap (poF pih b0 n0) q (σ.heap (b0 + j)) (F0 j)) (hndi : ndL pih) (hlt0 : ∀ k,k ∈ pih -> k < b0)
  (hlen : ph.length = hd.length) (hndo : ndL ph) (hpo : zOj i pih args hd0 hd 0 ph) (hbb : i <= b /\ b + n <= i + 1000000) (hlt : ∀ k,k ∈ ph -> k < b) (hok : hd.all okO = true) (hok2 : ∀ j,j < n -> okO (F j) = true)
  (hK : K (callFF σ o.dst pih b0 n0 ph b n q res hd F)) : zC9 P ops i o σ K:=by
 have hl0 : pih.length = hd0.length:=(zBt hobj).1
 have heq : callF σ o.dst (poF pih b0 n0) ph b n q res hd F = callFF σ o.dst pih b0 n0 ph b n q res hd F:=by
  unfold callF callFF
  rw [zPB _ _ _ _ hlt0] <;> rfl
 refine zD (K:=K) hspec (poF pih b0 n0) (poF ph b n) q hg hop hc hfo hb hd' hargs (zI5 hobj (zOb hobj2)) (zND hndi hlt0) (by simp [poF,hlen]) (zND hndo hlt) (zFi (fun j k hj=>?_)) ?_ (by rw [zFy hlen hlt,heq]; exact hK)
 ·rcases zB3 hj with ⟨a1,a2⟩ | ⟨a1,a2,a3⟩
  ·rcases zC0 hpo j k a2 with g | ⟨g,t,c,ty,cs,ty',cs',g1,g2,g3,g4,g5⟩
   ·exact .inl g
   ·have hjl : 0 + j < pih.length:=(List.getElem?_eq_some_iff.1 g).1
    exact .inr ⟨by rw [zSc hjl]; exact g,t,c,ty,cs,ty',cs',g1,by rw [List.getElem?_append_left (by omega)]; exact g2,g3,by rw [List.getElem?_append_left (by omega)]; exact g4,g5⟩
  ·exact .inl (by omega)
 ·rw [List.all_append,Bool.and_eq_true]
  refine ⟨hok,List.all_eq_true.2 fun x hx=>?_⟩
  obtain ⟨j,hj,rfl⟩:=List.getElem_of_mem hx
  rw [zu] at hj
  have:=zP F hj
  rw [List.getElem?_eq_getElem (by simpa using hj)] at this
  injection this with this
  rw [this]
  exact hok2 j hj
def idxE (k : Nat) : List AV -> List (Nat × AV)
 | []=>[]
 | a :: r=>(k,a) :: idxE (k + 1) r
theorem zHJ : ∀ (l : List AV) (k t : Nat),envOf (idxE k l) t = if t < k then .any else l.getD (t - k) .any
 | [],k,t=>by simp [idxE,envOf]
 | a :: r,k,t=>by
  unfold idxE envOf
  rw [zHJ r (k + 1) t]
  by_cases e : t = k
  ·subst e; simp
  ·rw [if_neg e]
   by_cases h : t < k
   ·rw [if_pos h,if_pos (by omega)]
   ·rw [if_neg h,if_neg (by omega)]
    have : t - k = (t - (k + 1)) + 1:=by omega
    rw [this,List.getD_cons_succ]
theorem zPJ (args : List AV) (hd : List AObj) (n : Nat) (F : Nat -> AObj) (nt : Nat) : zBz args (hd ++ tab n F) nt = mkF (idxE 0 args) (idxF 0 hd) hd.length n F (hd.length + n) nt (ghA args):=by
 refine ASt.ext' (fun t=>?_) (fun id=>?_) (by simp [zBz,mkF]) rfl rfl
 ·show args.getD t .any = envOf (idxE 0 args) t
  rw [zHJ]
  simp
 ·show (hd ++ tab n F)[id]? = zCj (idxF 0 hd) hd.length n F id
  unfold zCj
  rw [zCJ]
  by_cases h1 : id < hd.length
  ·rw [if_pos h1,List.getElem?_append_left h1]; simp
  ·rw [if_neg h1,List.getElem?_append_right (by omega)]
   by_cases h2 : id - hd.length < n
   ·rw [if_pos h2,zP _ h2]
   ·rw [if_neg h2,zA1 _ (by omega)]
theorem FnS.wk {P : Program} {f : FuncId} {args : List AV} {H H' : List AObj} {res : AV} (h : FnS P f args H res H') {res2 : AV} {H2 : List AObj} (m : Nat -> Option Nat) (un : Nat -> Prop) (hh : ∀ id o,H2[id]? = some o -> wkO (fun k=>H'[k]?) m un H2.length (m id) o) (hmp : Mp (fun k=>H2[k]?) m un)
  (hr : wkP (fun k=>H'[k]?) m un H2.length res res2) (hg : wkPs (fun k=>H'[k]?) m un H2.length (ghA args) (ghA args)) : FnS P f args H res2 H2:=fun w V ob vs hm hn hv =>
 (h w V ob vs hm hn hv).mono fun e w' ⟨v,ob',h1,h2,h3,h4⟩=>by
  have h2' : MR w V (OB ob) (fun k=>k < H'.length) (⟨fun _=>.any,fun k=>H'[k]?,H'.length,0,[]⟩ : ASt).heap ob' w':=h2
  refine ⟨v,obW ob' (fun k=>H2[k]?) m,h1,h2'.wk (fun id o ho=>⟨(List.getElem?_eq_some_iff.1 ho).1,hh id o ho⟩) hmp,h3.wk h2' hmp _ hr,fun i c hi=>?_⟩
  obtain ⟨a,ha,hac⟩:=(zAA hg).2 i c hi
  exact (h4 i a ha).wk h2' hmp c hac
theorem FnS.frz {P : Program} {f : FuncId} {args : List AV} {H H' : List AObj} {res : AV} (h : FnS P f args H res H') {res2 : AV} (hr : wkP (fun k=>H'[k]?) (fun _=>none) (fun _=>True) 0 res res2) (hg : ∀ a ∈ args,ghA1 a = .any) : FnS P f args H res2 [] :=
 h.wk (fun _=>none) (fun _=>True) (fun id o ho=>by simp at ho) ⟨fun h=>by simp at h,fun _=>by simp,fun _=>rfl⟩ hr (zBx rfl (fun i a b ha hb=>by
  rw [ha] at hb
  injection hb with hb
  subst hb
  have hm:=List.mem_of_getElem? ha
  obtain ⟨x,hx,rfl⟩:=List.mem_map.1 (show a ∈ args.map ghA1 from hm)
  rw [hg x hx]
  simp [wkP]))
end Go.Proofs.YtgelfgpcnaeecaaGreatDoor.M
